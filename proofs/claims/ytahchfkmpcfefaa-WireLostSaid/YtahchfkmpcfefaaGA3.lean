import Derived.Test.YtahchfkmpcfefaaGA2
import Derived.RangeFuncSeq
import Derived.Laws.Cover3
set_option linter.unusedVariables false
set_option linter.unusedSimpArgs false
namespace Go.Am
open Go.RowKit
section
variable {E : Env} {s : St} {a : Act} {w : World} {S : Nat → Prop} {own : Nat → Option Nat} {C D : Nat → Prop} {Ds : List Nat}
theorem hls_back {L l':List (Nat × Blk)} {VS XV:Nat → Nat} {lent:List (Nat × Nat)} (h1:(lent.map (·.1)).Nodup) (h2:(lent.map (·.2)).Nodup) (hk':∀ k ∈ keys l',k ∈ lent.map (·.2)) :
  hls (dropK (lent.map (·.1)) L ++ backL lent l') (fun k=>if k ∈ lent.map (·.1) then XV (asc lent k) else VS k) = backH lent (hls l' XV) (hls L VS):=by
 funext k
 show (match lookB (dropK (lent.map (·.1)) L ++ backL lent l') k with | some b=>some b | none=>some (.dead _)) = (if k ∈ lent.map (·.1) then _ else _)
 by_cases hk:k ∈ lent.map (·.1)
 ·rw [if_pos hk,lookB_append,lookB_dropK,if_pos hk,Option.none_or,lookB_backL h1 h2 hk' hk]
  unfold hls
  cases e:lookB l' (asc lent k)
  ·simp only [Option.map_none,if_pos hk]; rfl
  ·rfl
 ·rw [if_neg hk,lookB_append,lookB_dropK,if_neg hk,lookB_backL_none h1 h2 hk' hk,Option.or_none]
  simp only [if_neg hk]
  rfl
theorem RelAt.lendY (h:RelAt E s a w S own C D Ds) {L:List (Nat × Blk)} {VS:Nat → Nat} (hH:s.H = hls L VS) {lent:List (Nat × Nat)} (h1:(lent.map (·.1)).Nodup) (h2:(lent.map (·.2)).Nodup) (hin:∀ p ∈ lent,p.1 ∈ keys L)
  (hliv:∀ p ∈ lent,∀ b,lookB L p.1 = some b → b.live = true) {g':G} {w':World} {S' C' D':Nat → Prop} {l':List (Nat × Blk)} {XV:Nat → Nat}
  (hok':HOk ⟨hls l' XV,(lendC E L VS w S own lent lent).own,S',w',E.l⟩) (hle':(lendC E L VS w S own lent lent).le ⟨hls l' XV,(lendC E L VS w S own lent lent).own,S',w',E.l⟩)
  (hgr:Grows w w' fun b=>C b ∨ LiveC (lendC E L VS w S own lent lent) b) (hS':∀ b,S' b → ¬ C' b ∧ E.T b) (hS2:∀ b,S' b → S b ∨ D b ∨ w.heap.size ≤ b) (hc1:∀ b,C' b → C b ∨ w.heap.size ≤ b)
  (hd1:∀ b,D' b → D b ∨ S b ∨ w.heap.size ≤ b) (hcd:∀ b,C' b → D' b) (hlt:∀ b,D' b → b < w'.heap.size) (hj:E.J g' C' D' w') (hk':keys l' = lent.map (·.2)) (hb':∀ p ∈ l',okB (inK (keys l')) p.2 = true) :
  ∃ VS'',RelAt E { s with H:=hls (dropK (lent.map (·.1)) L ++ backL lent l') VS'',g:=g' } a w' S' own C' D' Ds ∧
   (ctx E s w S own).le ⟨hls (dropK (lent.map (·.1)) L ++ backL lent l') VS'',own,S',w',E.l⟩:=by
 have hk2:∀ k ∈ keys l',k ∈ lent.map (·.2):=fun k hk=>hk' ▸ hk
 refine ⟨fun k=>if k ∈ lent.map (·.1) then XV (asc lent k) else VS k,?_⟩
 rw [hls_back (L:=L) (VS:=VS) (XV:=XV) h1 h2 hk2,← hH]
 obtain ⟨X,hX⟩:∃ X,X = lendC E L VS w S own lent lent:=⟨_,rfl⟩
 rw [← hX] at hok' hle' hgr
 have hXw:X.w = w:=by rw [hX]; rfl
 have hXl:X.l = E.l:=by rw [hX]; rfl
 have hXS:X.S = S:=by rw [hX]; rfl
 have hlent:∀ k,k ∈ lent.map (·.1) → ∃ b0,s.H k = some b0 ∧ b0.live = true ∧ X.H (asc lent k) = some (renB (asc lent) b0) ∧ X.own (asc lent k) = own k:=fun k hk=>by
  obtain ⟨p,hp,rfl⟩:=List.mem_map.1 hk
  obtain ⟨b0,hb0⟩:=lookB_of_key (hin p hp)
  refine ⟨b0,by rw [hH]; exact hls_some hb0,hliv p hp b0 hb0,?_,?_⟩
  ·rw [hX,asc_mem h1 hp,lendC_H,hls_some (lookB_lentL h2 hp),hb0]; rfl
  ·rw [hX,asc_mem h1 hp,lendC_own,if_pos (List.mem_map_of_mem (f:=(·.2)) hp),csa_mem h2 hp]
 let H'':Heap:=backH lent (hls l' XV) s.H
 have eC:∀ k,k ∈ lent.map (·.1) → H'' k = (hls l' XV (asc lent k)).map (renB (csa lent)):=fun k hk=>if_pos hk
 have eO:∀ k,k ∉ lent.map (·.1) → H'' k = s.H k:=fun k hk=>if_neg hk
 have hLive:∀ b,LiveC X b → ∃ k blk,k ∈ lent.map (·.1) ∧ s.H k = some blk ∧ blk.live = true ∧ own k = some b:=by
  rintro b ⟨k,blk,hk,hl,e⟩
  rw [hX,lendC_H] at hk
  rw [hX,lendC_own] at e
  have hm:k ∈ lent.map (·.2):=by
   rw [← keys_lentL (L:=L) (ks:=lent)]
   exact lookB_key (hls_live hk hl)
  obtain ⟨p,hp,rfl⟩:=List.mem_map.1 hm
  rw [if_pos hm,csa_mem h2 hp] at e
  obtain ⟨b0,q1,q2,_⟩:=hlent p.1 (List.mem_map_of_mem (f:=(·.1)) hp)
  exact ⟨p.1,b0,List.mem_map_of_mem (f:=(·.1)) hp,q1,q2,e⟩
 have hLin:∀ b,LiveC X b → b < w.heap.size ∧ ¬ S b ∧ ¬ D b ∧ (E.X0 b ∨ E.w0.heap.size ≤ b):=fun b hb=>by
  obtain ⟨k,blk,_,q2,q3,q4⟩:=hLive b hb
  exact h.hown k blk b q2 q3 q4
 have hother:∀ k blk g,k ∉ lent.map (·.1) → s.H k = some blk → blk.live = true → own k = some g → ¬ (C g ∨ LiveC X g):=fun k blk g hk hb hl e hL=>by
  rcases hL with hL | hL
  ·exact (h.hown k blk g hb hl e).2.2.1 (h.hC g hL).1
  ·obtain ⟨k2,blk2,q1,q2,q3,q4⟩:=hLive g hL
   exact hk (h.inj k k2 blk blk2 g hb q2 hl q3 e q4 ▸ q1)
 have hle:(ctx E s w S own).le ⟨H'',own,S',w',E.l⟩:=by
  refine ⟨fun b hb=>by have:=hle'.S b (by rw [hXS]; exact hb); rw [hXw] at this; exact this,fun k blk hk=>?_,rfl⟩
  have hk:s.H k = some blk:=hk
  by_cases hm:k ∈ lent.map (·.1)
  ·obtain ⟨b0,q1,q2,q3,q4⟩:=hlent k hm
   rw [hk] at q1
   cases q1
   obtain ⟨blk1,hb1,hv1,hr1⟩:=hle'.H (asc lent k) _ q3
   have hb1:hls l' XV (asc lent k) = some blk1:=hb1
   refine ⟨renB (csa lent) blk1,?_,?_,fun e r v hr=>?_⟩
   ·show H'' k = _
    rw [eC k hm,hb1]; rfl
   ·rw [renB_ver]; rw [renB_ver] at hv1; exact hv1
   ·rw [renB_ver] at e
    rw [RefVal.ren]
    have h9:=hr1 (by rw [renB_ver]; exact e) r v (by rw [RefVal.ren,q4,hXw]; exact hr)
    show RefVal w' (own k) blk1 r v
    rw [← q4]
    exact h9
  ·refine ⟨blk,(eO k hm).trans hk,Nat.le_refl _,fun _ r v hr=>?_⟩
   exact hr.same fun g e hl=>hgr.block g (h.hown k blk g hk hl e).1 (hother k blk g hm hk hl e)
 have hren:RenOk ⟨hls l' XV,X.own,S',w',E.l⟩ ⟨H'',own,S',w',E.l⟩ (csa lent) (inK (keys l')):=by
  refine ⟨fun b hb=>⟨hb,rfl⟩,fun k hk blk hb=>?_,rfl⟩
  have hm:=hk2 k (inK_iff.1 hk)
  have hb:hls l' XV k = some blk:=hb
  refine ⟨renB (csa lent) blk,?_,by rw [renB_ver]; exact Nat.le_refl _,fun _ r v hr=>?_⟩
  ·show H'' (csa lent k) = _
   rw [eC _ (csa_in h1 h2 hm),asc_csa h1 h2 hm,hb]; rfl
  ·rw [RefVal.ren]
   obtain ⟨b0,_,_,_,q4⟩:=hlent (csa lent k) (csa_in h1 h2 hm)
   rw [asc_csa h1 h2 hm] at q4
   show RefVal w' (own (csa lent k)) blk r v
   rw [← q4]
   exact hr
 have hw0:=h.fr.size
 have hcase:∀ k blk g,k ∈ lent.map (·.1) → H'' k = some blk → blk.live = true → own k = some g → ∃ blk1,hls l' XV (asc lent k) = some blk1 ∧ blk1.live = true ∧ X.own (asc lent k) = some g:=fun k blk g hm hk hl e=>by
  rw [eC k hm] at hk
  obtain ⟨b1,hb1,rfl⟩:=Option.map_eq_some_iff.1 hk
  obtain ⟨b0,_,_,_,q4⟩:=hlent k hm
  exact ⟨b1,hb1,by rw [← hl,renB_live],by rw [q4]; exact e⟩
 have hnS:∀ g,g < w.heap.size → ¬ S g → ¬ D g → ¬ S' g:=fun g q1 q2 q3 hs=>by
  rcases hS2 g hs with q | q | q
  ·exact q2 q
  ·exact q3 q
  ·omega
 have hnD:∀ g,g < w.heap.size → ¬ S g → ¬ D g → ¬ D' g:=fun g q1 q2 q3 hs=>by
  rcases hd1 g hs with q | q | q
  ·exact q3 q
  ·exact q2 q
  ·omega
 have old:∀ k blk g,H'' k = some blk → blk.live = true → own k = some g → ∃ b0,s.H k = some b0 ∧ b0.live = true:=fun k blk g hk hl e=>by
  by_cases hm:k ∈ lent.map (·.1)
  ·obtain ⟨b0,q1,q2,_⟩:=hlent k hm
   exact ⟨b0,q1,q2⟩
  ·rw [eO k hm] at hk
   exact ⟨blk,hk,hl⟩
 refine ⟨?_,hle⟩
 exact {
  fr:=h.fr.grows hgr fun b hb=>hb.elim (fun hb=>(h.hC b hb).2) fun hb=>(hLin b hb).2.2.2
  hS:=fun b hb=>⟨hok'.hS b hb,(hS' b hb).1,(hS' b hb).2⟩
  hS0:=fun b hb=>(hle'.S b (by rw [hXS]; exact h.hS0 b hb)).1
  hC:=fun b hb=>⟨hcd b hb,(hc1 b hb).elim (fun q=>(h.hC b q).2) fun q=>.inr (by omega)⟩
  hD:=hlt
  j:=hj
  hown:=fun k blk g hk hl e=>by
   obtain ⟨b0,q1,q2⟩:=old k blk g hk hl e
   obtain ⟨a1,a2,a3,a4⟩:=h.hown k b0 g q1 q2 e
   exact ⟨Nat.lt_of_lt_of_le a1 hgr.size,hnS g a1 a2 a3,hnD g a1 a2 a3,a4⟩
  inj:=fun k k' blk blk' g hk hk' hl hl' e e'=>by
   obtain ⟨b0,q1,q2⟩:=old k blk g hk hl e
   obtain ⟨b1,p1,p2⟩:=old k' blk' g hk' hl' e'
   exact h.inj k k' b0 b1 g q1 p1 q2 p2 e e'
  heap:=fun k blk hk=>by
   have hk:H'' k = some blk:=hk
   by_cases hm:k ∈ lent.map (·.1)
   ·have hk0:=hk
    rw [eC k hm] at hk0
    obtain ⟨b1,hb1,rfl⟩:=Option.map_eq_some_iff.1 hk0
    have hh:=hok'.heap _ b1 hb1
    obtain ⟨b0,_,_,_,q4⟩:=hlent k hm
    have hh:HRel ⟨hls l' XV,X.own,S',w',E.l⟩ (X.own (asc lent k)) b1:=hh
    rw [q4] at hh
    refine hh.ren hren (fun _ _ _=>rfl) ?_
    have hb2:=hb1
    unfold hls at hb2
    split at hb2
    ·rename_i b3 e3
     cases hb2
     exact hb' _ (lookB_mem e3)
    ·cases hb2; rfl
   ·rw [eO k hm] at hk
    exact (h.heap k blk hk).mono hle fun g e hl=>hgr.block g (h.hown k blk g hk hl e).1 (hother k blk g hm hk hl e)
  tmps:=fun i=>(h.tmps i).mono hle
  size:=h.size
  defers:=h.defers
  hDs:=fun d hd=>by
   obtain ⟨a1,a2,a3,a4⟩:=h.hDs d hd
   have hlt:=(Array.getElem?_eq_some_iff.1 a1).1
   have hdL:¬ (C d ∨ LiveC X d):=fun hL=>by
    rcases hL with hL | hL
    ·exact a4 (h.hC d hL).1
    obtain ⟨k2,blk2,q1,q2,q3,q4⟩:=hLive d hL
    have hh:=h.heap k2 blk2 q2
    rw [q4] at hh
    cases blk2 <;> first | (simp [Blk.live] at q3; done) | skip
    ·obtain ⟨cs,hcs,_⟩:=hh; rw [a1] at hcs; cases hcs
    ·obtain ⟨cs,cap,hcs,_⟩:=hh; rw [a1] at hcs; cases hcs
    ·obtain ⟨o,hcs,ho⟩:=hh; rw [a1] at hcs; cases hcs; exact ho.not.2.1 _ rfl
   exact ⟨(hgr.block d hlt hdL).trans a1,a2,hnS d hlt a3 a4,hnD d hlt a3 a4⟩
  nodup:=h.nodup
  le:=h.le.trans hle
  cd:=⟨fun b hb=>(hc1 b hb).elim (h.cd.c1 b) fun q=>.inr (by omega),fun b hb=>(hd1 b hb).elim (h.cd.d1 b) fun q=>.inr (q.elim (fun q=>(h.hS b q).2.2) fun q=>.inr (.inr (by omega)))⟩
  fix:=h.fix }
theorem csa_id {lent:List (Nat × Nat)} (h:∀ p ∈ lent,p.1 = p.2) (k:Nat):csa lent k = k:=by
 induction lent with
 | nil=>rfl
 | cons p r ih=>
  have h0:=h p (by simp)
  unfold csa
  split
  ·rename_i e; rw [h0]; exact e
  ·exact ih fun q hq=>h q (by simp [hq])
theorem RelAt.leX (h:RelAt E s a w S own C D Ds) {L:List (Nat × Blk)} {VS:Nat → Nat} (hH:s.H = hls L VS) {lent:List (Nat × Nat)} (h2:(lent.map (·.2)).Nodup) (hin:∀ p ∈ lent,p.1 ∈ keys L) (hid:∀ p ∈ lent,p.1 = p.2) :
  E.C0.le (lendC E L VS w S own lent lent):=by
 refine ⟨h.le.S,fun k blk hk=>?_,h.le.l⟩
 obtain ⟨blk',q1,q2,q3⟩:=h.le.H k blk hk
 have q1:s.H k = some blk':=q1
 by_cases hm:k ∈ lent.map (·.2)
 ·obtain ⟨p,hp,rfl⟩:=List.mem_map.1 hm
  obtain ⟨b0,hb0⟩:=lookB_of_key (hin p hp)
  rw [hid p hp] at hb0
  have e0:blk' = b0:=by
   rw [hH,hls_some hb0] at q1
   exact (Option.some.inj q1).symm
  subst e0
  refine ⟨renB (asc lent) blk',?_,by rw [renB_ver]; exact q2,fun e r v hr=>?_⟩
  ·rw [lendC_H,hls_some (lookB_lentL h2 hp),hid p hp,hb0]; rfl
  ·rw [renB_ver] at e
   rw [RefVal.ren,lendC_own,if_pos hm,csa_id hid]
   exact q3 e r v hr
 ·refine ⟨.dead (ver0 (hls L VS) (csa lent k)),?_,?_,fun e r v hr=>?_⟩
  ·rw [lendC_H]; exact hls_none (lookB_none (by rw [keys_lentL]; exact hm))
  ·show blk.ver ≤ ver0 (hls L VS) (csa lent k)
   rw [csa_id hid,← hH]
   unfold ver0
   rw [q1]
   exact q2
  ·cases (lendC E L VS w S own lent lent).own k <;> exact trivial
end
end Go.Am
namespace Go.Am
open Go.RowKit
structure Turned (w w':World) (S C D C' D':Nat → Prop):Prop where
 grows:Grows w w' C
 c1:∀ b,C' b → C b ∨ w.heap.size ≤ b
 d1:∀ b,D' b → D b ∨ S b ∨ w.heap.size ≤ b
 cd:∀ b,C' b → D' b
 lt:∀ b,D' b → b < w'.heap.size
def YOk (P:Program) (J:G → (Nat → Prop) → (Nat → Prop) → World → Prop) (l:Nat) (T:Nat → Prop):Prop:=
 ∀ (args:List AV) (rest:List (List AV)) (C D:Nat → Prop) (w:World) (S:Nat → Prop) (vs:List Value),J ⟨args :: rest,false⟩ C D w → (∀ b,C b → D b) → (∀ b,D b → b < w.heap.size) →
  (∀ b,S b → b < w.heap.size ∧ ¬ C b ∧ T b) → closedL args = true → RL (bare S w l) args vs →
  YieldAt (FW none) 0 P l vs.toArray w fun e w'=>∃ b C' D',e = .returned (.bool b) ∧ J ⟨rest,!b⟩ C' D' w' ∧ Turned w w' S C D C' D'
theorem YOk.mono {P:Program} {J:G → (Nat → Prop) → (Nat → Prop) → World → Prop} {l:Nat} {T T':Nat → Prop} (h:YOk P J l T) (hT:∀ b,T' b → T b):YOk P J l T':=
 fun args rest C D w S vs hj hcd hD hS2 hcl hR=>h args rest C D w S vs hj hcd hD (fun b hb=>⟨(hS2 b hb).1,(hS2 b hb).2.1,hT b (hS2 b hb).2.2⟩) hcl hR
def YOkH (P:Program) (J:G → (Nat → Prop) → (Nat → Prop) → World → Prop) (l:Nat) (T:Nat → Prop) (C0:Ctx):Prop:=
 ∀ (args:List AV) (lb lb':List (Nat × Blk)) (rest:List (List AV × List (Nat × Blk) × List (Nat × Blk))) (C D:Nat → Prop) (X:Ctx) (XV:Nat → Nat) (vs:List Value),J ⟨[],.h ((args,lb,lb') :: rest)⟩ C D X.w → (∀ b,C b → D b ∧ T b) → (∀ b,D b → b < X.w.heap.size) →
  X.H = hls lb XV → X.l = l → HOk X → C0.le X → (∀ b,X.S b → ¬ C b ∧ T b) → (∀ b,LiveC X b → ¬ D b ∧ T b) → closedL args = true → RL X args vs →
  YieldAt (FW none) 0 P l vs.toArray X.w fun e w'=>∃ b C' D' S' lbe,e = .returned (.bool b) ∧ J ⟨[],if b = true then .h rest else .e lbe⟩ C' D' w' ∧ (b = true → lbe = lb') ∧ keys lbe = keys lb ∧ (∀ p ∈ lbe,okB (inK (keys lbe)) p.2 = true) ∧
   HOk ⟨hls lbe XV,X.own,S',w',l⟩ ∧ X.le ⟨hls lbe XV,X.own,S',w',l⟩ ∧ Grows X.w w' (fun b=>C b ∨ LiveC X b) ∧ (∀ b,S' b → ¬ C' b ∧ T b) ∧ (∀ b,S' b → X.S b ∨ D b ∨ X.w.heap.size ≤ b) ∧
   (∀ b,C' b → C b ∨ X.w.heap.size ≤ b) ∧ (∀ b,D' b → D b ∨ X.S b ∨ X.w.heap.size ≤ b) ∧ (∀ b,C' b → D' b) ∧ ∀ b,D' b → b < w'.heap.size
structure YOkE (E:Env):Prop where
 y:YOk E.P E.J E.l E.T
 h:YOkH E.P E.J E.l E.T E.C0
def sealJ (J:G → (Nat → Prop) → (Nat → Prop) → World → Prop):G → (Nat → Prop) → (Nat → Prop) → World → Prop:=fun g C D w=>J g C D w ∧ ∃ b,g.stop = .b b
theorem sealJ_ok {J:G → (Nat → Prop) → (Nat → Prop) → World → Prop} (h:JOk J):JOk (sealJ J):=fun g C D w w' hj h1 h2 h3 h4 h5=>⟨h g C D w w' hj.1 h1 h2 h3 h4 h5,hj.2⟩
theorem sealJ_yok {P:Program} {J:G → (Nat → Prop) → (Nat → Prop) → World → Prop} {l:Nat} {T:Nat → Prop} (h:YOk P J l T):YOk P (sealJ J) l T:=fun args rest C D w S vs hj hcd hD hS hcl hR=>by
 obtain ⟨fn,tmps,assign,body,hy,hr⟩:=h args rest C D w S vs hj.1 hcd hD hS hcl hR
 exact ⟨fn,tmps,assign,body,hy,hr.mono fun e w' ⟨b,C',D',h1,h2,h3⟩=>⟨b,C',D',h1,⟨h2,_,rfl⟩,h3⟩⟩
theorem YOkH.none {P:Program} {J:G → (Nat → Prop) → (Nat → Prop) → World → Prop} {l:Nat} {T:Nat → Prop} {C0:Ctx} (h:∀ g C D w,J g C D w → ∃ b,g.stop = .b b):YOkH P J l T C0:=fun args lb lb' rest C D X XV vs hj=>by
 obtain ⟨b,hb⟩:=h _ _ _ _ hj
 cases hb
section
variable {E : Env} {s : St} {a : Act} {w : World} {S : Nat → Prop} {own : Nat → Option Nat} {C D : Nat → Prop} {Ds : List Nat} {o : Oper} {next : Act → World → Prop} {Q : Exit → Act → World → Prop} {ro : Option Nat}
theorem RelAt.le_turned (h:RelAt E s a w S own C D Ds) {w':World} {C' D':Nat → Prop} (ht:Turned w w' S C D C' D'):(ctx E s w S own).le (ctx E s w' S own) where
 S:=fun b hb=>⟨hb,ht.grows.block b (h.hS b hb).1 (h.hS b hb).2.1⟩
 H:=fun k blk hk=>⟨blk,hk,Nat.le_refl _,fun _ r v hr=>hr.same fun g e hl=>by
  obtain ⟨h1,h2,h3,h4⟩:=h.hown k blk g hk hl e
  exact ht.grows.block _ h1 fun hc=>h3 (h.hC g hc).1⟩
 l:=rfl
theorem RelAt.turned (h:RelAt E s a w S own C D Ds) {w':World} {C' D':Nat → Prop} (ht:Turned w w' S C D C' D') {g':G} (hj:E.J g' C' D' w') {d:Option Nat} (hd:∀ k,d = some k → k < E.n) {x:AV} {v:Value}
  (hv:R (ctx E s w' S own) x v):RelAt E { s with τ:=updO s.τ d x,g:=g' } (a.put d v) w' S own C' D' Ds:=by
 have hle:=h.le_turned ht
 have hw0:=h.fr.size
 exact {
  fr:=h.fr.grows ht.grows fun b hb=>(h.hC b hb).2
  hS:=fun b hb=>by
   obtain ⟨h1,h2,h3⟩:=h.hS b hb
   exact ⟨Nat.lt_of_lt_of_le h1 ht.grows.size,fun hc=>(ht.c1 b hc).elim h2 fun h4=>absurd h1 (by omega),h3⟩
  hS0:=h.hS0
  hC:=fun b hb=>⟨ht.cd b hb,(ht.c1 b hb).elim (fun h1=>(h.hC b h1).2) fun h1=>.inr (by omega)⟩
  hD:=ht.lt
  j:=hj
  hown:=fun k blk g hk hl e=>by
   obtain ⟨h1,h2,h3,h4⟩:=h.hown k blk g hk hl e
   exact ⟨Nat.lt_of_lt_of_le h1 ht.grows.size,h2,fun hd=>(ht.d1 g hd).elim h3 fun h5=>h5.elim h2 fun h5=>absurd h1 (by omega),h4⟩
  inj:=h.inj
  heap:=fun k blk hk=>(h.heap k blk hk).mono hle fun g e hl=>by
   obtain ⟨h1,h2,h3,h4⟩:=h.hown k blk g hk hl e
   exact ht.grows.block _ h1 fun hc=>h3 (h.hC g hc).1
  tmps:=R_put (fun i=>(h.tmps i).mono hle) h.size hd hv
  size:=(put_size a d v).trans h.size
  defers:=(put_defers a d v).trans h.defers
  hDs:=fun d' hd'=>by
   obtain ⟨h1,h2,h3,h4⟩:=h.hDs d' hd'
   have hlt:=(Array.getElem?_eq_some_iff.1 h1).1
   exact ⟨(ht.grows.block d' hlt fun hc=>h4 (h.hC d' hc).1).trans h1,h2,h3,fun hd=>(ht.d1 d' hd).elim h4 fun h5=>h5.elim h3 fun h5=>absurd hlt (by omega)⟩
  nodup:=h.nodup
  le:=h.le.trans hle
  cd:=⟨fun b hb=>(ht.c1 b hb).elim (h.cd.c1 b) fun h1=>.inr (by omega),fun b hb=>(ht.d1 b hb).elim (h.cd.d1 b) fun h1=>.inr (h1.elim (fun h1=>(h.hS b h1).2.2) fun h1=>.inr (.inr (by omega)))⟩
  fix:=h.fix }
theorem wpIn_round {l:Nat} {f:FuncId} {tmps:Array Value} {assign body:Code} {w':World} (hd:Op.isDefer o.op = false) (h:(execOp a.eval o).run E.P w = .ok (.round l f tmps assign body) w')
  (hc:RoundIn (FW none) 0 E.P l f tmps assign body w' fun e w''=>∃ v,e = .returned v ∧ next (a.put o.dst v) w''):o.wpIn (FW ro) 0 E.P a w next Q:=by
 refine ⟨fun _ _=>trivial,?_⟩
 rw [semAt_plain hd,h,Oper.uponIn_round]
 refine ⟨fun h=>by simp [FW] at h,?_⟩
 have hc':RoundIn (FW ro) 0 E.P l f tmps assign body w' fun e w''=>∃ v,e = .returned v ∧ next (a.put o.dst v) w'':=hc
 refine hc'.mono fun e w'' ⟨v,he,hn⟩=>?_
 subst he
 exact hn
end
def okY:AV → Bool
 | .yld=>true
 | a=>closed a
theorem R.bareY {C:Ctx} {x:AV} {v:Value} {l:Nat} (h:R C x v) (hl:C.l = l) (hc:okY x = true):R (Am.bare C.S C.w l) x v:=by
 by_cases hy:x = .yld
 ·subst hy
  cases h
  rw [hl]
  exact .yld
 ·have:closed x = true:=by
   unfold okY at hc
   split at hc
   ·exact (hy rfl).elim
   ·exact hc
  exact h.bare l this
structure SpecY (P:Program) (f:FuncId) (args:List AV) (xs:List (List AV)) (rt rf:AV):Prop where
 enters:Enters P f
 ft:flat rt = true
 ff:flat rf = true
 calls:∀ (J:G → (Nat → Prop) → (Nat → Prop) → World → Prop) (l:Nat) (rest:List (List AV)) (C D:Nat → Prop) (w:World) (S:Nat → Prop) (vs:List Value),JOk J → YOk P J l (fun b=>S b ∨ C b ∨ w.heap.size ≤ b) → J ⟨xs ++ rest,false⟩ C D w → (∀ b,C b → D b) → (∀ b,D b → b < w.heap.size) →
  (∀ b,S b → b < w.heap.size ∧ ¬ C b) → RL (bare S w l) args vs → CallsIn (FW none) 0 P f vs.toArray w fun e w'=>∃ v C' D',e = .returned v ∧ Turned w w' S C D C' D' ∧
   ((J ⟨rest,false⟩ C' D' w' ∧ R (bare S w' l) rt v) ∨ ∃ t,J ⟨t,true⟩ C' D' w' ∧ R (bare S w' l) rf v)
def nodupB:List Nat → Bool
 | []=>true
 | k :: l=>!inK l k && nodupB l
theorem nodupB_iff:∀ {l:List Nat},nodupB l = true → l.Nodup
 | [],_=>List.nodup_nil
 | k :: l,h=>by
  simp only [nodupB,Bool.and_eq_true,Bool.not_eq_true'] at h
  refine List.nodup_cons.2 ⟨fun hm=>?_,nodupB_iff h.2⟩
  rw [inK_iff.2 hm] at h
  exact absurd h.1 (by simp)
def lendOk (L:List (Nat × Blk)) (lent nw:List (Nat × Nat)) (args:List AV):Bool:=
 nodupB ((lent ++ nw).map (·.1)) && (nodupB ((lent ++ nw).map (·.2)) && ((lent.all fun p=>match lookB L p.1 with | some b=>okB (inK (lent.map (·.1))) b | none=>false) && args.all (okk (inK (lent.map (·.1))))))
def retOk (ks:List (Nat × Nat)) (r:AV) (l':List (Nat × Blk)):Bool:=
 (keys l').all (inK (ks.map (·.2))) && ((l'.all fun p=>okB (inK (keys l')) p.2) && okk (inK (keys l')) r)
def nilK (H:Heap) (K:Bool → Prop):AV → Prop
 | .sl rows=>K false ∧ (rows = [] → K true)
 | .slt _=>K false
 | .nils=>K true
 | .ref k ver .o=>match H k with
  | some (.row v _ _ rows)=>v = ver ∧ K false ∧ (rows = [] → K true)
  | some (.froz v rows)=>v = ver ∧ K false ∧ (rows = [] → K true)
  | _=>False
 | _=>False
theorem nilK_sound {E:Env} {s:St} {a:Act} {w:World} {S:Nat → Prop} {own:Nat → Option Nat} {C D:Nat → Prop} {Ds:List Nat} (h:RelAt E s a w S own C D Ds) {K:Bool → Prop} {x:AV} {v:Value} (hx:R (ctx E s w S own) x v) (hk:nilK s.H K x) :
  ∃ A n c,v = .slice A n c ∧ K A.isNone:=by
 unfold nilK at hk
 split at hk
 ·cases hx with
  | sl _ A cap g off sz f hA=>
   refine ⟨A,_,cap,rfl,?_⟩
   cases A with
   | some a=>exact hk.1
   | none=>
    refine hk.2 ?_
    rename_i rows _ _ _ _ _ _
    by_cases e:rows = []
    ·exact e
    ·exact absurd (hA e).1 (by simp)
 ·cases hx with
  | slt _ g off sz f hA=>exact ⟨_,_,_,rfl,hk⟩
 ·cases hx with
  | nils=>exact ⟨_,_,_,rfl,hk⟩
 ·rename_i k ver
  split at hk
  ·rename_i v' t sz rows hb
   obtain ⟨e,h1,h2⟩:=hk
   obtain ⟨q1,q2⟩:=h.ref_at hx hb e
   cases hog:own k with
   | none=>
    rw [hog] at q1 q2
    have q1:v = .slice none 0 0:=q1
    exact ⟨_,_,_,q1,h2 q2.1⟩
   | some g=>
    rw [hog] at q1
    obtain ⟨cap,q1,_⟩:=q1
    exact ⟨_,_,_,q1,h1⟩
  ·rename_i v' rows hb
   obtain ⟨e,h1,h2⟩:=hk
   obtain ⟨q1,q2⟩:=h.ref_at hx hb e
   cases hog:own k with
   | none=>
    rw [hog] at q1 q2
    have q1:v = .slice none 0 0:=q1
    have q2:rows = []:=q2
    exact ⟨_,_,_,q1,h2 q2⟩
   | some g=>
    rw [hog] at q1
    obtain ⟨cap,q1,_⟩:=q1
    exact ⟨_,_,_,q1,h1⟩
  ·exact hk.elim
 ·exact hk.elim
inductive StepR (P:Program) (s:St) (o:Oper) (K:St → Prop):Prop
 | op (v:AV) (H':Heap) (h:OpR P s.τ s.H o v H') (k:K (s.put o.dst v H'))
 | yld (f:Operand) (c:Call) (rest:List (List AV)) (h:o.op = .call c) (hc:c.callee = .value f) (hf:ev s.τ f = .yld) (hg:s.g = ⟨callArgs s.τ (frzs s.H (c.args.toList.map (ev s.τ))) c [] :: rest,false⟩)
   (hcl:closedL (callArgs s.τ (frzs s.H (c.args.toList.map (ev s.τ))) c []) = true)
   (k:∀ b:Bool,K ⟨updO s.τ o.dst (.bool b),frzs s.H (c.args.toList.map (ev s.τ)),⟨rest,!b⟩⟩)
 | yldH (f:Operand) (c:Call) (args:List AV) (lb lb':List (Nat × Blk)) (rest:List (List AV × List (Nat × Blk) × List (Nat × Blk))) (L:List (Nat × Blk)) (VS:Nat → Nat) (lent:List (Nat × Nat)) (h:o.op = .call c) (hc:c.callee = .value f) (hf:ev s.τ f = .yld)
   (hg:s.g = ⟨[],.h ((args,lb,lb') :: rest)⟩) (hH:s.H = hls L VS) (ha:c.args.toList.map (ev s.τ) = args) (hcl:closedL args = true) (hl:lentL L lent lent = lb) (hok:lendOk L lent [] [] = true)
   (hid:(lent.all fun p=>p.1 == p.2) = true) (hlv:(lent.all fun p=>match lookB L p.1 with | some b=>b.live | none=>false) = true)
   (k1:∀ VS',K ⟨updO s.τ o.dst (.bool true),hls (dropK (lent.map (·.1)) L ++ backL lent lb') VS',⟨[],.h rest⟩⟩)
   (k2:∀ lbe VS',keys lbe = keys lb → K ⟨updO s.τ o.dst (.bool false),hls (dropK (lent.map (·.1)) L ++ backL lent lbe) VS',⟨[],.e lbe⟩⟩)
 | call (f:Operand) (c:Call) (fid:FuncId) (caps:List AV) (xs rest:List (List AV)) (rt rf:AV) (h:o.op = .call c) (hc:c.callee = .value f) (hf:ev s.τ f = .func fid caps) (hg:s.g = ⟨xs ++ rest,false⟩)
   (hcl:(callArgs s.τ (frzs s.H (c.args.toList.map (ev s.τ))) c caps).all okY = true) (hs:SpecY P fid (callArgs s.τ (frzs s.H (c.args.toList.map (ev s.τ))) c caps) xs rt rf)
   (k1:K ⟨updO s.τ o.dst rt,frzs s.H (c.args.toList.map (ev s.τ)),⟨rest,false⟩⟩) (k2:∀ t,K ⟨updO s.τ o.dst rf,frzs s.H (c.args.toList.map (ev s.τ)),⟨t,true⟩⟩)
 | eqNil (ng:Bool) (t yt e:TypeId) (x:Operand) (h:o.op = .binOp (if ng then .neq else .eql) t x (.const (.slice none 0 0)) yt) (ht:P.underlying t = some (.slice e)) (k:nilK s.H (fun b=>K (s.put o.dst (.bool (b != ng)) s.H)) (ev s.τ x))
 | eqNilP (ng:Bool) (t yt e:TypeId) (x:Operand) (k ver off:Nat) (tt:TypeId) (cells:List AV) (h:o.op = .binOp (if ng then .neq else .eql) t x (.const (.pointer none)) yt) (ht:P.underlying t = some (.pointer e)) (hx:ev s.τ x = .ref k ver (.p off)) (hk:s.H k = some (.box ver tt cells)) (kk:K (s.put o.dst (.bool ng) s.H))
 | hcall (f:Operand) (c:Call) (fid:FuncId) (caps:List AV) (L:List (Nat × Blk)) (VS:Nat → Nat) (lent nw:List (Nat × Nat)) (Q:AV → List (Nat × Blk) → Prop) (h:o.op = .call c) (hc:c.callee = .value f) (hf:ev s.τ f = .func fid caps)
   (hH:s.H = hls L VS) (hok:lendOk L lent nw (c.args.toList.map (ev s.τ) ++ caps) = true) (hs:HSpecL P fid ((c.args.toList.map (ev s.τ) ++ caps).map (ren (asc (lent ++ nw)))) (lentL L (lent ++ nw) lent) Q)
   (k:∀ r l' VS',Q r l' → retOk (lent ++ nw) r l' = true ∧ K ⟨updO s.τ o.dst (ren (csa (lent ++ nw)) r),hls (dropK ((lent ++ nw).map (·.1)) L ++ backL (lent ++ nw) l') VS',s.g⟩)
 | callB (f:Operand) (c:Call) (fid:FuncId) (caps:List AV) (r:AV) (h:o.op = .call c) (hc:c.callee = .value f) (hf:ev s.τ f = .func fid caps)
   (hcl:closedL (callArgs s.τ (frzXs s.H (c.args.toList.map (ev s.τ))) c caps) = true) (hs:Spec P fid (callArgs s.τ (frzXs s.H (c.args.toList.map (ev s.τ))) c caps) r) (k:K (s.put o.dst r (frzXs s.H (c.args.toList.map (ev s.τ)))))
 | mk (k:Nat) (v:AV) (H':Heap) (t:TypeId) (l c:Operand) (hm:o.op = .makeSlice t l c) (h:OpR P s.τ s.H { o with dst:=some k } v H') (kk:K (s.put o.dst v H'))
 | frzd (x:Operand) (v:AV) (H':Heap) (h:OpR P s.τ (frz s.H (ev s.τ x)) o v H') (k:K (s.put o.dst v H'))
 | lraw (t:TypeId) (len:Nat) (parts:Array (Nat × Operand)) (e:TypeId) (n:Nat) (z:Value) (rows:List (List AV)) (h:o.op = .buildSlice t len parts) (he:elOf P t = some e) (hn:szOf P e = some n) (hn0:0 < n) (hz:zeroOf P e = some z)
   (hzc:okCells (ofVal z).cells = true) (hzn:(ofVal z).cells.length = n) (hlim:len * n ≤ 2 ^ 24)
   (hf:fillR n (List.replicate len (ofVal z).cells) (parts.toList.map fun p=>(p.1,ev s.τ p.2)) = some rows) (k:K (s.put o.dst (.slt rows) s.H))
 | hdet (f:Operand) (c:Call) (fid:FuncId) (caps:List AV) (L:List (Nat × Blk)) (lent:List (Nat × Nat)) (r:AV) (l':List (Nat × Blk)) (h:o.op = .call c) (hc:c.callee = .value f) (hf:ev s.τ f = .func fid caps)
   (hH:∀ k b,lookB L k = some b → s.H k = some b) (hok:lendOk L lent [] (c.args.toList.map (ev s.τ) ++ caps) = true) (hs:HSpecL P fid ((c.args.toList.map (ev s.τ) ++ caps).map (ren (asc lent))) (lentL L lent lent) fun x y=>x = r ∧ y = l')
   (hret:retOk lent r l' = true) (hk:keys l' = lent.map (·.2)) (k:K ⟨updO s.τ o.dst (ren (csa lent) r),ovr (backL lent l') s.H,s.g⟩)
section
variable {E : Env} {s : St} {a : Act} {w : World} {o : Oper} {next : Act → World → Prop} {Q : Exit → Act → World → Prop} {ro : Option Nat}
theorem RelAt.callRL {S:Nat → Prop} {own:Nat → Option Nat} {C D:Nat → Prop} {Ds:List Nat} (hr:RelAt E s a w S own C D Ds) (c:Call) {caps:List AV} {us:List Value} (hl:us.length = caps.length)
  (hh:∀ (i:Nat) (x:AV),caps[i]? = some x → R (ctx E s w S own) x (us.getD i undef)) (hcl:(callArgs s.τ s.H c caps).all okY = true):RL (bare S w E.l) (callArgs s.τ s.H c caps) (c.args.toList.map a.eval ++ us):=by
 refine ⟨by simp [callArgs,hl],fun i x hx=>?_⟩
 have hcx:okY x = true:=List.all_eq_true.1 hcl x (List.mem_of_getElem? hx)
 unfold callArgs at hx
 rw [List.getElem?_map] at hx
 obtain ⟨y,hy,rfl⟩:=Option.map_eq_some_iff.1 hx
 rw [List.getElem?_append] at hy
 have hR:R (ctx E s w S own) y ((c.args.toList.map a.eval ++ us).getD i undef):=by
  rw [List.getD_eq_getElem?_getD,List.getElem?_append]
  simp only [List.length_map] at hy ⊢
  split at hy
  ·rename_i hi
   rw [if_pos hi,List.getElem?_map]
   rw [List.getElem?_map] at hy
   obtain ⟨q,hq,rfl⟩:=Option.map_eq_some_iff.1 hy
   rw [hq]
   exact R_ev hr.tmps q
  ·rename_i hi
   rw [if_neg hi,← List.getD_eq_getElem?_getD]
   exact hh _ y hy
 exact (hR.pur hr.heap).bareY rfl hcx
theorem StepR.sound (hJ:JOk E.J) (hY:YOkE E) {K:St → Prop} (h:StepR E.P s o K) (hd:∀ k,o.dst = some k → k < E.n) (hr:Rel E s a w) (hnx:∀ s' a' w',K s' → Rel E s' a' w' → next a' w'):o.wpIn (FW ro) 0 E.P a w next Q:=by
 cases h with
 | op v H' h k=>exact h.sound hJ hd hr fun a' w' hr'=>hnx _ a' w' k hr'
 | frzd x v H' h k=>
  have hr2:Rel E { s with H:=frz s.H (ev s.τ x) } a w:=by
   obtain ⟨S,own,C,D,Ds,hr⟩:=hr.frzs [ev s.τ x]
   exact ⟨S,own,C,D,Ds,hr⟩
  exact OpR.sound (s:={ s with H:=frz s.H (ev s.τ x) }) hJ hd h hr2 fun a' w' hr'=>hnx _ a' w' k hr'
 | yld f c rest h hc hf hg hcl k=>
  obtain ⟨S,own,C,D,Ds,hr⟩:=hr.frzs (c.args.toList.map (ev s.τ))
  have h1:=R_ev hr.tmps f
  rw [show ev ({ s with H:=frzs s.H (c.args.toList.map (ev s.τ)) }:St).τ f = .yld from hf] at h1
  generalize hz:a.eval f = z at h1
  cases h1
  have hargs:=hr.callRL c (caps:=[]) (us:=[]) rfl (fun i x hx=>by simp at hx) (List.all_eq_true.2 fun x hx=>by
   have hx2:=closedL_get hcl (List.getElem?_eq_some_iff.2 ⟨_,(List.getElem_of_mem hx).choose_spec.2⟩)
   unfold okY
   split
   ·rfl
   ·exact hx2)
  rw [List.append_nil] at hargs
  have hj:E.J s.g C D w:=hr.j
  rw [hg] at hj
  obtain ⟨fn,tmps,assign,body,hy,hR⟩:=hY.y _ rest C D w S _ hj (fun b hb=>(hr.hC b hb).1) hr.hD (fun b hb=>⟨(hr.hS b hb).1,(hr.hS b hb).2.1,(hr.hS b hb).2.2⟩) hcl hargs
  refine wpIn_round (l:=E.l) (f:=fn) (tmps:=tmps) (assign:=assign) (body:=body) (w':=w) (by simp [h,Op.isDefer]) ?_ (hR.mono ?_)
  ·have e1:execOp a.eval o = (do let d ← resolve a.eval c o.type; invoke d.target d.args):=by simp only [execOp,h]
   rw [e1]
   unfold resolve
   simp only [hc,hz,Deferred.ofValue,Sem.run_bind,Sem.run_pure,Result.andThen_ok,invoke]
   have e2:(#[] ++ c.args.map a.eval) = (c.args.toList.map a.eval).toArray:=by
    apply Array.toList_inj.1
    simp
   rw [e2]
   exact hy
  ·rintro e w' ⟨b,C',D',rfl,hj,ht⟩
   exact ⟨_,rfl,hnx _ _ _ (k b) ⟨S,own,C',D',Ds,hr.turned ht hj hd (.bool b)⟩⟩
 | yldH f c args lb lb' rest L VS lent h hc hf hg hH ha hcl hl hok hid hlv k1 k2=>
  obtain ⟨S,own,C,D,Ds,hr⟩:=hr
  have hv:=R_ev hr.tmps f
  rw [hf] at hv
  generalize hz:a.eval f = z at hv
  cases hv
  simp only [lendOk,Bool.and_eq_true,List.append_nil] at hok
  obtain ⟨hk1,hk2,hk3,_⟩:=hok
  have h1:=nodupB_iff hk1
  have h2:=nodupB_iff hk2
  have hin:∀ p ∈ lent,p.1 ∈ keys L:=fun p hp=>by
   have:=List.all_eq_true.1 hk3 p hp
   split at this
   ·rename_i b hb; exact lookB_key hb
   ·cases this
  have hob:∀ p ∈ lent,∀ b,lookB L p.1 = some b → okB (inK (lent.map (·.1))) b = true:=fun p hp b hb=>by
   have:=List.all_eq_true.1 hk3 p hp
   rw [hb] at this
   exact this
  have hliv:∀ p ∈ lent,∀ b,lookB L p.1 = some b → b.live = true:=fun p hp b hb=>by
   have:=List.all_eq_true.1 hlv p hp
   rw [hb] at this
   exact this
  have hid:∀ p ∈ lent,p.1 = p.2:=fun p hp=>by simpa using List.all_eq_true.1 hid p hp
  obtain ⟨hC0,_⟩:=hr.lendDown (VS:=VS) (nw:=[]) (lent:=lent) (fun k b hb=>by rw [hH]; exact hls_some hb) (by simpa using h1) (by simpa using h2) hin hob
  rw [List.append_nil] at hC0
  have hj:E.J s.g C D w:=hr.j
  rw [hg] at hj
  have hlive:∀ b,LiveC (lendC E L VS w S own lent lent) b → b < w.heap.size ∧ ¬ S b ∧ ¬ D b ∧ (E.X0 b ∨ E.w0.heap.size ≤ b):=by
   rintro b ⟨k,blk,hk,hlb,e⟩
   rw [lendC_H] at hk
   rw [lendC_own] at e
   have hm:k ∈ lent.map (·.2):=by
    rw [← keys_lentL (L:=L) (ks:=lent)]
    exact lookB_key (hls_live hk hlb)
   obtain ⟨p,hp,rfl⟩:=List.mem_map.1 hm
   rw [if_pos hm,csa_mem h2 hp] at e
   obtain ⟨b0,hb0⟩:=lookB_of_key (hin p hp)
   exact hr.hown p.1 b0 b (by rw [hH]; exact hls_some hb0) (hliv p hp b0 hb0) e
  have hargs:RL (lendC E L VS w S own lent lent) args (c.args.toList.map a.eval):=by
   subst ha
   refine ⟨by simp,fun i x hx=>?_⟩
   have hcx:=closedL_get hcl hx
   rw [List.getElem?_map] at hx
   obtain ⟨q,hq,rfl⟩:=Option.map_eq_some_iff.1 hx
   rw [List.getD_eq_getElem?_getD,List.getElem?_map,hq]
   exact ((R_ev hr.tmps q).bare E.l hcx).of_bare _ rfl (fun b hb=>hb) rfl
  obtain ⟨fn,tmps,assign,body,hy,hR⟩:=hY.h args lb lb' rest C D (lendC E L VS w S own lent lent) (fun k=>ver0 (hls L VS) (csa lent k)) _ hj (fun b hb=>⟨(hr.hC b hb).1,.inr (hr.hC b hb).2⟩) hr.hD
   (by rw [← hl]; rfl) rfl hC0 (hr.leX hH h2 hin hid) (fun b hb=>⟨(hr.hS b hb).2.1,(hr.hS b hb).2.2⟩) (fun b hb=>⟨(hlive b hb).2.2.1,.inr (hlive b hb).2.2.2⟩) (by subst ha; exact hcl) hargs
  refine wpIn_round (l:=E.l) (f:=fn) (tmps:=tmps) (assign:=assign) (body:=body) (w':=w) (by simp [h,Op.isDefer]) ?_ (hR.mono ?_)
  ·have e1:execOp a.eval o = (do let d ← resolve a.eval c o.type; invoke d.target d.args):=by simp only [execOp,h]
   rw [e1]
   unfold resolve
   simp only [hc,hz,Deferred.ofValue,Sem.run_bind,Sem.run_pure,Result.andThen_ok,invoke]
   have e2:(#[] ++ c.args.map a.eval) = (c.args.toList.map a.eval).toArray:=by
    apply Array.toList_inj.1
    simp
   rw [e2]
   exact hy
  ·rintro e w' ⟨b,C',D',S',lbe,rfl,hj',hb,hkeys,hokB,hHOk,hXle,hgr,hS',hS2,hc1,hd1,hcd,hlt⟩
   have hkl:keys lb = lent.map (·.2):=by rw [← hl]; exact keys_lentL
   obtain ⟨VS'',hr2,hle2⟩:=hr.lendY hH h1 h2 hin hliv hHOk hXle hgr hS' hS2 hc1 hd1 hcd hlt hj' (hkeys.trans hkl) hokB
   refine ⟨_,rfl,?_⟩
   have hput:=hr2.putOld hJ hd (.bool b) (Grows.refl _ _)
   cases b with
   | true=>
    have:=hb rfl
    subst this
    exact hnx _ _ _ (k1 VS'') hput
   | false=>exact hnx _ _ _ (k2 lbe VS'' hkeys) hput
 | call f c fid caps xs rest rt rf h hc hf hg hcl hs k1 k2=>
  obtain ⟨S,own,C,D,Ds,hr⟩:=hr.frzs (c.args.toList.map (ev s.τ))
  have h1:=R_ev hr.tmps f
  rw [show ev ({ s with H:=frzs s.H (c.args.toList.map (ev s.τ)) }:St).τ f = .func fid caps from hf] at h1
  generalize hz:a.eval f = z at h1
  cases h1 with
  | func _ _ us hl hh=>
   have hargs:=hr.callRL c hl hh hcl
   have hj:E.J s.g C D w:=hr.j
   rw [hg] at hj
   have hcall:=hs.calls E.J E.l rest C D w S _ hJ (hY.y.mono fun b hb=>by
    rcases hb with hb | hb | hb
    ·exact (hr.hS b hb).2.2
    ·exact .inr (hr.hC b hb).2
    ·exact .inr (.inr (Nat.le_trans hr.fr.size hb))) hj (fun b hb=>(hr.hC b hb).1) hr.hD (fun b hb=>⟨(hr.hS b hb).1,(hr.hS b hb).2.1⟩) hargs
   refine wpIn_enter (f:=fid) (args:=(c.args.toList.map a.eval ++ us).toArray) (w':=w) (by simp [h,Op.isDefer]) ?_ (hcall.mono ?_)
   ·have e1:execOp a.eval o = (do let d ← resolve a.eval c o.type; invoke d.target d.args):=by simp only [execOp,h]
    rw [e1]
    unfold resolve
    simp only [hc,hz,Deferred.ofValue,Sem.run_bind,Sem.run_pure,Result.andThen_ok,invoke]
    have e2:(#[] ++ c.args.map a.eval ++ us.toArray) = (c.args.toList.map a.eval ++ us).toArray:=by
     apply Array.toList_inj.1
     simp
    rw [e2]
    exact hs.enters _ _
   ·rintro e w' ⟨v,C',D',rfl,ht,⟨hj,hv⟩ | ⟨t,hj,hv⟩⟩
    ·exact ⟨_,rfl,hnx _ _ _ k1 ⟨S,own,C',D',Ds,hr.turned ht hj hd (hv.flat hs.ft)⟩⟩
    ·exact ⟨_,rfl,hnx _ _ _ (k2 t) ⟨S,own,C',D',Ds,hr.turned ht hj hd (hv.flat hs.ff)⟩⟩
 | eqNil ng t yt e x h ht k=>
  obtain ⟨S,own,C,D,Ds,hr⟩:=hr
  obtain ⟨A,n,c,e1,hk⟩:=nilK_sound hr (R_ev hr.tmps x) k
  refine wpIn_value (v:=.bool (A.isNone != ng)) (w':=w) (by cases ng <;> simp [h,Op.isDefer]) ?_ (hnx _ _ _ hk (hr.putOld hJ hd (.bool _) (Grows.refl w _)))
  have e2:a.eval (.const (.slice none 0 0)) = .slice none 0 0:=rfl
  cases ng with
  | false=>
   have h:o.op = .binOp .eql t x (.const (.slice none 0 0)) yt:=h
   simp only [execOp,h,e1,e2]
   refine run_op ?_
   have hg:(eqGuard .eql t x (.const (.slice none 0 0)) (.slice A n c) (.slice none 0 0)).run E.P w = .ok () w:=rfl
   simp only [Sem.run_bind,hg,Result.andThen_ok]
   simp only [binOp]
   simp [run_equal_slice_nil w t e A n c ht]
  | true=>
   have h:o.op = .binOp .neq t x (.const (.slice none 0 0)) yt:=h
   simp only [execOp,h,e1,e2]
   refine run_op ?_
   have hg:(eqGuard .neq t x (.const (.slice none 0 0)) (.slice A n c) (.slice none 0 0)).run E.P w = .ok () w:=rfl
   simp only [Sem.run_bind,hg,Result.andThen_ok]
   simp only [binOp]
   simp [run_equal_slice_nil w t e A n c ht]
 | eqNilP ng t yt e x k ver off tt cells h ht hx hk kk=>
  obtain ⟨S,own,C,D,Ds,hr⟩:=hr
  have h1:=R_ev hr.tmps x
  rw [hx] at h1
  obtain ⟨q1,q2⟩:=hr.ref_at h1 hk rfl
  cases hog:own k with
  | none=>rw [hog] at q2; exact q2.elim
  | some g=>
   rw [hog] at q1
   have e1:a.eval x = .pointer (some ⟨g,off,none⟩):=q1
   refine wpIn_value (v:=.bool ng) (w':=w) (by cases ng <;> simp [h,Op.isDefer]) ?_ (hnx _ _ _ kk (hr.putOld hJ hd (.bool _) (Grows.refl w _)))
   have e2:a.eval (.const (.pointer none)) = .pointer none:=rfl
   cases ng with
   | false=>
    have h:o.op = .binOp .eql t x (.const (.pointer none)) yt:=h
    simp only [execOp,h,e1,e2]
    refine run_op ?_
    have hg:(eqGuard .eql t x (.const (.pointer none)) (.pointer (some ⟨g,off,none⟩)) (.pointer none)).run E.P w = .ok () w:=rfl
    simp only [Sem.run_bind,hg,Result.andThen_ok]
    show (do pure (.bool (← Op.equal t (.pointer (some ⟨g,off,none⟩)) (.pointer none))):Sem Value).run E.P w = _
    unfold Op.equal Op.maxDepth Op.equalIn
    simp [run_underlying ht]
   | true=>
    have h:o.op = .binOp .neq t x (.const (.pointer none)) yt:=h
    simp only [execOp,h,e1,e2]
    refine run_op ?_
    have hg:(eqGuard .neq t x (.const (.pointer none)) (.pointer (some ⟨g,off,none⟩)) (.pointer none)).run E.P w = .ok () w:=rfl
    simp only [Sem.run_bind,hg,Result.andThen_ok]
    show (do pure (.bool (!(← Op.equal t (.pointer (some ⟨g,off,none⟩)) (.pointer none)))):Sem Value).run E.P w = _
    unfold Op.equal Op.maxDepth Op.equalIn
    simp [run_underlying ht]
 | hcall f c fid caps L VS lent nw Q h hc hf hH hok hs k=>
  simp only [lendOk,Bool.and_eq_true] at hok
  obtain ⟨hk1,hk2,hk3,hk4⟩:=hok
  have h1:=nodupB_iff hk1
  have h2:=nodupB_iff hk2
  have hin:∀ p ∈ lent,p.1 ∈ keys L:=fun p hp=>by
   have:=List.all_eq_true.1 hk3 p hp
   split at this
   ·rename_i b hb; exact lookB_key hb
   ·cases this
  have hob:∀ p ∈ lent,∀ b,lookB L p.1 = some b → okB (inK (lent.map (·.1))) b = true:=fun p hp b hb=>by
   have:=List.all_eq_true.1 hk3 p hp
   rw [hb] at this
   exact this
  obtain ⟨S,own,C,D,Ds,hr⟩:=hr
  have hfn:=R_ev hr.tmps f
  rw [hf] at hfn
  generalize hz:a.eval f = z at hfn
  cases hfn with
  | func _ _ us hl hh=>
   obtain ⟨hC0,hren⟩:=hr.lendDown (VS:=VS) (fun k b hb=>by rw [hH]; exact hls_some hb) h1 h2 hin hob
   have hargs:RL (lendC E L VS w S own (lent ++ nw) lent) ((c.args.toList.map (ev s.τ) ++ caps).map (Am.ren (asc (lent ++ nw)))) (c.args.toList.map a.eval ++ us):=by
    refine ⟨by simp [hl],fun i x hx=>?_⟩
    rw [List.getElem?_map] at hx
    obtain ⟨y,hy,rfl⟩:=Option.map_eq_some_iff.1 hx
    have hyk:=List.all_eq_true.1 hk4 y (List.mem_of_getElem? hy)
    refine R.ren hren ?_ hyk
    rw [List.getElem?_append] at hy
    rw [List.getD_eq_getElem?_getD,List.getElem?_append]
    simp only [List.length_map] at hy ⊢
    split at hy
    ·rename_i hi
     rw [if_pos hi,List.getElem?_map]
     rw [List.getElem?_map] at hy
     obtain ⟨q,hq,rfl⟩:=Option.map_eq_some_iff.1 hy
     rw [hq]
     exact R_ev hr.tmps q
    ·rename_i hi
     rw [if_neg hi,← List.getD_eq_getElem?_getD]
     exact hh _ y hy
   have hsv:=hs fun k=>ver0 (hls L VS) (csa (lent ++ nw) k)
   have hcall:=hsv.calls (lendC E L VS w S own (lent ++ nw) lent) _ rfl hC0 hargs
   refine wpIn_enter (f:=fid) (args:=(c.args.toList.map a.eval ++ us).toArray) (w':=w) (by simp [h,Op.isDefer]) ?_ (hcall.mono fun e w' ⟨v,r,C',he,hw',hC',htr,hR,l',vs',hH',hQ⟩=>⟨v,he,?_⟩)
   ·have e1:execOp a.eval o = (do let d ← resolve a.eval c o.type; invoke d.target d.args):=by simp only [execOp,h]
    rw [e1]
    unfold resolve
    simp only [hc,hz,Deferred.ofValue,Sem.run_bind,Sem.run_pure,Result.andThen_ok,invoke]
    have e2:(#[] ++ c.args.map a.eval ++ us.toArray) = (c.args.toList.map a.eval ++ us).toArray:=by
     apply Array.toList_inj.1
     simp
    rw [e2]
    exact hsv.enters _ _
   ·subst hw'
    have hk':=(k r l' vs' hQ).1
    simp only [retOk,Bool.and_eq_true] at hk'
    obtain ⟨j1,j2,j3⟩:=hk'
    obtain ⟨own'',VS'',hr'',hren'',_⟩:=hr.lendUp hJ hH h1 h2 hin htr hC' hH' (fun k hk=>inK_iff.1 (List.all_eq_true.1 j1 k hk)) (fun p hp=>List.all_eq_true.1 j2 p hp)
    refine hnx _ _ _ (k r l' VS'' hQ).2 ?_
    exact hr''.putOld hJ hd (hR.ren hren'' j3) (Grows.refl _ _)
 | hdet f c fid caps L lent r0 l0 h hc hf hH hok hs hret hkk k=>
  have hnil:lent ++ [] = lent:=List.append_nil _
  let VS:Nat → Nat:=fun k=>ver0 s.H k
  have hV:∀ k,ver0 (hls L VS) k = ver0 s.H k:=fun k=>by
   cases hb:lookB L k with
   | some b=>unfold ver0; rw [hls_some hb,hH k b hb]
   | none=>rw [show ver0 (hls L VS) k = VS k by unfold ver0; rw [hls_none hb]; rfl]
  have hs:HSpecL E.P fid ((c.args.toList.map (ev s.τ) ++ caps).map (ren (asc (lent ++ [])))) (lentL L (lent ++ []) lent) fun x y=>x = r0 ∧ y = l0:=by rw [hnil]; exact hs
  have hret:retOk (lent ++ []) r0 l0 = true:=by rw [hnil]; exact hret
  have k:K ⟨updO s.τ o.dst (ren (csa (lent ++ [])) r0),ovr (backL (lent ++ []) l0) s.H,s.g⟩:=by rw [hnil]; exact k
  simp only [lendOk,Bool.and_eq_true] at hok
  obtain ⟨hk1,hk2,hk3,hk4⟩:=hok
  have h1:=nodupB_iff hk1
  have h2:=nodupB_iff hk2
  have hin:∀ p ∈ lent,p.1 ∈ keys L:=fun p hp=>by
   have:=List.all_eq_true.1 hk3 p hp
   split at this
   ·rename_i b hb; exact lookB_key hb
   ·cases this
  have hob:∀ p ∈ lent,∀ b,lookB L p.1 = some b → okB (inK (lent.map (·.1))) b = true:=fun p hp b hb=>by
   have:=List.all_eq_true.1 hk3 p hp
   rw [hb] at this
   exact this
  obtain ⟨S,own,C,D,Ds,hr⟩:=hr
  have hfn:=R_ev hr.tmps f
  rw [hf] at hfn
  generalize hz:a.eval f = z at hfn
  cases hfn with
  | func _ _ us hl hh=>
   obtain ⟨hC0,hren⟩:=hr.lendDown (VS:=VS) hH h1 h2 hin hob
   have hargs:RL (lendC E L VS w S own (lent ++ []) lent) ((c.args.toList.map (ev s.τ) ++ caps).map (Am.ren (asc (lent ++ [])))) (c.args.toList.map a.eval ++ us):=by
    refine ⟨by simp [hl],fun i x hx=>?_⟩
    rw [List.getElem?_map] at hx
    obtain ⟨y,hy,rfl⟩:=Option.map_eq_some_iff.1 hx
    have hyk:=List.all_eq_true.1 hk4 y (List.mem_of_getElem? hy)
    refine R.ren hren ?_ hyk
    rw [List.getElem?_append] at hy
    rw [List.getD_eq_getElem?_getD,List.getElem?_append]
    simp only [List.length_map] at hy ⊢
    split at hy
    ·rename_i hi
     rw [if_pos hi,List.getElem?_map]
     rw [List.getElem?_map] at hy
     obtain ⟨q,hq,rfl⟩:=Option.map_eq_some_iff.1 hy
     rw [hq]
     exact R_ev hr.tmps q
    ·rename_i hi
     rw [if_neg hi,← List.getD_eq_getElem?_getD]
     exact hh _ y hy
   have hsv:=hs fun k=>ver0 (hls L VS) (csa (lent ++ []) k)
   have hcall:=hsv.calls (lendC E L VS w S own (lent ++ []) lent) _ rfl hC0 hargs
   refine wpIn_enter (f:=fid) (args:=(c.args.toList.map a.eval ++ us).toArray) (w':=w) (by simp [h,Op.isDefer]) ?_ (hcall.mono fun e w' ⟨v,r,C',he,hw',hC',htr,hR,l',vs',hH',hQ⟩=>⟨v,he,?_⟩)
   ·have e1:execOp a.eval o = (do let d ← resolve a.eval c o.type; invoke d.target d.args):=by simp only [execOp,h]
    rw [e1]
    unfold resolve
    simp only [hc,hz,Deferred.ofValue,Sem.run_bind,Sem.run_pure,Result.andThen_ok,invoke]
    have e2:(#[] ++ c.args.map a.eval ++ us.toArray) = (c.args.toList.map a.eval ++ us).toArray:=by
     apply Array.toList_inj.1
     simp
    rw [e2]
    exact hsv.enters _ _
   ·subst hw'
    obtain ⟨rfl,rfl⟩:=hQ
    simp only [retOk,Bool.and_eq_true] at hret
    obtain ⟨j1,j2,j3⟩:=hret
    obtain ⟨own'',hr'',hren'',_⟩:=hr.lendUp0 hJ hH hV h1 h2 hin htr hC' hH' (fun k hk=>inK_iff.1 (List.all_eq_true.1 j1 k hk)) (fun p hp=>List.all_eq_true.1 j2 p hp)
    rw [backH_ovr h1 h2 (by rw [hkk,hnil])] at hr'' hren''
    refine hnx _ _ _ k ?_
    exact hr''.putOld hJ hd (hR.ren hren'' j3) (Grows.refl _ _)
 | callB f c fid caps r h hc hf hcl hs k=>
  obtain ⟨S,own,C,D,Ds,hr⟩:=hr.frzXs (c.args.toList.map (ev s.τ))
  have h1:=R_ev hr.tmps f
  rw [show ev ({ s with H:=frzXs s.H (c.args.toList.map (ev s.τ)) }:St).τ f = .func fid caps from hf] at h1
  generalize hz:a.eval f = z at h1
  cases h1 with
  | func _ _ us hl hh=>
   have hargs:RL (bare S w E.l) (callArgs s.τ (frzXs s.H (c.args.toList.map (ev s.τ))) c caps) (c.args.toList.map a.eval ++ us):=by
    refine ⟨by simp [callArgs,hl],fun i x hx=>?_⟩
    have hcx:=closedL_get hcl hx
    unfold callArgs at hx
    rw [List.getElem?_map] at hx
    obtain ⟨y,hy,rfl⟩:=Option.map_eq_some_iff.1 hx
    rw [List.getElem?_append] at hy
    have hR:R (ctx E { s with H:=frzXs s.H (c.args.toList.map (ev s.τ)) } w S own) y ((c.args.toList.map a.eval ++ us).getD i undef):=by
     rw [List.getD_eq_getElem?_getD,List.getElem?_append]
     simp only [List.length_map] at hy ⊢
     split at hy
     ·rename_i hi
      rw [if_pos hi,List.getElem?_map]
      rw [List.getElem?_map] at hy
      obtain ⟨q,hq,rfl⟩:=Option.map_eq_some_iff.1 hy
      rw [hq]
      exact R_ev hr.tmps q
     ·rename_i hi
      rw [if_neg hi,← List.getD_eq_getElem?_getD]
      exact hh _ y hy
    exact (hR.pur hr.heap).bare E.l hcx
   have hcall:=hs.calls w S E.l _ (fun b hb=>(hr.hS b hb).1) hargs
   refine wpIn_enter (f:=fid) (args:=(c.args.toList.map a.eval ++ us).toArray) (w':=w) (by simp [h,Op.isDefer]) ?_ (hcall.mono fun e w' ⟨u,he,hb,hu⟩=>⟨u,he,hnx _ _ _ k ?_⟩)
   ·have e1:execOp a.eval o = (do let d ← resolve a.eval c o.type; invoke d.target d.args):=by simp only [execOp,h]
    rw [e1]
    unfold resolve
    simp only [hc,hz,Deferred.ofValue,Sem.run_bind,Sem.run_pure,Result.andThen_ok,invoke]
    have e2:(#[] ++ c.args.map a.eval ++ us.toArray) = (c.args.toList.map a.eval ++ us).toArray:=by
     apply Array.toList_inj.1
     simp
    rw [e2]
    exact hs.enters _ _
   ·exact hr.putNew hJ hd (Grows.of_below hb _) (hu.of_bare _ rfl (fun b hb=>hb) rfl)
 | mk k v H' t l c hm h kk=>
  cases h with
  | makeSlice t e l c n b d z kl kc len cap h hdd he hn hb hn0 hz hzc hzn hl hc hlc hlim h63=>
   cases hdd
   obtain ⟨S,own,C,D,Ds,hr⟩:=hr
   have hval:∀ (y:Operand) (k:IntKind) (i:Int),ev s.τ y = .int k i → a.eval y = .int k i:=fun y k i hy=>by
    have h1:=R_ev hr.tmps y
    rw [hy] at h1
    generalize a.eval y = z at h1
    cases h1; rfl
   obtain ⟨cs,r1,r2,r3⟩:=run_makeSlice (C:=ctx E s w S own) he hn hb hz hzc hzn kl kc hlc hlim h63
   have h:o.op = .makeSlice t l c:=h
   refine wpIn_value (v:=.slice (some ⟨w.heap.size,0,none⟩) len cap) (w':=w.alloc (.cells cs e)) (by simp [h,Op.isDefer]) ?_ (hnx _ _ _ kk ?_)
   ·simp only [execOp,h,hval l kl len hl,hval c kc cap hc]
    exact run_op r1
   ·refine ⟨S,upd own k (some w.heap.size),C,D,Ds,hr.key hJ k (some w.heap.size) (.row (nv s.H k) e n (List.replicate len (ofVal z).cells)) (Grows.alloc w _ _) (fun blk hk=>?_)
     (fun g e=>.inl (by cases e; exact ⟨Nat.le_refl _,by simp⟩)) (fun hle=>?_) (put_size a _ _) (put_defers a _ _) fun hle=>?_⟩
    ·have:=nv_gt hk
     exact ⟨Nat.le_of_lt this,fun e=>absurd e (by show nv s.H k ≠ blk.ver; exact Nat.ne_of_gt this)⟩
    ·exact ⟨cs,cap,heap_alloc_new w _,r2,by rw [List.length_replicate]; exact hlc,h63,hn0,fun r hr=>by rw [(List.mem_replicate.1 hr).2,hzn],r3.mono hle⟩
    ·refine R_put (fun i=>(hr.tmps i).mono hle) hr.size hd ?_
     refine .ref k _ .o _ _ (upd_same _ _ _) (Nat.le_refl _) rfl fun _=>?_
     show RefVal (w.alloc (.cells cs e)) (upd own k (some w.heap.size) k) _ _ _
     rw [upd_same]
     refine ⟨cap,by rw [List.length_replicate],fun cs' t' fr hcs=>?_⟩
     rw [heap_alloc_new w (.cells cs e)] at hcs
     cases hcs
     exact r2
  | _=>simp_all
 | lraw t len parts e n z rows h he hn hn0 hz hzc hzn hlim hf k=>
  obtain ⟨S,own,C,D,Ds,hr⟩:=hr
  obtain ⟨q1,q2⟩:=map_vals hr.tmps id (fun x v h=>h) parts
  obtain ⟨cs,r1,r2,r3,r4,r5⟩:=run_buildSlice (C:=ctx E s w S own) he hn hz hzc hzn hlim q1 q2 hf
  have hgr:=Grows.alloc w (.cells cs e) fun _=>False
  have hlen:len ≤ maxLen:=by
   have:len ≤ len * n:=Nat.le_mul_of_pos_right _ hn0
   simp only [maxLen]
   omega
  have hput:=hr.putNew hJ (d:=o.dst) hd (x:=.slt rows) (v:=.slice (some ⟨w.heap.size,0,none⟩) len len) hgr (by
   have hle:=hr.leQuiet hgr (S':=fun b=>S b ∨ (w.heap.size ≤ b ∧ b < (w.alloc (.cells cs e)).heap.size)) fun b hb=>.inl hb
   have hres:=R_slt_of (C:=ctx E s (w.alloc (.cells cs e)) (fun b=>S b ∨ (w.heap.size ≤ b ∧ b < (w.alloc (.cells cs e)).heap.size)) own)
    (heap_alloc_new w (.cells cs e)) (.inr ⟨Nat.le_refl _,by simp⟩) (r3.mono hle) r4 (by omega)
   rwa [r5] at hres)
  refine wpIn_value (by simp [h,Op.isDefer]) ?_ (hnx _ _ _ k hput)
  simp only [execOp,h]
  exact run_op r1
end
end Go.Am
namespace Go.Am
open Go.RowKit
mutual
def occ:AV → List Nat
 | .ref k _ _=>[k]
 | .agg cs | .tup cs | .elt cs _ | .func _ cs=>occL cs
 | .sl rows | .slt rows=>occLL rows
 | _=>[]
def occL:List AV → List Nat
 | []=>[]
 | c :: cs=>occ c ++ occL cs
def occLL:List (List AV) → List Nat
 | []=>[]
 | r :: rs=>occL r ++ occLL rs
end
mutual
theorem occ_closed:∀ {a:AV},closed a = true → occ a = []
 | .agg cs,h=>by simp only [closed] at h; simp only [occ]; exact occL_closed h
 | .tup cs,h=>by simp only [closed] at h; simp only [occ]; exact occL_closed h
 | .elt cs _,h=>by simp only [closed] at h; simp only [occ]; exact occL_closed h
 | .func _ cs,h=>by simp only [closed] at h; simp only [occ]; exact occL_closed h
 | .sl rows,h=>by simp only [closed] at h; simp only [occ]; exact occLL_closed h
 | .slt rows,h=>by simp only [closed] at h; simp only [occ]; exact occLL_closed h
 | .any,h=>rfl
 | .int _ _,h=>rfl
 | .bool _,h=>rfl
 | .str _,h=>rfl
 | .nils,h=>rfl
 | .nilf,h=>rfl
 | .nilp,h=>rfl
 | .yld,h=>rfl
 | .ref _ _ _,h=>by simp [closed] at h
theorem occL_closed:∀ {l:List AV},closedL l = true → occL l = []
 | [],_=>rfl
 | c :: cs,h=>by
  simp only [closedL,Bool.and_eq_true] at h
  simp only [occL,occ_closed h.1,occL_closed h.2,List.append_nil]
theorem occLL_closed:∀ {l:List (List AV)},closedLL l = true → occLL l = []
 | [],_=>rfl
 | c :: cs,h=>by
  simp only [closedLL,Bool.and_eq_true] at h
  simp only [occLL,occL_closed h.1,occLL_closed h.2,List.append_nil]
end
theorem occ_mem {x:AV} {l:List AV} (hx:x ∈ l) {k:Nat} (hk:k ∈ occ x):k ∈ occL l:=by
 induction l with
 | nil=>simp at hx
 | cons c cs ih=>
  simp only [occL,List.mem_append]
  rcases List.mem_cons.1 hx with rfl | hx
  ·exact .inl hk
  ·exact .inr (ih hx)
section
variable {H H2 : Heap} {x : AV}
theorem rdV_congr (h:∀ k ∈ occ x,H2 k = H k) (n:Nat) (ag:Bool):rdV H2 n ag x = rdV H n ag x:=by
 cases x with
 | ref k v r=>have:=h k (by simp [occ]); cases r <;> simp [rdV,this]
 | _=>rfl
theorem addA_congr (h:∀ k ∈ occ x,H2 k = H k) (n:Nat):addA H2 n x = addA H n x:=by
 cases x with
 | ref k v r=>have:=h k (by simp [occ]); cases r <;> simp [addA,this]
 | _=>rfl
theorem ixA_congr (h:∀ k ∈ occ x,H2 k = H k) (n:Nat) (i:Int):ixA H2 n i x = ixA H n i x:=by
 cases x with
 | ref k v r=>have:=h k (by simp [occ]); cases r <;> simp [ixA,this]
 | _=>rfl
theorem lenA_congr (h:∀ k ∈ occ x,H2 k = H k):lenA H2 x = lenA H x:=by
 cases x with
 | ref k v r=>have:=h k (by simp [occ]); cases r <;> simp [lenA,this]
 | _=>rfl
theorem rowsA_congr (h:∀ k ∈ occ x,H2 k = H k):rowsA H2 x = rowsA H x:=by
 cases x with
 | ref k v r=>have:=h k (by simp [occ]); cases r <;> simp [rowsA,this]
 | _=>rfl
theorem srcA_congr (h:∀ k ∈ occ x,H2 k = H k) (n:Nat):srcA H2 n x = srcA H n x:=by
 cases x with
 | ref k v r=>have:=h k (by simp [occ]); cases r <;> simp [srcA,this]
 | _=>rfl
theorem okPtr_congr (h:∀ k ∈ occ x,H2 k = H k):okPtr H2 x = okPtr H x:=by
 cases x with
 | ref k v r=>have:=h k (by simp [occ]); cases r <;> simp [okPtr,this]
 | _=>rfl
theorem wrV_frame (h:∀ k ∈ occ x,H2 k = H k) {n:Nat} {ys:List AV} {H':Heap} (hw:wrV H n ys x = some H') :
  ∃ k b,k ∈ occ x ∧ H' = upd H k (some b) ∧ wrV H2 n ys x = some (upd H2 k (some b)):=by
 unfold wrV at hw
 split at hw
 ·rename_i k ver off
  have e:=h k (by simp [occ])
  split at hw
  ·rename_i v t cells hk
   split at hw
   ·rename_i hc
    cases hw
    refine ⟨k,_,by simp [occ],rfl,?_⟩
    unfold wrV
    simp only [e,hk,if_pos hc]
   ·cases hw
  ·cases hw
 ·rename_i k ver i off
  have e:=h k (by simp [occ])
  split at hw
  ·rename_i v t sz rows hk
   split at hw
   ·rename_i r hr
    split at hw
    ·rename_i hc
     cases hw
     refine ⟨k,_,by simp [occ],rfl,?_⟩
     unfold wrV
     simp only [e,hk,hr,if_pos hc]
    ·cases hw
   ·cases hw
  ·cases hw
 ·cases hw
theorem mpAt_occ (h:∀ k ∈ occ x,H2 k = H k) (d:KD):mpAt H2 d x = mpAt H d x:=mpAt_congr fun k ver e=>h k (by rw [e]; simp [occ])
theorem pur0_congr (h:∀ k ∈ occ x,H2 k = H k):pur0 H2 x = pur0 H x:=by
 cases x with
 | ref k v r=>have:=h k (by simp [occ]); cases r <;> simp [pur0,this]
 | _=>rfl
theorem pur1_congr (h:∀ k ∈ occ x,H2 k = H k):pur1 H2 x = pur1 H x:=by
 cases x with
 | agg cs=>simp only [pur1]; exact congrArg _ (List.map_congr_left fun a ha=>pur0_congr fun k hk=>h k (by simp only [occ]; exact occ_mem ha hk))
 | func f cs=>simp only [pur1]; exact congrArg _ (List.map_congr_left fun a ha=>pur0_congr fun k hk=>h k (by simp only [occ]; exact occ_mem ha hk))
 | _=>exact pur0_congr h
theorem pur_congr (h:∀ k ∈ occ x,H2 k = H k):pur H2 x = pur H x:=by
 cases x with
 | tup cs=>simp only [pur]; exact congrArg _ (List.map_congr_left fun a ha=>pur1_congr fun k hk=>h k (by simp only [occ]; exact occ_mem ha hk))
 | _=>exact pur1_congr h
end
def Loc {α:Type} (oc:α → List Nat) (f:Heap → α → Heap):Prop:=(∀ (H:Heap) (x:α) (k:Nat),k ∉ oc x → f H x k = H k) ∧
 ∀ (H H2:Heap) (x:α) (A:Nat → Prop),(∀ k ∈ oc x,A k) → (∀ k,A k → H2 k = H k) → ∀ k,A k → f H2 x k = f H x k
theorem frz0_loc:Loc occ frz0:=by
 refine ⟨fun H x k hk=>?_,fun H H2 x A hA h k hk=>?_⟩
 ·unfold frz0
  split
  ·rename_i k' ver
   have:k ≠ k':=by simpa [occ] using hk
   cases hb:H k' with
   | none=>rfl
   | some b=>
    cases b with
    | row v t sz rows=>
     dsimp only
     split
     ·exact upd_other _ _ _ _ this
     ·rfl
    | _=>rfl
  ·rfl
 ·unfold frz0
  split
  ·rename_i k' ver
   have e:=h k' (hA k' (by simp [occ]))
   rw [e]
   cases hb:H k' with
   | none=>exact h k hk
   | some b=>
    cases b with
    | row v t sz rows=>
     dsimp only
     split
     ·unfold upd; split
      ·rfl
      ·exact h k hk
     ·exact h k hk
    | _=>exact h k hk
  ·exact h k hk
theorem frzB_loc:Loc occ frzB:=by
 refine ⟨fun H x k hk=>?_,fun H H2 x A hA h k hk=>?_⟩
 ·unfold frzB
  split
  ·rename_i k' ver _
   have:k ≠ k':=by simpa [occ] using hk
   cases hb:H k' with
   | none=>rfl
   | some b=>
    cases b with
    | box v t cells=>
     dsimp only
     split
     ·exact upd_other _ _ _ _ this
     ·rfl
    | _=>rfl
  ·exact frz0_loc.1 H x k hk
 ·unfold frzB
  split
  ·rename_i k' ver _
   have e:=h k' (hA k' (by simp [occ]))
   rw [e]
   cases hb:H k' with
   | none=>exact h k hk
   | some b=>
    cases b with
    | box v t cells=>
     dsimp only
     split
     ·unfold upd; split
      ·rfl
      ·exact h k hk
     ·exact h k hk
    | _=>exact h k hk
  ·exact frz0_loc.2 H H2 x A hA h k hk
theorem Loc.fold {f:Heap → AV → Heap} (hf:Loc occ f):Loc occL fun H xs=>xs.foldl f H:=by
 refine ⟨fun H xs=>?_,fun H H2 xs=>?_⟩
 ·induction xs generalizing H with
  | nil=>intro k _; rfl
  | cons x xs ih=>
   intro k hk
   simp only [occL,List.mem_append,not_or] at hk
   exact (ih (f H x) k hk.2).trans (hf.1 H x k hk.1)
 ·induction xs generalizing H H2 with
  | nil=>intro A hA h k hk; exact h k hk
  | cons x xs ih=>
   intro A hA h k hk
   exact ih (f H x) (f H2 x) A (fun k hk=>hA k (by simp [occL,hk])) (hf.2 H H2 x A (fun k hk=>hA k (by simp [occL,hk])) h) k hk
theorem frz1_loc:Loc occ frz1:=by
 refine ⟨fun H x k hk=>?_,fun H H2 x A hA h k hk=>?_⟩
 ·cases x with
  | agg cs=>exact frz0_loc.fold.1 H cs k hk
  | func f cs=>exact frzB_loc.fold.1 H cs k hk
  | _=>exact frz0_loc.1 H _ k hk
 ·cases x with
  | agg cs=>exact frz0_loc.fold.2 H H2 cs A hA h k hk
  | func f cs=>exact frzB_loc.fold.2 H H2 cs A hA h k hk
  | _=>exact frz0_loc.2 H H2 _ A hA h k hk
theorem frz_loc:Loc occ frz:=by
 refine ⟨fun H x k hk=>?_,fun H H2 x A hA h k hk=>?_⟩
 ·cases x with
  | tup cs=>exact frz1_loc.fold.1 H cs k hk
  | _=>exact frz1_loc.1 H _ k hk
 ·cases x with
  | tup cs=>exact frz1_loc.fold.2 H H2 cs A hA h k hk
  | _=>exact frz1_loc.2 H H2 _ A hA h k hk
theorem frzs_loc:Loc occL frzs:=frz_loc.fold
theorem frzX_loc:Loc occ frzX:=by
 refine ⟨fun H x k hk=>?_,fun H H2 x A hA h k hk=>?_⟩
 ·exact (frz_loc.1 _ x k hk).trans (frzB_loc.1 H x k hk)
 ·exact frz_loc.2 _ _ x A hA (frzB_loc.2 H H2 x A hA h) k hk
theorem frzXs_loc:Loc occL frzXs:=frzX_loc.fold
def dl:Option Nat → List Nat
 | some d=>[d]
 | none=>[]
def deeps:List (Nat × Nat):=[(100,101),(100,102),(110,111),(110,112),(110,113)]
def more (l:List Nat):List Nat:=deeps.filterMap fun p=>if l.contains p.1 then some p.2 else none
def withM (l:List Nat):List Nat:=l ++ more l
theorem mem_more {l:List Nat} {k:Nat}:k ∈ more l ↔ ∃ p ∈ deeps,p.1 ∈ l ∧ p.2 = k:=by
 simp only [more,List.mem_filterMap,List.contains_iff_mem]
 constructor
 ·rintro ⟨p,hp,h⟩
  split at h
  ·rename_i h2
   cases h
   exact ⟨p,hp,h2,rfl⟩
  ·cases h
 ·rintro ⟨p,hp,h,rfl⟩
  exact ⟨p,hp,by rw [if_pos h]⟩
theorem mem_withM {l:List Nat} {k:Nat}:k ∈ withM l ↔ k ∈ l ∨ k ∈ more l:=by simp [withM]
theorem withM_sub {l l':List Nat} (h:∀ k ∈ l,k ∈ l') {k:Nat} (hk:k ∈ withM l):k ∈ withM l':=by
 rw [mem_withM,mem_more] at *
 rcases hk with hk | ⟨p,hp,h1,h2⟩
 ·exact .inl (h k hk)
 ·exact .inr ⟨p,hp,h _ h1,h2⟩
def foot (τ:Nat → AV) (d:Option Nat):Op → List Nat × List Nat
 | .load _ x | .fieldAddr _ x _ | .indexAddr _ x _ | .slice _ x _ _ _ | .nilCheck x | .lookup _ x _ _=>(occ (ev τ x),[])
 | .alloc _ | .box _ _ | .makeSlice _ _ _ | .range _ _ | .makeMap _ _=>(dl d,dl d)
 | .mapUpdate _ x _ _=>(occ (ev τ x),occ (ev τ x))
 | .next x _=>(occ (ev τ x),occ (ev τ x))
 | .store _ x _=>(occ (ev τ x),occ (ev τ x))
 | .buildSlice _ _ parts=>(dl d ++ occL (parts.toList.map fun p=>ev τ p.2),dl d ++ occL (parts.toList.map fun p=>ev τ p.2))
 | .call c=>match c.callee,c.args.toList with
  | .builtin .append,[x,y]=>(dl d ++ (occ (ev τ x) ++ occ (ev τ y)),dl d ++ occ (ev τ x))
  | .builtin .len,[x]=>(occ (ev τ x),[])
  | .builtin .delete,[x,_]=>(occ (ev τ x),occ (ev τ x))
  | .builtin .clear,[x]=>(occ (ev τ x),occ (ev τ x))
  | .value f,args=>(dl d ++ withM (occ (ev τ f) ++ occL (args.map (ev τ))),dl d ++ withM (occ (ev τ f) ++ occL (args.map (ev τ))))
  | _,_=>([],[])
 | _=>([],[])
theorem foot_sub (τ:Nat → AV) (d:Option Nat) (o:Op) {k:Nat}:k ∈ (foot τ d o).2 → k ∈ (foot τ d o).1:=by
 unfold foot
 split <;> try (simp; done)
 split <;> simp
 intro h
 rcases h with h | h
 ·exact .inl h
 ·exact .inr (.inl h)
def touches:Op → Bool
 | .load .. | .fieldAddr .. | .indexAddr .. | .slice .. | .nilCheck _ | .alloc _ | .box .. | .store .. | .buildSlice .. | .makeSlice .. | .call _ | .range .. | .next .. | .lookup .. | .makeMap .. | .mapUpdate ..=>true
 | _=>false
def turns:Op → Bool
 | .alloc _ | .box .. | .store .. | .buildSlice .. | .makeSlice .. | .range .. | .next .. | .makeMap .. | .mapUpdate ..=>true
 | .call c=>match c.callee with
  | .builtin .len=>false
  | _=>true
 | _=>false
theorem foot_touches (τ:Nat → AV) (d:Option Nat) (o:Op) (h:touches o = false):foot τ d o = ([],[]):=by
 cases o <;> first | rfl | cases h
theorem foot_turns (τ:Nat → AV) (d:Option Nat) (o:Op) (h:turns o = false):(foot τ d o).2 = []:=by
 cases o <;> first | rfl | cases h | skip
 rename_i c
 unfold foot
 dsimp only
 split
 ·rename_i hc _; simp [turns,hc] at h
 ·rfl
 ·rename_i hc _; simp [turns,hc] at h
 ·rename_i hc _; simp [turns,hc] at h
 ·rename_i hc; simp [turns,hc] at h
 ·rfl
theorem ev_ext {τ τ':Nat → AV} {x:Operand} (h:∀ t,x = .tmp t → τ' t = τ t):ev τ' x = ev τ x:=by
 cases x with
 | tmp t=>exact h t rfl
 | _=>rfl
section
variable {H H2 : Heap}
theorem nv_congr {d:Nat} (h:H2 d = H d):nv H2 d = nv H d:=by simp [nv,h]
theorem upd_frame {d:Nat} (b:Option Blk):(∀ k,k ∈ [d] → upd H2 d b k = upd H d b k) ∧ ∀ k,k ∉ [d] → upd H2 d b k = H2 k ∧ upd H d b k = H k:=by
 refine ⟨fun k hk=>?_,fun k hk=>?_⟩
 ·have:k = d:=by simpa using hk
  subst this
  simp
 ·have:k ≠ d:=by simpa using hk
  exact ⟨upd_other _ _ _ _ this,upd_other _ _ _ _ this⟩
end
theorem OpR.frame {P:Program} {τ:Nat → AV} {H H':Heap} {o:Oper} {v:AV} (h:OpR P τ H o v H') (H2:Heap) (hag:∀ k ∈ (foot τ o.dst o.op).1,H2 k = H k) :
  ∃ H2',OpR P τ H2 o v H2' ∧ (∀ k,k ∈ (foot τ o.dst o.op).2 → H2' k = H' k) ∧ (∀ k,k ∉ (foot τ o.dst o.op).2 → H2' k = H2 k ∧ H' k = H k):=by
 have quiet:∀ {w:AV},OpR P τ H2 o w H2 → (foot τ o.dst o.op).2 = [] → ∃ H2',OpR P τ H2 o w H2' ∧ (∀ k,k ∈ (foot τ o.dst o.op).2 → H2' k = H k) ∧ (∀ k,k ∉ (foot τ o.dst o.op).2 → H2' k = H2 k ∧ H k = H k):=
  fun {w} h1 h2=>⟨H2,h1,fun k hk=>by rw [h2] at hk; simp at hk,fun k _=>⟨rfl,rfl⟩⟩
 cases h with
 | move x h=>exact quiet (.move x h) (by rw [h]; rfl)
 | assign x h=>exact quiet (.assign x h) (by rw [h]; rfl)
 | pick c x y t h hc=>exact quiet (.pick c x y t h hc) (by rw [h]; rfl)
 | alloc e d z h hd hz hok=>
  rw [h,hd] at hag
  have e1:H2 d = H d:=hag d (by simp [foot,dl])
  have e2:=nv_congr e1
  refine ⟨_,by have:=OpR.alloc (H:=H2) (τ:=τ) e d z h hd hz hok; rw [e2] at this; exact this,?_⟩
  rw [h,hd]
  exact upd_frame _
 | box e x d h hd hok=>
  rw [h,hd] at hag
  have e1:H2 d = H d:=hag d (by simp [foot,dl])
  have e2:=nv_congr e1
  refine ⟨_,by have:=OpR.box (P:=P) (H:=H2) (τ:=τ) e x d h hd hok; rw [e2] at this; exact this,?_⟩
  rw [h,hd]
  exact upd_frame _
 | makeSlice t e l c n b d z kl kc len cap h hd he hn hb hn0 hz hzc hzn hl hc hlc hlim h63=>
  rw [h,hd] at hag
  have e1:H2 d = H d:=hag d (by simp [foot,dl])
  have e2:=nv_congr e1
  refine ⟨_,by have:=OpR.makeSlice (P:=P) (H:=H2) (τ:=τ) t e l c n b d z kl kc len cap h hd he hn hb hn0 hz hzc hzn hl hc hlc hlim h63; rw [e2] at this; exact this,?_⟩
  rw [h,hd]
  exact upd_frame _
 | build t parts z cells h hz hok hzc hf=>exact quiet (.build t parts z cells h hz hok hzc hf) (by rw [h]; rfl)
 | lit t len parts e n z rows H1 h he hn hn0 hz hzc hzn hlim hH hf=>
  rw [h] at hag
  have hag':∀ k ∈ occL (parts.toList.map fun p=>ev τ p.2),H2 k = H k:=fun k hk=>hag k (by simp [foot,hk])
  have hin:=frzs_loc.2 H H2 (parts.toList.map fun p=>ev τ p.2) (fun k=>k ∈ occL (parts.toList.map fun p=>ev τ p.2)) (fun k hk=>hk) hag'
  refine ⟨frzs H2 (parts.toList.map fun p=>ev τ p.2),.lit t len parts e n z rows _ h he hn hn0 hz hzc hzn hlim rfl ?_,fun k hk=>?_,fun k hk=>?_⟩
  ·rw [← hf]
   refine congrArg _ (List.map_congr_left fun p hp=>?_)
   rw [pur_congr (H:=H') fun k hk=>?_]
   rw [hH]
   exact hin k (occ_mem (List.mem_map_of_mem (f:=fun p:Nat × Operand=>ev τ p.2) hp) hk)
  ·rw [h] at hk
   simp only [foot,List.mem_append] at hk
   subst hH
   by_cases hk2:k ∈ occL (parts.toList.map fun p=>ev τ p.2)
   ·exact hin k hk2
   ·rw [frzs_loc.1 _ _ _ hk2,frzs_loc.1 _ _ _ hk2]
    exact hag k (by simp only [foot,List.mem_append]; exact hk)
  ·rw [h] at hk
   simp only [foot,List.mem_append,not_or] at hk
   subst hH
   exact ⟨frzs_loc.1 _ _ _ hk.2,frzs_loc.1 _ _ _ hk.2⟩
 | litOwn t len parts e n d z rows H1 h hd he hn hn0 hz hzc hzn hlim hH hf=>
  rw [h,hd] at hag
  have hag':∀ k ∈ occL (parts.toList.map fun p=>ev τ p.2),H2 k = H k:=fun k hk=>hag k (by simp [foot,hk])
  have hA:∀ k,(k = d ∨ k ∈ occL (parts.toList.map fun p=>ev τ p.2)) → frzs H2 (parts.toList.map fun p=>ev τ p.2) k = frzs H (parts.toList.map fun p=>ev τ p.2) k:=
   frzs_loc.2 H H2 (parts.toList.map fun p=>ev τ p.2) (fun k=>k = d ∨ k ∈ occL (parts.toList.map fun p=>ev τ p.2)) (fun k hk=>.inr hk) fun k hk=>hag k (by simpa [foot,dl] using hk)
  have e2:nv (frzs H2 (parts.toList.map fun p=>ev τ p.2)) d = nv H1 d:=by rw [hH]; exact nv_congr (hA d (.inl rfl))
  refine ⟨_,by
   have:=OpR.litOwn (P:=P) (H:=H2) (τ:=τ) t len parts e n d z rows _ h hd he hn hn0 hz hzc hzn hlim rfl ?_
   ·rw [e2] at this; exact this
   ·rw [← hf]
    refine congrArg _ (List.map_congr_left fun p hp=>?_)
    rw [pur_congr (H:=H1) fun k hk=>?_]
    rw [hH]
    exact hA k (.inr (occ_mem (List.mem_map_of_mem (f:=fun p:Nat × Operand=>ev τ p.2) hp) hk)),?_⟩
  rw [h,hd]
  subst hH
  refine ⟨fun k hk=>?_,fun k hk=>?_⟩
  ·have hk:k = d ∨ k ∈ occL (parts.toList.map fun p=>ev τ p.2):=by simpa [foot,dl] using hk
   by_cases e:k = d
   ·subst e; simp
   ·rw [upd_other _ _ _ _ e,upd_other _ _ _ _ e]; exact hA k hk
  ·have hk:¬ (k = d ∨ k ∈ occL (parts.toList.map fun p=>ev τ p.2)):=by simpa [foot,dl] using hk
   rw [not_or] at hk
   rw [upd_other _ _ _ _ hk.1,upd_other _ _ _ _ hk.1]
   exact ⟨frzs_loc.1 _ _ _ hk.2,frzs_loc.1 _ _ _ hk.2⟩
 | load t x n ag v h hn ha hr=>
  rw [h] at hag
  exact quiet (.load t x n ag v h hn ha (by rw [rdV_congr hag]; exact hr)) (by rw [h]; rfl)
 | makeMap t e d kd h hd ht=>
  rw [h,hd] at hag
  have e1:H2 d = H d:=hag d (by simp [foot,dl])
  have e2:=nv_congr e1
  refine ⟨_,by have:=OpR.makeMap (P:=P) (H:=H2) (τ:=τ) t e d kd h hd ht; rw [e2] at this; exact this,?_⟩
  rw [h,hd]
  exact upd_frame _
 | lookup t e x i co kd z r h ht hz hr=>
  rw [h] at hag
  exact quiet (.lookup t e x i co kd z _ h ht hz (by unfold lkV at hr ⊢; rw [mpAt_occ hag]; exact hr)) (by rw [h]; rfl)
 | mapUpdate t e x i y kd H' h ht hr=>
  rw [h] at hag
  unfold mupV at hr
  obtain ⟨q,hq,hr⟩:=Option.bind_eq_some_iff.1 hr
  split at hr
  case isFalse=>cases hr
  rename_i hc
  cases hr
  have hk:=(mpAt_some hq).1
  refine ⟨_,.mapUpdate t e x i y kd _ h ht (by unfold mupV; rw [mpAt_occ hag,hq]; simp only [Option.bind_some,if_pos hc]; rfl),?_⟩
  rw [h]
  show (∀ k,k ∈ occ (ev τ x) → _) ∧ ∀ k,k ∉ occ (ev τ x) → _
  rw [hk]
  exact upd_frame _
 | mapDel t u e x i kd H' h ht hr=>
  rw [h] at hag
  unfold mdlV at hr
  obtain ⟨q,hq,hr⟩:=Option.bind_eq_some_iff.1 hr
  split at hr
  case isFalse=>cases hr
  rename_i hc
  cases hr
  have hk:=(mpAt_some hq).1
  refine ⟨_,.mapDel t u e x i kd _ h ht (by unfold mdlV; rw [mpAt_occ hag,hq]; simp only [Option.bind_some,if_pos hc]; rfl),?_⟩
  rw [h]
  show (∀ k,k ∈ occ (ev τ x) → _) ∧ ∀ k,k ∉ occ (ev τ x) → _
  rw [hk]
  exact upd_frame _
 | mapClr t e x kd H' h ht hr=>
  rw [h] at hag
  unfold mclV at hr
  obtain ⟨q,hq,hr⟩:=Option.map_eq_some_iff.1 hr
  subst hr
  have hk:=(mpAt_some hq).1
  refine ⟨_,.mapClr t e x kd _ h ht (by unfold mclV; rw [mpAt_occ hag,hq]; rfl),?_⟩
  rw [h]
  show (∀ k,k ∈ occ (ev τ x) → _) ∧ ∀ k,k ∉ occ (ev τ x) → _
  rw [hk]
  exact upd_frame _
 | store t x y n H' h hn hw=>
  rw [h] at hag
  obtain ⟨k,b,hk,rfl,h2⟩:=wrV_frame hag hw
  refine ⟨_,.store t x y n _ h hn h2,fun k' hk'=>?_,fun k' hk'=>?_⟩
  ·rw [h] at hk'
   unfold upd
   split
   ·rfl
   ·exact hag k' hk'
  ·rw [h] at hk'
   have:k' ≠ k:=fun e=>hk' (e ▸ hk)
   exact ⟨upd_other _ _ _ _ this,upd_other _ _ _ _ this⟩
 | binOp op t yt x y v h hv=>exact quiet (.binOp op t yt x y v h hv) (by rw [h]; rfl)
 | eqAgg op t yt x y ng p v h hp hv=>exact quiet (.eqAgg op t yt x y ng p v h hp hv) (by rw [h]; rfl)
 | index t x ix sb k i b h ht hx hi h0 hb=>exact quiet (.index t x ix sb k i b h ht hx hi h0 hb) (by rw [h]; rfl)
 | sliceStr t x lo hi sb l' h' l hh h ht hx hlo hhi hl hh' hlh hhr=>exact quiet (.sliceStr t x lo hi sb l' h' l hh h ht hx hlo hhi hl hh' hlh hhr) (by rw [h]; rfl)
 | rangeStr t x d sb h hd ht hx=>
  rw [h,hd] at hag
  have e1:H2 d = H d:=hag d (by simp [foot,dl])
  have e2:=nv_congr e1
  refine ⟨_,by have:=OpR.rangeStr (H:=H2) (τ:=τ) t x d sb h hd ht hx; rw [e2] at this; exact this,?_⟩
  rw [h,hd]
  exact upd_frame _
 | nextStr x k ver sb pos h hx hk hlt=>
  rw [h] at hag
  have ek:H2 k = H k:=hag k (by simp [foot,hx,occ])
  refine ⟨_,.nextStr x k ver sb pos h hx (ek.trans hk) hlt,?_⟩
  have ef:(foot τ o.dst o.op).2 = [k]:=by rw [h]; simp [foot,hx,occ]
  rw [ef]
  exact upd_frame _
 | nextEnd x k ver sb pos h hx hk hge=>
  rw [h] at hag
  have ek:H2 k = H k:=hag k (by simp [foot,hx,occ])
  refine ⟨H2,.nextEnd x k ver sb pos h hx (ek.trans hk) hge,fun k' hk'=>?_,fun k' _=>⟨rfl,rfl⟩⟩
  rw [h] at hk'
  exact hag k' (by simpa [foot] using hk')
 | not t x v h hv=>exact quiet (.not t x v h hv) (by rw [h]; rfl)
 | fieldAddr t x f off n v h hf hn hv=>
  rw [h] at hag
  exact quiet (.fieldAddr t x f off n v h hf hn (by rw [addA_congr hag]; exact hv)) (by rw [h]; rfl)
 | field t x f off n ag cs v h hf ha hx hv=>exact quiet (.field t x f off n ag cs v h hf ha hx hv) (by rw [h]; rfl)
 | indexAddr t e x ix n k i v h he hn hi hv=>
  rw [h] at hag
  exact quiet (.indexAddr t e x ix n k i v h he hn hi (by rw [ixA_congr hag]; exact hv)) (by rw [h]; rfl)
 | indexArr t e x ix len n k i v h he hn hi h0 h1 hv=>
  rw [h] at hag
  exact quiet (.indexArr t e x ix len n k i v h he hn hi h0 h1 (by rw [addA_congr hag]; exact hv)) (by rw [h]; rfl)
 | extract x i vs v h hx hv=>exact quiet (.extract x i vs v h hx hv) (by rw [h]; rfl)
 | neg t x k i h hx=>exact quiet (.neg t x k i h hx) (by rw [h]; rfl)
 | slice3 t e x hi mx n k k' rows h he hn hx hsz hhi hmx=>
  rw [h] at hag
  exact quiet (.slice3 t e x hi mx n k k' rows h he hn (by rw [rowsA_congr hag]; exact hx) hsz hhi hmx) (by rw [h]; rfl)
 | slice t e x lo hi n l' h' rows l hh h he hn hx hsz hlo hhi hl hh' hlh hhr=>
  rw [h] at hag
  exact quiet (.slice t e x lo hi n l' h' rows l hh h he hn (by rw [rowsA_congr hag]; exact hx) hsz hlo hhi hl hh' hlh hhr) (by rw [h]; rfl)
 | makeFunc f caps h=>exact quiet (.makeFunc f caps h) (by rw [h]; rfl)
 | nilCheck x h hx=>
  rw [h] at hag
  exact quiet (.nilCheck x h (by rw [okPtr_congr hag]; exact hx)) (by rw [h]; rfl)
 | convInt st dt x k k' i h hs hd hx=>exact quiet (.convInt st dt x k k' i h hs hd hx) (by rw [h]; rfl)
 | len t x n h ht hx=>
  rw [h] at hag
  exact quiet (.len t x n h ht (by rw [lenA_congr hag]; exact hx)) (by rw [h]; rfl)
 | lenStr t x b h ht hx=>exact quiet (.lenStr t x b h ht hx) (by rw [h]; rfl)
 | min t1 t2 x y v h hv=>exact quiet (.min t1 t2 x y v h hv) (by rw [h]; rfl)
 | append t e x y n b k ver rows new h he hok hx hk hy hb=>
  rw [h] at hag
  have ax:∀ j ∈ occ (ev τ x),H2 j = H j:=fun j hj=>hag j (by simp [foot,hj])
  have ay:∀ j ∈ occ (ev τ y),H2 j = H j:=fun j hj=>hag j (by simp [foot,hj])
  have hkx:k ∈ occ (ev τ x):=by rw [hx]; simp [occ]
  have e1:H2 k = H k:=ax k hkx
  have e2:=nv_congr e1
  refine ⟨_,by
   have:=OpR.append (P:=P) (H:=H2) (τ:=τ) t e x y n b k ver rows new h he hok hx (e1.trans hk) (by rw [srcA_congr ay]; exact hy) hb
   rw [e2] at this; exact this,fun j hj=>?_,fun j hj=>?_⟩
  ·rw [h] at hj
   unfold upd
   split
   ·rfl
   ·exact hag j (foot_sub τ o.dst _ hj)
  ·rw [h] at hj
   have:j ≠ k:=fun e=>hj (by subst e; simp [foot,hkx])
   exact ⟨upd_other _ _ _ _ this,upd_other _ _ _ _ this⟩
 | appendNil t e x y n b d new h he hok hx hd hy hb=>
  rw [h,hd] at hag
  have ay:∀ j ∈ occ (ev τ y),H2 j = H j:=fun j hj=>hag j (by simp [foot,hj])
  have e1:H2 d = H d:=hag d (by simp [foot,dl])
  have e2:=nv_congr e1
  refine ⟨_,by
   have:=OpR.appendNil (P:=P) (H:=H2) (τ:=τ) t e x y n b d new h he hok hx hd (by rw [srcA_congr ay]; exact hy) hb
   rw [e2] at this; exact this,fun j hj=>?_,fun j hj=>?_⟩
  ·rw [h,hd] at hj
   unfold upd
   split
   ·rfl
   ·exact hag j (foot_sub τ (some d) _ hj)
  ·rw [h,hd] at hj
   have:j ≠ d:=fun e=>hj (by subst e; simp [foot,dl])
   exact ⟨upd_other _ _ _ _ this,upd_other _ _ _ _ this⟩
 | call f c fid caps r H1 h hc hf hH hcl hs=>
  have hfoot:foot τ o.dst o.op = (dl o.dst ++ withM (occ (ev τ f) ++ occL (c.args.toList.map (ev τ))),dl o.dst ++ withM (occ (ev τ f) ++ occL (c.args.toList.map (ev τ)))):=by
   rw [h]; unfold foot; dsimp only; rw [hc]
  rw [hfoot] at hag ⊢
  have hA:=frzs_loc.2 H H2 (c.args.toList.map (ev τ)) (fun k=>k ∈ dl o.dst ++ withM (occ (ev τ f) ++ occL (c.args.toList.map (ev τ)))) (fun k hk=>by simp [mem_withM,hk]) hag
  have eargs:callArgs τ (frzs H2 (c.args.toList.map (ev τ))) c caps = callArgs τ H' c caps:=by
   unfold callArgs
   refine List.map_congr_left fun a ha=>pur_congr fun k hk=>?_
   rw [hH]
   refine hA k ?_
   rcases List.mem_append.1 ha with ha | ha
   ·simp [mem_withM,occ_mem ha hk]
   ·have:k ∈ occ (ev τ f):=by rw [hf]; simp only [occ]; exact occ_mem ha hk
    simp [mem_withM,this]
  refine ⟨_,.call f c fid caps v _ h hc hf rfl (by rw [eargs]; exact hcl) (by rw [eargs]; exact hs),fun k hk=>by rw [hH]; exact hA k hk,fun k hk=>?_⟩
  have hk2:k ∉ occL (c.args.toList.map (ev τ)):=fun h=>hk (by simp [mem_withM,h])
  rw [hH]
  exact ⟨frzs_loc.1 _ _ _ hk2,frzs_loc.1 _ _ _ hk2⟩
 | callFlat f c fid caps r H1 h hc hf hH hcl hs hfl=>
  have hfoot:foot τ o.dst o.op = (dl o.dst ++ withM (occ (ev τ f) ++ occL (c.args.toList.map (ev τ))),dl o.dst ++ withM (occ (ev τ f) ++ occL (c.args.toList.map (ev τ)))):=by
   rw [h]; unfold foot; dsimp only; rw [hc]
  rw [hfoot] at hag ⊢
  have hA:=frzs_loc.2 H H2 (c.args.toList.map (ev τ)) (fun k=>k ∈ dl o.dst ++ withM (occ (ev τ f) ++ occL (c.args.toList.map (ev τ)))) (fun k hk=>by simp [mem_withM,hk]) hag
  have eargs:callArgs τ (frzs H2 (c.args.toList.map (ev τ))) c caps = callArgs τ H1 c caps:=by
   unfold callArgs
   refine List.map_congr_left fun a ha=>pur_congr fun k hk=>?_
   rw [hH]
   refine hA k ?_
   rcases List.mem_append.1 ha with ha | ha
   ·simp [mem_withM,occ_mem ha hk]
   ·have:k ∈ occ (ev τ f):=by rw [hf]; simp only [occ]; exact occ_mem ha hk
    simp [mem_withM,this]
  exact ⟨H2,.callFlat f c fid caps v _ h hc hf rfl (by rw [eargs]; exact hcl) (by rw [eargs]; exact hs) hfl,fun k hk=>hag k (by simpa using hk),fun k _=>⟨rfl,rfl⟩⟩
 | callRow f c fid caps H1 t sz rows d h hc hf hH hcl hd hs=>
  have hfoot:foot τ o.dst o.op = (dl o.dst ++ withM (occ (ev τ f) ++ occL (c.args.toList.map (ev τ))),dl o.dst ++ withM (occ (ev τ f) ++ occL (c.args.toList.map (ev τ)))):=by
   rw [h]; unfold foot; dsimp only; rw [hc]
  rw [hfoot] at hag ⊢
  have hA:=frzs_loc.2 H H2 (c.args.toList.map (ev τ)) (fun k=>k ∈ dl o.dst ++ withM (occ (ev τ f) ++ occL (c.args.toList.map (ev τ)))) (fun k hk=>by simp [mem_withM,hk]) hag
  have eargs:callArgs τ (frzs H2 (c.args.toList.map (ev τ))) c caps = callArgs τ H1 c caps:=by
   unfold callArgs
   refine List.map_congr_left fun a ha=>pur_congr fun k hk=>?_
   rw [hH]
   refine hA k ?_
   rcases List.mem_append.1 ha with ha | ha
   ·simp [mem_withM,occ_mem ha hk]
   ·have:k ∈ occ (ev τ f):=by rw [hf]; simp only [occ]; exact occ_mem ha hk
    simp [mem_withM,this]
  have hdl:d ∈ dl o.dst:=by rw [hd]; simp [dl]
  have e2:nv (frzs H2 (c.args.toList.map (ev τ))) d = nv H1 d:=by
   rw [hH]
   exact nv_congr (hA d (by simp [hdl]))
  refine ⟨_,by
   have:=OpR.callRow (P:=P) (H:=H2) (τ:=τ) f c fid caps _ t sz rows d h hc hf rfl (by rw [eargs]; exact hcl) hd (by rw [eargs]; exact hs)
   rw [e2] at this; exact this,fun k hk=>?_,fun k hk=>?_⟩
  ·unfold upd
   split
   ·rfl
   ·rw [hH]; exact hA k hk
  ·have hk2:k ∉ occL (c.args.toList.map (ev τ)):=fun h=>hk (by simp [mem_withM,h])
   have hkd:k ≠ d:=fun e=>hk (by subst e; simp [hdl])
   rw [hH]
   exact ⟨(upd_other _ _ _ _ hkd).trans (frzs_loc.1 _ _ _ hk2),(upd_other _ _ _ _ hkd).trans (frzs_loc.1 _ _ _ hk2)⟩
def tmpsOf (o:Op):List Nat:=o.operands.toList.filterMap fun | .tmp t=>some t | _=>none
theorem mem_tmpsOf {o:Op} {t:Nat} (h:Operand.tmp t ∈ o.operands.toList):t ∈ tmpsOf o:=List.mem_filterMap.2 ⟨.tmp t,h,rfl⟩
theorem evs_ext {τ τ':Nat → AV} {o:Op} (h:∀ t ∈ tmpsOf o,τ' t = τ t) {x:Operand} (hx:x ∈ o.operands.toList):ev τ' x = ev τ x:=
 ev_ext fun t e=>h t (mem_tmpsOf (e ▸ hx))
theorem OpR.tmps {P:Program} {τ τ':Nat → AV} {H H':Heap} {o:Oper} {v:AV} (h:OpR P τ H o v H') (ht:∀ t ∈ tmpsOf o.op,τ' t = τ t):OpR P τ' H o v H':=by
 have E:∀ x ∈ o.op.operands.toList,ev τ' x = ev τ x:=fun x hx=>evs_ext ht hx
 cases h with
 | move x h=>rw [← E x (by rw [h]; simp [Op.operands])]; exact .move x h
 | assign x h=>rw [← E x (by rw [h]; simp [Op.operands])]; exact .assign x h
 | pick c x y t h hc=>
  rw [← E x (by rw [h]; simp [Op.operands]),← E y (by rw [h]; simp [Op.operands])]
  exact .pick c x y t h (by rw [E c (by rw [h]; simp [Op.operands])]; exact hc)
 | alloc e d z h hd hz hok=>exact .alloc e d z h hd hz hok
 | box e x d h hd hok=>
  have ex:=E x (by rw [h]; simp [Op.operands])
  rw [← ex]
  exact .box e x d h hd (by rw [ex]; exact hok)
 | build t parts z cells h hz hok hzc hf=>
  refine .build t parts z cells h hz hok hzc ?_
  rw [← hf]
  exact congrArg _ (List.map_congr_left fun p hp=>by rw [E p.2 (by rw [h]; simp only [Op.operands]; exact List.mem_map_of_mem hp)])
 | lit t len parts e n z rows H1 h he hn hn0 hz hzc hzn hlim hH hf=>
  have el:(parts.toList.map fun p=>ev τ' p.2) = parts.toList.map fun p=>ev τ p.2:=List.map_congr_left fun p hp=>by rw [E p.2 (by rw [h]; simp only [Op.operands]; exact List.mem_map_of_mem hp)]
  refine .lit t len parts e n z rows _ h he hn hn0 hz hzc hzn hlim (by rw [el]; exact hH) ?_
  rw [← hf]
  exact congrArg _ (List.map_congr_left fun p hp=>by rw [E p.2 (by rw [h]; simp only [Op.operands]; exact List.mem_map_of_mem hp)])
 | litOwn t len parts e n d z rows H1 h hd he hn hn0 hz hzc hzn hlim hH hf=>
  have el:(parts.toList.map fun p=>ev τ' p.2) = parts.toList.map fun p=>ev τ p.2:=List.map_congr_left fun p hp=>by rw [E p.2 (by rw [h]; simp only [Op.operands]; exact List.mem_map_of_mem hp)]
  refine .litOwn t len parts e n d z rows _ h hd he hn hn0 hz hzc hzn hlim (by rw [el]; exact hH) ?_
  rw [← hf]
  exact congrArg _ (List.map_congr_left fun p hp=>by rw [E p.2 (by rw [h]; simp only [Op.operands]; exact List.mem_map_of_mem hp)])
 | makeSlice t e l c n b d z kl kc len cap h hd he hn hb hn0 hz hzc hzn hl hc hlc hlim h63=>
  exact .makeSlice t e l c n b d z kl kc len cap h hd he hn hb hn0 hz hzc hzn (by rw [E l (by rw [h]; simp [Op.operands])]; exact hl) (by rw [E c (by rw [h]; simp [Op.operands])]; exact hc) hlc hlim h63
 | load t x n ag v h hn ha hr=>exact .load t x n ag v h hn ha (by rw [E x (by rw [h]; simp [Op.operands])]; exact hr)
 | store t x y n H' h hn hw=>exact .store t x y n H' h hn (by rw [E x (by rw [h]; simp [Op.operands]),E y (by rw [h]; simp [Op.operands])]; exact hw)
 | binOp op t yt x y v h hv=>exact .binOp op t yt x y v h (by rw [E x (by rw [h]; simp [Op.operands]),E y (by rw [h]; simp [Op.operands])]; exact hv)
 | eqAgg op t yt x y ng p v h hp hv=>exact .eqAgg op t yt x y ng p v h hp (by rw [E x (by rw [h]; simp [Op.operands]),E y (by rw [h]; simp [Op.operands])]; exact hv)
 | index t x ix sb k i b h ht hx hi h0 hb=>exact .index t x ix sb k i b h ht (by rw [E x (by rw [h]; simp [Op.operands])]; exact hx) (by rw [E ix (by rw [h]; simp [Op.operands])]; exact hi) h0 hb
 | sliceStr t x lo hi sb l' h' l hh h ht hx hlo hhi hl hh' hlh hhr=>
  refine .sliceStr t x lo hi sb l' h' l hh h ht (by rw [E x (by rw [h]; simp [Op.operands])]; exact hx) ?_ ?_ hl hh' hlh hhr
  ·rw [← hlo]
   cases lo with
   | none=>rfl
   | some q=>simp only [ixV]; rw [E q (by rw [h]; simp [Op.operands])]
  ·rw [← hhi]
   cases hi with
   | none=>rfl
   | some q=>simp only [ixV]; rw [E q (by rw [h]; simp [Op.operands])]
 | rangeStr t x d sb h hd ht hx=>exact .rangeStr t x d sb h hd ht (by rw [E x (by rw [h]; simp [Op.operands])]; exact hx)
 | nextStr x k ver sb pos h hx hk hlt=>exact .nextStr x k ver sb pos h (by rw [E x (by rw [h]; simp [Op.operands])]; exact hx) hk hlt
 | nextEnd x k ver sb pos h hx hk hge=>exact .nextEnd x k ver sb pos h (by rw [E x (by rw [h]; simp [Op.operands])]; exact hx) hk hge
 | makeMap t e d kd h hd ht=>exact .makeMap t e d kd h hd ht
 | lookup t e x i co kd z r h ht hz hr=>exact .lookup t e x i co kd z _ h ht hz (by rw [E x (by rw [h]; simp [Op.operands]),E i (by rw [h]; simp [Op.operands])]; exact hr)
 | mapUpdate t e x i y kd H' h ht hr=>exact .mapUpdate t e x i y kd _ h ht (by rw [E x (by rw [h]; simp [Op.operands]),E i (by rw [h]; simp [Op.operands]),E y (by rw [h]; simp [Op.operands])]; exact hr)
 | mapDel t u e x i kd H' h ht hr=>exact .mapDel t u e x i kd _ h ht (by rw [E x (by rw [h]; simp [Op.operands,Call.operands]),E i (by rw [h]; simp [Op.operands,Call.operands])]; exact hr)
 | mapClr t e x kd H' h ht hr=>exact .mapClr t e x kd _ h ht (by rw [E x (by rw [h]; simp [Op.operands,Call.operands])]; exact hr)
 | not t x v h hv=>exact .not t x v h (by rw [E x (by rw [h]; simp [Op.operands])]; exact hv)
 | neg t x k i h hx=>exact .neg t x k i h (by rw [E x (by rw [h]; simp [Op.operands])]; exact hx)
 | slice3 t e x hi mx n k k' rows h he hn hx hsz hhi hmx=>
  exact .slice3 t e x hi mx n k k' rows h he hn (by rw [E x (by rw [h]; simp [Op.operands])]; exact hx) hsz (by rw [E hi (by rw [h]; simp [Op.operands])]; exact hhi) (by rw [E mx (by rw [h]; simp [Op.operands])]; exact hmx)
 | fieldAddr t x f off n v h hf hn hv=>exact .fieldAddr t x f off n v h hf hn (by rw [E x (by rw [h]; simp [Op.operands])]; exact hv)
 | field t x f off n ag cs v h hf ha hx hv=>exact .field t x f off n ag cs v h hf ha (by rw [E x (by rw [h]; simp [Op.operands])]; exact hx) hv
 | indexAddr t e x ix n k i v h he hn hi hv=>exact .indexAddr t e x ix n k i v h he hn (by rw [E ix (by rw [h]; simp [Op.operands])]; exact hi) (by rw [E x (by rw [h]; simp [Op.operands])]; exact hv)
 | indexArr t e x ix len n k i v h he hn hi h0 h1 hv=>exact .indexArr t e x ix len n k i v h he hn (by rw [E ix (by rw [h]; simp [Op.operands])]; exact hi) h0 h1 (by rw [E x (by rw [h]; simp [Op.operands])]; exact hv)
 | extract x i vs v h hx hv=>exact .extract x i vs v h (by rw [E x (by rw [h]; simp [Op.operands])]; exact hx) hv
 | slice t e x lo hi n l' h' rows l hh h he hn hx hsz hlo hhi hl hh' hlh hhr=>
  refine .slice t e x lo hi n l' h' rows l hh h he hn (by rw [E x (by rw [h]; simp [Op.operands])]; exact hx) hsz ?_ ?_ hl hh' hlh hhr
  ·rw [← hlo]
   cases lo with
   | none=>rfl
   | some q=>simp only [ixV]; rw [E q (by rw [h]; simp [Op.operands])]
  ·rw [← hhi]
   cases hi with
   | none=>rfl
   | some q=>simp only [ixV]; rw [E q (by rw [h]; simp [Op.operands])]
 | makeFunc f caps h=>
  have:caps.toList.map (ev τ) = caps.toList.map (ev τ'):=List.map_congr_left fun x hx=>(E x (by rw [h]; simpa [Op.operands] using hx)).symm
  rw [this]
  exact .makeFunc f caps h
 | nilCheck x h hx=>
  have ex:=E x (by rw [h]; simp [Op.operands])
  rw [← ex] at hx ⊢
  exact .nilCheck x h hx
 | convInt st dt x k k' i h hs hd hx=>exact .convInt st dt x k k' i h hs hd (by rw [E x (by rw [h]; simp [Op.operands])]; exact hx)
 | len t x n h ht hx=>exact .len t x n h ht (by rw [E x (by rw [h]; simp [Op.operands,Call.operands])]; exact hx)
 | lenStr t x b h ht hx=>exact .lenStr t x b h ht (by rw [E x (by rw [h]; simp [Op.operands,Call.operands])]; exact hx)
 | min t1 t2 x y v h hv=>exact .min t1 t2 x y v h (by rw [E x (by rw [h]; simp [Op.operands,Call.operands]),E y (by rw [h]; simp [Op.operands,Call.operands])]; exact hv)
 | append t e x y n b k ver rows new h he hok hx hk hy hb=>
  exact .append t e x y n b k ver rows new h he hok (by rw [E x (by rw [h]; simp [Op.operands,Call.operands])]; exact hx) hk (by rw [E y (by rw [h]; simp [Op.operands,Call.operands])]; exact hy) hb
 | appendNil t e x y n b d new h he hok hx hd hy hb=>
  exact .appendNil t e x y n b d new h he hok (by rw [E x (by rw [h]; simp [Op.operands,Call.operands])]; exact hx) hd (by rw [E y (by rw [h]; simp [Op.operands,Call.operands])]; exact hy) hb
 | call f c fid caps r H1 h hc hf hH hcl hs=>
  have ef:ev τ' f = ev τ f:=E f (by rw [h]; simp [Op.operands,Call.operands,hc])
  have ea:c.args.toList.map (ev τ') = c.args.toList.map (ev τ):=List.map_congr_left fun x hx=>E x (by rw [h]; simp only [Op.operands,Call.operands,Array.toList_append,List.mem_append]; exact .inr hx)
  have ec:callArgs τ' H' c caps = callArgs τ H' c caps:=by unfold callArgs; rw [ea]
  exact .call f c fid caps v _ h hc (ef.trans hf) (by rw [ea]; exact hH) (by rw [ec]; exact hcl) (by rw [ec]; exact hs)
 | callFlat f c fid caps r H1 h hc hf hH hcl hs hfl=>
  have ef:ev τ' f = ev τ f:=E f (by rw [h]; simp [Op.operands,Call.operands,hc])
  have ea:c.args.toList.map (ev τ') = c.args.toList.map (ev τ):=List.map_congr_left fun x hx=>E x (by rw [h]; simp only [Op.operands,Call.operands,Array.toList_append,List.mem_append]; exact .inr hx)
  have ec:callArgs τ' H1 c caps = callArgs τ H1 c caps:=by unfold callArgs; rw [ea]
  exact .callFlat f c fid caps v H1 h hc (ef.trans hf) (by rw [ea]; exact hH) (by rw [ec]; exact hcl) (by rw [ec]; exact hs) hfl
 | callRow f c fid caps H1 t sz rows d h hc hf hH hcl hd hs=>
  have ef:ev τ' f = ev τ f:=E f (by rw [h]; simp [Op.operands,Call.operands,hc])
  have ea:c.args.toList.map (ev τ') = c.args.toList.map (ev τ):=List.map_congr_left fun x hx=>E x (by rw [h]; simp only [Op.operands,Call.operands,Array.toList_append,List.mem_append]; exact .inr hx)
  have ec:callArgs τ' H1 c caps = callArgs τ H1 c caps:=by unfold callArgs; rw [ea]
  exact .callRow f c fid caps H1 t sz rows d h hc (ef.trans hf) (by rw [ea]; exact hH) (by rw [ec]; exact hcl) hd (by rw [ec]; exact hs)
end Go.Am
