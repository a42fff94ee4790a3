import Derived.Test.YtahchfkmpcfefaaGA4
set_option linter.unusedVariables false
set_option linter.unusedSimpArgs false
namespace Go.Am
open Go.RowKit
section
variable {E : Env} {s : St} {a : Act} {w : World} {S : Nat → Prop} {own : Nat → Option Nat} {C D : Nat → Prop} {Ds : List Nat}
def Hang (E:Env) (s:St) (S:Nat → Prop) (own:Nat → Option Nat) (D:Nat → Prop) (Ds:List Nat) (b:Nat):Prop:=
 (b < E.w0.heap.size ∧ ¬ E.X0 b) ∨ S b ∨ (∃ k,LiveAt s own k b) ∨ D b ∨ b ∈ Ds
theorem RelAt.abideLe (h:RelAt E s a w S own C D Ds) {w':World} (same:∀ b,Hang E s S own D Ds b → w'.heap[b]? = w.heap[b]?):(ctx E s w S own).le (ctx E s w' S own):=
 ⟨fun b hb=>⟨hb,same b (.inr (.inl hb))⟩,fun k blk hk=>⟨blk,hk,Nat.le_refl _,fun _ r v hr=>hr.same fun g e hl=>same g (.inr (.inr (.inl ⟨k,blk,hk,hl,e⟩)))⟩,rfl⟩
theorem RelAt.abide (h:RelAt E s a w S own C D Ds) (hJ:JOk E.J) {w':World} (same:∀ b,Hang E s S own D Ds b → w'.heap[b]? = w.heap[b]?) (hsz:w.heap.size ≤ w'.heap.size)
  (ho:w'.os = w.os) (ht:w'.tape = w.tape) (hp:w'.output = w.output):RelAt E s a w' S own C D Ds:=by
 have hle:=h.abideLe same
 exact {
  fr:=⟨ho.trans h.fr.os,ht.trans h.fr.tape,hp.trans h.fr.output,Nat.le_trans h.fr.size hsz,fun b hb hx=>(same b (.inl ⟨hb,hx⟩)).trans (h.fr.block b hb hx)⟩
  hS:=fun b hb=>⟨Nat.lt_of_lt_of_le (h.hS b hb).1 hsz,(h.hS b hb).2⟩
  hS0:=h.hS0
  hC:=h.hC
  hD:=fun b hb=>Nat.lt_of_lt_of_le (h.hD b hb) hsz
  j:=hJ _ _ _ _ _ h.j (fun b hb=>same b (.inr (.inr (.inr (.inl hb))))) hsz ho ht hp
  hown:=fun k blk g hk hl e=>⟨Nat.lt_of_lt_of_le (h.hown k blk g hk hl e).1 hsz,(h.hown k blk g hk hl e).2⟩
  inj:=h.inj
  heap:=fun k blk hk=>(h.heap k blk hk).mono hle fun g e hl=>same g (.inr (.inr (.inl ⟨k,blk,hk,hl,e⟩)))
  tmps:=fun i=>(h.tmps i).mono hle
  size:=h.size
  defers:=h.defers
  hDs:=fun d hd=>⟨(same d (.inr (.inr (.inr (.inr hd))))).trans (h.hDs d hd).1,(h.hDs d hd).2⟩
  nodup:=h.nodup
  le:=h.le.trans hle
  cd:=h.cd
  fix:=h.fix }
theorem RelAt.notLive (h:RelAt E s a w S own C D Ds) {b:Nat} {o:Obj} (hb:w.heap[b]? = some o) (ho:∀ cs t fr,o ≠ .cells cs t fr) (ho2:(∃ x,o = .deferred x) ∨ ∃ x,o = .loop x):¬ ∃ k,LiveAt s own k b:=by
 rintro ⟨k,blk,hk,hl,e⟩
 have hh:=h.heap k blk hk
 rw [e] at hh
 cases blk <;> first | (simp [Blk.live] at hl; done) | skip
 ·obtain ⟨cs,hcs,_⟩:=hh
  have hcs:w.heap[b]? = _:=hcs
  rw [hb] at hcs; exact ho _ _ _ (Option.some.inj hcs)
 ·obtain ⟨cs,cap,hcs,_⟩:=hh
  have hcs:w.heap[b]? = _:=hcs
  rw [hb] at hcs; exact ho _ _ _ (Option.some.inj hcs)
 ·obtain ⟨o',hcs,hob⟩:=hh
  have hcs:w.heap[b]? = _:=hcs
  rw [hb] at hcs
  cases hcs
  rcases ho2 with ⟨x,rfl⟩ | ⟨x,rfl⟩
  ·exact hob.not.2.1 _ rfl
  ·exact hob.not.2.2 _ rfl
def rEnv (E:Env) (s:St) (w:World) (S1:Nat → Prop) (own:Nat → Option Nat) (C D:Nat → Prop):Env:=
 ⟨E.P,E.n,w,S1,fun b=>(∃ k,LiveAt s own k b) ∨ C b,sealJ E.J,E.l,⟨s.H,own,S1,w,E.l⟩,C,D,true⟩
theorem RelAt.round (h:RelAt E s a w S own C D Ds) (hg:∃ b,s.g.stop = .b b) {S1:Nat → Prop} (hS:∀ b,S b → S1 b) (hS1:∀ b,S1 b → b < w.heap.size ∧ ¬ C b ∧ ¬ ∃ k,LiveAt s own k b) {τ:Nat → AV} {tmps:Array Value} (hsz:tmps.size = E.n)
  (ht:∀ i,R ⟨s.H,own,S1,w,E.l⟩ (τ i) (tmps.getD i undef)):RelAt (rEnv E s w S1 own C D) ⟨τ,s.H,s.g⟩ { tmps:=tmps,defers:=[] } w S1 own C D []:=by
 have hle:(ctx E s w S own).le ⟨s.H,own,S1,w,E.l⟩:=⟨fun b hb=>⟨hS b hb,rfl⟩,fun k blk hk=>⟨blk,hk,Nat.le_refl _,fun _ r v hr=>hr⟩,rfl⟩
 exact {
  fr:=⟨rfl,rfl,rfl,Nat.le_refl _,fun _ _ _=>rfl⟩
  hS:=fun b hb=>⟨(hS1 b hb).1,(hS1 b hb).2.1,.inl hb⟩
  hS0:=fun b hb=>hb
  hC:=fun b hb=>⟨(h.hC b hb).1,.inl (.inr hb)⟩
  hD:=h.hD
  j:=⟨h.j,hg⟩
  hown:=fun k blk g hk hl e=>⟨(h.hown k blk g hk hl e).1,fun hs=>(hS1 g hs).2.2 ⟨k,blk,hk,hl,e⟩,(h.hown k blk g hk hl e).2.2.1,.inl (.inl ⟨k,blk,hk,hl,e⟩)⟩
  inj:=h.inj
  heap:=fun k blk hk=>(h.heap k blk hk).mono hle fun _ _ _=>rfl
  tmps:=ht
  size:=hsz
  defers:=rfl
  hDs:=fun d hd=>by simp at hd
  nodup:=List.nodup_nil
  le:=.refl _
  cd:=⟨fun b hb=>.inl hb,fun b hb=>.inl hb⟩
  fix:=fun _=>rfl }
theorem RelAt.rebase (h:RelAt E s a w S own C D Ds) {S1:Nat → Prop} (hS:∀ b,S b → S1 b) (hS1:∀ b,S1 b → E.T b ∧ b ∉ Ds) {s2:St} {a2:Act} {w2:World} {S2:Nat → Prop} {own2:Nat → Option Nat} {C2 D2:Nat → Prop}
  (h2:RelAt (rEnv E s w S1 own C D) s2 a2 w2 S2 own2 C2 D2 []):RelAt E ⟨s.τ,s2.H,s2.g⟩ a w2 S2 own2 C2 D2 Ds ∧ (ctx E s w S own).le ⟨s2.H,own2,S2,w2,E.l⟩:=by
 have hle:(ctx E s w S own).le ⟨s2.H,own2,S2,w2,E.l⟩:=by
  refine Ctx.le.trans (B:=⟨s.H,own,S1,w,E.l⟩) ?_ h2.le
  exact ⟨fun b hb=>⟨hS b hb,rfl⟩,fun k blk hk=>⟨blk,hk,Nat.le_refl _,fun _ r v hr=>hr⟩,rfl⟩
 have hX:∀ b,((∃ k,LiveAt s own k b) ∨ C b) → E.X0 b ∨ E.w0.heap.size ≤ b:=fun b hb=>by
  rcases hb with ⟨k,blk,hk,hl,e⟩ | hb
  ·exact (h.hown k blk b hk hl e).2.2.2
  ·exact (h.hC b hb).2
 have hw0:=h.fr.size
 have hsz:w.heap.size ≤ w2.heap.size:=h2.fr.size
 have hDs1:∀ d ∈ Ds,d < w.heap.size ∧ ¬ ((∃ k,LiveAt s own k d) ∨ C d):=fun d hd=>by
  obtain ⟨g1,g2,g3,g4⟩:=h.hDs d hd
  refine ⟨(Array.getElem?_eq_some_iff.1 g1).1,fun hx=>?_⟩
  rcases hx with hx | hx
  ·exact h.notLive g1 (fun _ _ _ e=>by cases e) (.inl ⟨_,rfl⟩) hx
  ·exact g4 (h.hC d hx).1
 refine ⟨?_,hle⟩
 exact {
  fr:=⟨h2.fr.os.trans h.fr.os,h2.fr.tape.trans h.fr.tape,h2.fr.output.trans h.fr.output,Nat.le_trans hw0 hsz,fun b hb hx=>(h2.fr.block b (Nat.lt_of_lt_of_le hb hw0) fun hy=>(hX b hy).elim hx fun h=>by omega).trans (h.fr.block b hb hx)⟩
  hS:=fun b hb=>by
   obtain ⟨q1,q2,q3⟩:=h2.hS b hb
   refine ⟨q1,q2,?_⟩
   rcases q3 with q3 | q3 | q3
   ·exact (hS1 b q3).1
   ·exact .inr (hX b q3)
   ·have q3:w.heap.size ≤ b:=q3
    exact .inr (.inr (by omega))
  hS0:=fun b hb=>h2.hS0 b (hS b (h.hS0 b hb))
  hC:=fun b hb=>by
   refine ⟨(h2.hC b hb).1,?_⟩
   rcases h2.cd.c1 b hb with q | q
   ·exact (h.hC b q).2
   ·have q:w.heap.size ≤ b:=q
    exact .inr (by omega)
  hD:=h2.hD
  j:=h2.j.1
  hown:=fun k blk g hk hl e=>by
   obtain ⟨q1,q2,q3,q4⟩:=h2.hown k blk g hk hl e
   refine ⟨q1,q2,q3,?_⟩
   rcases q4 with q4 | q4
   ·exact hX g q4
   ·have q4:w.heap.size ≤ g:=q4
    exact .inr (by omega)
  inj:=h2.inj
  heap:=h2.heap
  tmps:=fun i=>(h.tmps i).mono hle
  size:=h.size
  defers:=h.defers
  hDs:=fun d hd=>by
   obtain ⟨g1,g2,g3,g4⟩:=h.hDs d hd
   obtain ⟨q1,q2⟩:=hDs1 d hd
   refine ⟨(h2.fr.block d q1 q2).trans g1,g2,fun hs=>?_,fun hdd=>?_⟩
   ·rcases (h2.hS d hs).2.2 with q | q | q
    ·exact (hS1 d q).2 hd
    ·exact q2 q
    ·have q:w.heap.size ≤ d:=q
     omega
   ·rcases h2.cd.d1 d hdd with q | q | q | q
    ·exact g4 q
    ·exact (hS1 d q).2 hd
    ·exact q2 q
    ·have q:w.heap.size ≤ d:=q
     omega
  nodup:=h.nodup
  le:=h.le.trans hle
  cd:=by
   refine ⟨fun b hb=>?_,fun b hb=>?_⟩
   ·rcases h2.cd.c1 b hb with q | q
    ·exact h.cd.c1 b q
    ·have q:w.heap.size ≤ b:=q
     exact .inr (by omega)
   ·rcases h2.cd.d1 b hb with q | q | q | q
    ·exact h.cd.d1 b q
    ·exact .inr (hS1 b q).1
    ·exact .inr (.inr (hX b q))
    ·have q:w.heap.size ≤ b:=q
     exact .inr (.inr (.inr (by omega)))
  fix:=h.fix }
theorem RelAt.pushMark (h:RelAt E s a w S own C D Ds) (hE:E.fixed = false) {d:Nat} (hd:w.heap[d]? = some (.deferred (some []))) (h0:E.w0.heap.size ≤ d) (h1:¬ S d) (h2:¬ D d) (h3:d ∉ Ds) :
  RelAt E s { a with defers:={ target:=.collected d,args:=#[] } :: a.defers } w S own C D (d :: Ds):=
 { h with
  tmps:=h.tmps
  size:=h.size
  defers:=by simp [h.defers]
  hDs:=fun d' hd'=>by
   rcases List.mem_cons.1 hd' with rfl | hd'
   ·exact ⟨hd,h0,h1,h2⟩
   ·exact h.hDs d' hd'
  nodup:=List.nodup_cons.2 ⟨h3,h.nodup⟩
  fix:=fun e=>by rw [hE] at e; cases e }
end
def setP (τ:Nat → AV):List Nat → List AV → (Nat → AV)
 | p :: ps,x :: xs=>setP (upd τ p x) ps xs
 | _,_=>τ
def hle (H H':Heap):Prop:=∀ k,H' k = H k ∨ ∃ v,H' k = some (.dead v) ∧ ∀ b,H k = some b → b.ver ≤ v
def roundK (Φ:Exit → St → Prop) (τ:Nat → AV) (g:G) (I:Heap → Prop):Exit → St → Prop
 | .normal,s=>s.g = g ∧ ∃ H',hle s.H H' ∧ I H'
 | .ret,s=>s.g = g ∧ Φ .ret ⟨τ,s.H,g⟩
 | .exit id,s=>s.g = g ∧ Φ (.exit id) ⟨τ,s.H,g⟩
 | .goto l,s=>s.g = g ∧ Φ (.goto l) ⟨τ,s.H,g⟩
 | _,_=>False
def jumpOf:Exit → Option Code
 | .ret=>some .ret
 | .exit id=>some (.exit id)
 | .goto l=>some (.goto l)
 | _=>none
structure St.le (s s':St):Prop where
 τ:∀ i,s'.τ i = s.τ i ∨ s'.τ i = .any
 H:∀ k,s'.H k = s.H k ∨ (∃ v,s'.H k = some (.dead v) ∧ ∀ b,s.H k = some b → b.ver ≤ v)
 g:s'.g = s.g
theorem St.le.refl (s:St):s.le s:=⟨fun _=>.inl rfl,fun _=>.inl rfl,rfl⟩
theorem Rel.weakenAt {E:Env} {s s':St} {a:Act} {w:World} {S:Nat → Prop} {own:Nat → Option Nat} {C D:Nat → Prop} {Ds:List Nat} (h:RelAt E s a w S own C D Ds) (hle:s.le s') :
  RelAt E s' a w S own C D Ds ∧ (ctx E s w S own).le (ctx E s' w S own):=by
 have hc:(ctx E s w S own).le (ctx E s' w S own):=by
  refine ⟨fun b hb=>⟨hb,rfl⟩,fun k blk hk=>?_,rfl⟩
  rcases hle.H k with e | ⟨v,e,hv⟩
  ·exact ⟨blk,e.trans hk,Nat.le_refl _,fun _ r u hu=>hu⟩
  ·exact ⟨.dead v,e,hv blk hk,fun _ r u hu=>by
    show RefVal w (own k) (.dead v) r u
    cases own k <;> exact trivial⟩
 have hlive:∀ k blk,s'.H k = some blk → blk.live = true → s.H k = some blk:=fun k blk hk hl=>by
  rcases hle.H k with e | ⟨v,e,hv⟩
  ·exact e.symm.trans hk
  ·rw [e] at hk; cases hk; cases hl
 exact ⟨{
  fr:=h.fr
  hS:=h.hS
  hS0:=h.hS0
  hC:=h.hC
  hD:=h.hD
  j:=hle.g ▸ h.j
  hown:=fun k blk g hk hl e=>h.hown k blk g (hlive k blk hk hl) hl e
  inj:=fun k k' b b' g hk hk' hl hl' e e'=>h.inj k k' b b' g (hlive k b hk hl) (hlive k' b' hk' hl') hl hl' e e'
  heap:=fun k blk hk=>by
   rcases hle.H k with e | ⟨v,e,hv⟩
   ·exact (h.heap k blk (e.symm.trans hk)).mono hc fun _ _ _=>rfl
   ·have hk':s'.H k = some blk:=hk
    rw [e] at hk'
    cases hk'
    cases own k <;> exact trivial
  tmps:=fun i=>by
   rcases hle.τ i with e | e
   ·rw [e]; exact (h.tmps i).mono hc
   ·rw [e]; exact .any _
  size:=h.size
  defers:=h.defers
  hDs:=h.hDs
  nodup:=h.nodup
  le:=h.le.trans hc
  cd:=h.cd
  fix:=h.fix },hc⟩
theorem Rel.weaken {E:Env} {s s':St} {a:Act} {w:World} (h:Rel E s a w) (hle:s.le s'):Rel E s' a w:=by
 obtain ⟨S,own,C,D,Ds,h⟩:=h
 exact ⟨S,own,C,D,Ds,(Rel.weakenAt h hle).1⟩
theorem Rel.weakenAt0 {E:Env} {τ:Nat → AV} {H H':Heap} {g g':G} {a:Act} {w:World} {S:Nat → Prop} {own:Nat → Option Nat} {C D:Nat → Prop} {Ds:List Nat} (h:RelAt E ⟨τ,H,g⟩ a w S own C D Ds) (hle:hle H H') (hg:g = g') :
  RelAt E ⟨τ,H',g'⟩ a w S own C D Ds:=by
 subst hg
 exact (Rel.weakenAt h (s':=⟨τ,H',g⟩) ⟨fun _=>.inl rfl,hle,rfl⟩).1
def cRange1 (P:Program) (f:AV) (ps:List Nat) (B:(Exit → St → Prop) → St → Prop) (Φ:Exit → St → Prop) (s:St):Prop:=match f with
 | .func fid caps=>(∃ b,s.g.stop = .b b) ∧ ∃ (xs:List (List AV)) (rt rf:AV) (I:List (List AV) → Heap → Prop) (H0:Heap),closedL caps = true ∧ SpecY P fid (.yld :: caps) xs rt rf ∧ hle s.H H0 ∧ I xs H0 ∧
   (∀ args rest H,I (args :: rest) H → args.length = ps.length ∧ B (roundK Φ s.τ s.g (I rest)) ⟨setP s.τ ps args,H,s.g⟩) ∧ ∀ H,I [] H → Φ .normal ⟨s.τ,H,s.g⟩
 | _=>False
@[congr] theorem cRange1_congr {P:Program} {f f':AV} {ps:List Nat} {B:(Exit → St → Prop) → St → Prop} {Φ:Exit → St → Prop} {s s':St} (h:f = f') (h2:s = s'):cRange1 P f ps B Φ s = cRange1 P f' ps B Φ s':=by rw [h,h2]
section
variable {E : Env}
theorem R_setP {C:Ctx} {n:Nat}:∀ (ps:List Nat) (xs:List AV) (vs:List Value) (τ:Nat → AV) (tmps:Array Value),(∀ p ∈ ps,p < n) → xs.length = ps.length → vs.length = xs.length → tmps.size = n → (∀ i,R C (τ i) (tmps.getD i undef)) →
  (∀ (i:Nat) (x:AV),xs[i]? = some x → R C x (vs.getD i undef)) →
  ((ps.zip vs).foldl (fun t (p,v)=>t.setIfInBounds p v) tmps).size = n ∧ ∀ i,R C (setP τ ps xs i) (((ps.zip vs).foldl (fun t (p,v)=>t.setIfInBounds p v) tmps).getD i undef)
 | [],[],[],τ,tmps,_,_,_,hn,h,_=>⟨hn,h⟩
 | p :: ps,x :: xs,v :: vs,τ,tmps,hp,h1,h2,hn,h,hx=>by
  refine R_setP ps xs vs (upd τ p x) (tmps.setIfInBounds p v) (fun q hq=>hp q (by simp [hq])) (by simpa using h1) (by simpa using h2) (by simpa using hn) (fun i=>?_) fun i y hy=>by simpa using hx (i + 1) y (by simpa using hy)
  have hpn:=hp p (by simp)
  by_cases e:i = p
  ·subst e
   rw [upd_same]
   have:=hx 0 x (by simp)
   simpa [Array.getD_eq_getD_getElem?,hn,hpn] using this
  ·rw [upd_other _ _ _ _ e]
   have:=h i
   simpa [Array.getD_eq_getD_getElem?,Array.getElem?_setIfInBounds_ne (Ne.symm e)] using this
 | [],_ :: _,_,_,_,_,h,_,_,_,_=>by simp at h
 | _ :: _,[],_,_,_,_,h,_,_,_,_=>by simp at h
 | [],[],_ :: _,_,_,_,_,h,_,_,_=>by simp at h
 | _ :: _,_ :: _,[],_,_,_,_,h,_,_,_=>by simp at h
def recOf (fn:FuncId) (tmps:Array Value) (ps:Array Tmp) (assign body:Code) (d:Nat) (st:LoopState) (pe:Option Code):Loop:=
 { state:=st,pending:=pe,fn,tmps,params:=ps,assign,body,defers:=d }
def consJ (E:Env) (τ:Nat → AV) (g:G) (a:Act) (l:Nat) (rec:LoopState → Option Code → Loop) (I:List (List AV) → Heap → Prop) (Φ:Exit → St → Prop):G → (Nat → Prop) → (Nat → Prop) → World → Prop:=fun gi C D w=>
 ∃ H S own Cc Dc Ds,RelAt E ⟨τ,H,g⟩ a w S own Cc Dc Ds ∧ (∀ b,(b = l ∨ Cc b ∨ b ∈ Ds ∨ ∃ k,LiveAt ⟨τ,H,g⟩ own k b) → C b) ∧ (∀ b,Hang E ⟨τ,H,g⟩ S own Dc Ds b → D b) ∧
  E.w0.heap.size ≤ l ∧ ¬ S l ∧ ¬ Dc l ∧ l ∉ Ds ∧ D l ∧
  ((gi.stop = .b false ∧ w.heap[l]? = some (.loop (rec .ready none)) ∧ I gi.todo H) ∨ (gi.stop = .b true ∧ ∃ e c,jumpOf e = some c ∧ w.heap[l]? = some (.loop (rec .done (some c))) ∧ Φ e ⟨τ,H,g⟩))
theorem consJ_ok (hJ:JOk E.J) {τ:Nat → AV} {g:G} {a:Act} {l:Nat} {rec:LoopState → Option Code → Loop} {I:List (List AV) → Heap → Prop} {Φ:Exit → St → Prop}:JOk (consJ E τ g a l rec I Φ):=by
 rintro gi C D w w' ⟨H,S,own,Cc,Dc,Ds,h,hC,hD,h0,h1,h2,h3,hDl,hg⟩ same hsz ho ht hp
 refine ⟨H,S,own,Cc,Dc,Ds,h.abide hJ (fun b hb=>same b (hD b hb)) hsz ho ht hp,hC,hD,h0,h1,h2,h3,hDl,?_⟩
 rw [same l hDl]
 exact hg
abbrev thenK (k:St → Prop) (Φ:Exit → St → Prop):Exit → St → Prop
 | .normal,s=>k s
 | e,s=>Φ e s
def post (E:Env) (Φ:Exit → St → Prop):Exit → Act → World → Prop:=fun e a w=>∃ s,Φ e s ∧ Rel E s a w
def Sound (P:Program) (n:Nat) (J:G → (Nat → Prop) → (Nat → Prop) → World → Prop) (l:Nat) (ro:Option Nat) (c:Code) (ic:(Exit → St → Prop) → St → Prop):Prop:=
 ∀ (E:Env) (Φ:Exit → St → Prop) (s:St) (a:Act) (w:World),E.P = P → E.n = n → E.J = J → E.l = l → YOkE E → ic Φ s → Rel E s a w → c.wpIn (FW ro) 0 E.P (post E Φ) a w
theorem RelAt.hang_lt {s:St} {a:Act} {w:World} {S:Nat → Prop} {own:Nat → Option Nat} {C D:Nat → Prop} {Ds:List Nat} (h:RelAt E s a w S own C D Ds) {b:Nat} (hb:Hang E s S own D Ds b):b < w.heap.size:=by
 rcases hb with hb | hb | ⟨k,blk,hk,hl,e⟩ | hb | hb
 ·exact Nat.lt_of_lt_of_le hb.1 h.fr.size
 ·exact (h.hS b hb).1
 ·exact (h.hown k blk b hk hl e).1
 ·exact h.hD b hb
 ·exact (Array.getElem?_eq_some_iff.1 (h.hDs b hb).1).1
theorem RelAt.putRec {s:St} {a:Act} {w:World} {S:Nat → Prop} {own:Nat → Option Nat} {C D:Nat → Prop} {Ds:List Nat} (h:RelAt E s a w S own C D Ds) (hJ:JOk E.J) {l:Nat} {r:Loop} (hl:w.heap[l]? = some (.loop r))
  (h0:E.w0.heap.size ≤ l) (h1:¬ S l) (h2:¬ D l) (h3:l ∉ Ds) (o:Obj):RelAt E s a (w.putObj l o) S own C D Ds ∧ (ctx E s w S own).le (ctx E s (w.putObj l o) S own):=by
 have hne:∀ b,Hang E s S own D Ds b → (w.putObj l o).heap[b]? = w.heap[b]?:=fun b hb=>World.putObj_heap_other fun e=>by
  subst e
  rcases hb with hb | hb | hb | hb | hb
  ·have:=hb.1; omega
  ·exact h1 hb
  ·exact h.notLive hl (fun _ _ _ e=>by cases e) (.inr ⟨_,rfl⟩) hb
  ·exact h2 hb
  ·exact h3 hb
 exact ⟨h.abide hJ hne (Nat.le_of_eq World.putObj_size.symm) rfl rfl rfl,h.abideLe hne⟩
theorem consJ_yok (hJ : JOk E.J) (hY : YOkE E) {τ : Nat → AV} {g : G} {a : Act} {l d : Nat} {fn : FuncId} {ps : Array Tmp} {assign body : Code} {I : List (List AV) → Heap → Prop} {Φ : Exit → St → Prop}
    {ia ib : (Exit → St → Prop) → St → Prop} (ha : Sound E.P E.n (sealJ E.J) E.l (some l) assign ia) (hb : Sound E.P E.n (sealJ E.J) E.l (some l) body ib) (hgo : ∃ b, g.stop = .b b) (hps : ∀ p ∈ ps.toList, p < E.n)
    (hr : ∀ args rest H, I (args :: rest) H → args.length = ps.toList.length ∧ ia (thenK (ib (roundK Φ τ g (I rest))) fun _ _ => False) ⟨setP τ ps.toList args, H, g⟩) :
    YOk E.P (consJ E τ g a l (recOf fn a.tmps ps assign body d) I Φ) l E.T := by
  rintro args rest C D w S vs ⟨H, Sc, own, Cc, Dc, Ds, h, hC, hD, h0, h1, h2, h3, hDl, hg⟩ hCD hDlt hS hcl hRL
  rcases hg with ⟨_, hrec, hI⟩ | ⟨hst, _⟩
  case inr => cases hst
  obtain ⟨hlen, hwalk⟩ := hr args rest H hI
  have hvl : vs.length = args.length := hRL.1
  refine ⟨fn, _, assign, body, run_yield hrec (by simp [hvl, hlen, recOf]), ?_⟩
  have htm : ((recOf fn a.tmps ps assign body d .ready none).params.zip vs.toArray).foldl (fun tmps (t, a) => tmps.setIfInBounds t a) (recOf fn a.tmps ps assign body d .ready none).tmps = (ps.toList.zip vs).foldl (fun t (p, v) => t.setIfInBounds p v) a.tmps := by
    show (ps.zip vs.toArray).foldl _ a.tmps = _
    rw [← Array.foldl_toList, Array.toList_zip]
  rw [htm]
  -- what is immutable
  have hS1 : ∀ b, (Sc b ∨ S b) → b < w.heap.size ∧ ¬ Cc b ∧ ¬ ∃ k, LiveAt (⟨τ, H, g⟩ : St) own k b := fun b hb => by
    rcases hb with hb | hb
    · exact ⟨(h.hS b hb).1, (h.hS b hb).2.1, fun ⟨k, blk, hk, hl, e⟩ => (h.hown k blk b hk hl e).2.1 hb⟩
    · exact ⟨(hS b hb).1, fun hc => (hS b hb).2.1 (hC b (.inr (.inl hc))), fun hl => (hS b hb).2.1 (hC b (.inr (.inr (.inr hl))))⟩
  have hS1T : ∀ b, (Sc b ∨ S b) → E.T b ∧ b ∉ Ds := fun b hb => by
    rcases hb with hb | hb
    · exact ⟨(h.hS b hb).2.2, fun hd => (h.hDs b hd).2.2.1 hb⟩
    · exact ⟨(hS b hb).2.2, fun hd => (hS b hb).2.1 (hC b (.inr (.inr (.inl hd))))⟩
  have hlS : ¬ (Sc l ∨ S l) := fun hb => hb.elim h1 fun hb => (hS l hb).2.1 (hC l (.inl rfl))
  have hc1 : (ctx E ⟨τ, H, g⟩ w Sc own).le ⟨H, own, fun b => Sc b ∨ S b, w, E.l⟩ := ⟨fun b hb => ⟨.inl hb, rfl⟩, fun k blk hk => ⟨blk, hk, Nat.le_refl _, fun _ r v hr => hr⟩, rfl⟩
  obtain ⟨hsz1, htmps⟩ := R_setP (C := ⟨H, own, fun b => Sc b ∨ S b, w, E.l⟩) ps.toList args vs τ a.tmps hps hlen hvl h.size (fun i => (h.tmps i).mono hc1) fun i x hx => by
    have hx1 := (hRL.2 i x hx).bare E.l (closedL_get hcl hx)
    exact hx1.of_bare _ rfl (fun b hb => .inr hb) rfl
  have hr1 := h.round hgo (S1 := fun b => Sc b ∨ S b) (fun b hb => .inl hb) hS1 hsz1 htmps
  have hYr : ∀ (s : St) (w : World) (S1 : Nat → Prop) (own : Nat → Option Nat) (C D : Nat → Prop), (∀ b, (rEnv E s w S1 own C D).T b → E.T b) → YOkE (rEnv E s w S1 own C D) := fun s w S1 own C D hT => ⟨(sealJ_yok hY.y).mono hT, .none fun g C D w hj => hj.2⟩
  have hTr : ∀ b, (rEnv E ⟨τ, H, g⟩ w (fun b => Sc b ∨ S b) own Cc Dc).T b → E.T b := fun b hb => by
    rcases hb with hb | hb | hb
    · exact (hS1T b hb).1
    · rcases hb with ⟨k, blk, hk, hl, e⟩ | hb
      · exact .inr (h.hown k blk b hk hl e).2.2.2
      · exact .inr (h.hC b hb).2
    · have hb : w.heap.size ≤ b := hb
      have := h.fr.size
      exact .inr (.inr (by omega))
  have hlw : l < w.heap.size := (Array.getElem?_eq_some_iff.1 hrec).1
  have hlX : ¬ ((∃ k, LiveAt (⟨τ, H, g⟩ : St) own k l) ∨ Cc l) := fun hx => hx.elim (h.notLive hrec (fun _ _ _ e => by cases e) (.inr ⟨_, rfl⟩)) fun hc => h2 (h.hC l hc).1
  refine roundIn_of_wpIn trivial ?_
  refine wpIn_mono (ha (rEnv E ⟨τ, H, g⟩ w (fun b => Sc b ∨ S b) own Cc Dc) _ _ _ w rfl rfl rfl rfl (hYr _ _ _ _ _ _ hTr) hwalk ⟨_, own, Cc, Dc, [], hr1⟩) ?_
  rintro e a1 w1 ⟨s1, hk1, S1, own1, C1, D1, Ds1, hr2⟩
  cases e with
  | normal =>
    have hDs1 : Ds1 = [] := hr2.fix rfl
    subst hDs1
    obtain ⟨hb1, hle1⟩ := h.rebase (fun b hb => .inl hb) hS1T hr2
    have hrec1 : w1.heap[l]? = some (.loop (recOf fn a.tmps ps assign body d .ready none)) := (hr2.fr.block l hlw hlX).trans hrec
    have hlS1 : ¬ S1 l := fun hs => by
      rcases (hr2.hS l hs).2.2 with q | q | q
      · exact hlS q
      · exact hlX q
      · have q : w.heap.size ≤ l := q
        omega
    have hlD1 : ¬ D1 l := fun hd => by
      rcases hr2.cd.d1 l hd with q | q | q | q
      · exact h2 q
      · exact hlS q
      · exact hlX q
      · have q : w.heap.size ≤ l := q
        omega
    have hD1 : ∀ b, D1 b → b < w1.heap.size := hr2.hD
    obtain ⟨hb2, hle2⟩ := hb1.putRec hJ hrec1 h0 hlS1 hlD1 h3 (.loop (recOf fn a.tmps ps assign body d .busy none))
    refine ⟨w1.putObj l (.loop (recOf fn a.tmps ps assign body d .busy none)), run_beginRound hrec1 rfl, ?_⟩
    obtain ⟨w2, hw2⟩ : ∃ w2, w2 = w1.putObj l (.loop (recOf fn a.tmps ps assign body d .busy none)) := ⟨_, rfl⟩
    rw [← hw2] at hb2 hle2 ⊢
    have hrec2 : w2.heap[l]? = some (.loop (recOf fn a.tmps ps assign body d .busy none)) := by rw [hw2]; exact World.putObj_heap_same (Array.getElem?_eq_some_iff.1 hrec1).1
    have hlw2 : l < w2.heap.size := (Array.getElem?_eq_some_iff.1 hrec2).1
    have hr3 := hb2.round hr2.j.2 (S1 := S1) (fun b hb => hb) (fun b hb => ⟨(hb2.hS b hb).1, (hb2.hS b hb).2.1, fun ⟨k, blk, hk, hl, e⟩ => (hb2.hown k blk b hk hl e).2.1 hb⟩) (τ := s1.τ) (tmps := a1.tmps) hr2.size (fun i => by
      have := hr2.tmps i
      exact R.mono (C := ctx E s1 w1 S1 own1) hle2 this)
    have hae : a1 = { tmps := a1.tmps, defers := [] } := by
      have := hr2.defers
      cases a1
      simp at this
      subst this
      rfl
    rw [← hae] at hr3
    have hlX2 : ¬ ((∃ k, LiveAt (⟨τ, s1.H, s1.g⟩ : St) own1 k l) ∨ C1 l) := fun hx => hx.elim (hb2.notLive hrec2 (fun _ _ _ e => by cases e) (.inr ⟨_, rfl⟩)) fun hc => hlD1 (hb2.hC l hc).1
    have hTr2 : ∀ b, (rEnv E ⟨τ, s1.H, s1.g⟩ w2 S1 own1 C1 D1).T b → E.T b := fun b hb => by
      rcases hb with hb | hb | hb
      · exact (hb2.hS b hb).2.2
      · rcases hb with ⟨k, blk, hk, hl, e⟩ | hb
        · exact .inr (hb2.hown k blk b hk hl e).2.2.2
        · exact .inr (hb2.hC b hb).2
      · have hb : w2.heap.size ≤ b := hb
        have := hb2.fr.size
        exact .inr (.inr (by omega))
    refine wpIn_mono (hb (rEnv E ⟨τ, s1.H, s1.g⟩ w2 S1 own1 C1 D1) _ s1 a1 w2 rfl rfl rfl rfl (hYr _ _ _ _ _ _ hTr2) hk1 ⟨_, own1, C1, D1, [], hr3⟩) ?_
    rintro e a3 w3 ⟨s3, hk3, S3, own3, C3, D3, Ds3, hr4⟩
    have hDs3 : Ds3 = [] := hr4.fix rfl
    subst hDs3
    obtain ⟨hb3, hle3⟩ := hb2.rebase (fun b hb => hb) (fun b hb => ⟨(hb2.hS b hb).2.2, fun hd => (hb2.hDs b hd).2.2.1 hb⟩) hr4
    have hrec3 : w3.heap[l]? = some (.loop (recOf fn a.tmps ps assign body d .busy none)) := (hr4.fr.block l hlw2 hlX2).trans hrec2
    have hlS3 : ¬ S3 l := fun hs => by
      rcases (hr4.hS l hs).2.2 with q | q | q
      · exact hlS1 q
      · exact hlX2 q
      · have q : w2.heap.size ≤ l := q
        omega
    have hlD3 : ¬ D3 l := fun hd => by
      rcases hr4.cd.d1 l hd with q | q | q | q
      · exact hlD1 q
      · exact hlS1 q
      · exact hlX2 q
      · have q : w2.heap.size ≤ l := q
        omega
    have hsz12 : w.heap.size ≤ w1.heap.size := hr2.fr.size
    have hsz2 : w2.heap.size = w1.heap.size := by rw [hw2]; exact World.putObj_size
    have hsz3 : w2.heap.size ≤ w3.heap.size := hr4.fr.size
    -- the round's end, whatever it is
    have fin : ∀ (pe : Option Code) (s4 : St) (st : Bool), s4.H = s4.H → (∃ H4, hle s3.H H4 ∧ s3.g = g ∧
          ((st = false ∧ pe = none ∧ I rest H4) ∨ (st = true ∧ ∃ e c, jumpOf e = some c ∧ pe = some c ∧ Φ e ⟨τ, H4, g⟩))) →
        ∃ v w4, (Instr.endRound l pe).run E.P w3 = .ok v w4 ∧ ∃ b C' D', Ending.returned v = .returned (.bool b) ∧ consJ E τ g a l (recOf fn a.tmps ps assign body d) I Φ ⟨rest, !b⟩ C' D' w4 ∧ Turned w w4 S C D C' D' := by
      rintro pe s4 st _ ⟨H4, hH4, hg4, hcase⟩
      obtain ⟨hb4, hle4⟩ := hb3.putRec hJ hrec3 h0 hlS3 hlD3 h3 (.loop (recOf fn a.tmps ps assign body d (if pe.isNone then .ready else .done) pe))
      obtain ⟨w4, hw4⟩ : ∃ w4, w4 = w3.putObj l (.loop (recOf fn a.tmps ps assign body d (if pe.isNone then .ready else .done) pe)) := ⟨_, rfl⟩
      rw [← hw4] at hb4 hle4
      have hrec4 : w4.heap[l]? = some (.loop (recOf fn a.tmps ps assign body d (if pe.isNone then .ready else .done) pe)) := by rw [hw4]; exact World.putObj_heap_same (Array.getElem?_eq_some_iff.1 hrec3).1
      have hsz4 : w4.heap.size = w3.heap.size := by rw [hw4]; exact World.putObj_size
      have hb5 := (Rel.weakenAt0 hb4 hH4 hg4)
      have hXC : ∀ b, ((∃ k, LiveAt (⟨τ, H, g⟩ : St) own k b) ∨ Cc b) → C b := fun b hb => hC b (hb.elim (fun hb => .inr (.inr (.inr hb))) fun hb => .inr (.inl hb))
      have hX2C : ∀ b, b < w.heap.size → ((∃ k, LiveAt (⟨τ, s1.H, s1.g⟩ : St) own1 k b) ∨ C1 b) → C b := fun b hlt hb => by
        rcases hb with ⟨k, blk, hk, hl, e⟩ | hb
        · rcases (hr2.hown k blk b hk hl e).2.2.2 with q | q
          · exact hXC b q
          · have q : w.heap.size ≤ b := q
            omega
        · rcases hr2.cd.c1 b hb with q | q
          · exact hXC b (.inr q)
          · have q : w.heap.size ≤ b := q
            omega
      refine ⟨.bool pe.isNone, w4, ?_, pe.isNone, fun b => C b ∨ (w.heap.size ≤ b ∧ b < w4.heap.size), fun b => D b ∨ S b ∨ (w.heap.size ≤ b ∧ b < w4.heap.size), rfl, ?_, ?_⟩
      · rw [run_endRound pe hrec3, hw4]; rfl
      · have hnew : ∀ b, w.heap.size ≤ b → b < w4.heap.size → (C b ∨ (w.heap.size ≤ b ∧ b < w4.heap.size)) := fun b q1 q2 => .inr ⟨q1, q2⟩
        have hS3D : ∀ b, S3 b → D b ∨ S b ∨ (w.heap.size ≤ b ∧ b < w4.heap.size) := fun b hb => by
          obtain ⟨q0, _, q⟩ := hr4.hS b hb
          rcases q with q | q | q
          · obtain ⟨p0, _, p⟩ := hr2.hS b q
            rcases p with p | p | p
            · exact p.elim (fun p => .inl (hD b (.inr (.inl p)))) fun p => .inr (.inl p)
            · exact .inl (hCD b (hXC b p))
            · have p : w.heap.size ≤ b := p
              exact .inr (.inr ⟨p, by omega⟩)
          · by_cases hlt : b < w.heap.size
            · exact .inl (hCD b (hX2C b hlt q))
            · exact .inr (.inr ⟨by omega, by omega⟩)
          · have q : w2.heap.size ≤ b := q
            exact .inr (.inr ⟨by omega, by omega⟩)
        have hl3C : ∀ b, (∃ k, LiveAt (⟨τ, s3.H, s3.g⟩ : St) own3 k b) → C b ∨ (w.heap.size ≤ b ∧ b < w4.heap.size) := fun b ⟨k, blk, hk, hl, e⟩ => by
          obtain ⟨q0, _, _, q⟩ := hr4.hown k blk b hk hl e
          by_cases hlt : b < w.heap.size
          · rcases q with q | q
            · exact .inl (hX2C b hlt q)
            · have q : w2.heap.size ≤ b := q
              omega
          · exact .inr ⟨by omega, by omega⟩
        have hl4 : ∀ b, (∃ k, LiveAt (⟨τ, H4, g⟩ : St) own3 k b) → ∃ k, LiveAt (⟨τ, s3.H, s3.g⟩ : St) own3 k b := fun b ⟨k, blk, hk, hl, e⟩ => by
          refine ⟨k, blk, ?_, hl, e⟩
          rcases hH4 k with q | ⟨v, q, _⟩
          · exact q.symm.trans hk
          · have hk : H4 k = some blk := hk
            rw [q] at hk; cases hk; cases hl
        have hC3 : ∀ b, C3 b → C b ∨ (w.heap.size ≤ b ∧ b < w4.heap.size) := fun b hb => by
          have hlt4 : b < w4.heap.size := by rw [hsz4]; exact hb3.hD b (hb3.hC b hb).1
          rcases hr4.cd.c1 b hb with q | q
          · rcases hr2.cd.c1 b q with p | p
            · exact .inl (hXC b (.inr p))
            · have p : w.heap.size ≤ b := p
              exact .inr ⟨p, hlt4⟩
          · have q : w2.heap.size ≤ b := q
            exact .inr ⟨by omega, hlt4⟩
        refine ⟨H4, S3, own3, C3, D3, Ds, hb5, fun b hb => ?_, fun b hb => ?_, h0, hlS3, hlD3, h3, .inl hDl, ?_⟩
        · rcases hb with hb | hb | hb | hb
          · exact .inl (hC b (.inl hb))
          · exact hC3 b hb
          · exact .inl (hC b (.inr (.inr (.inl hb))))
          · exact hl3C b (hl4 b hb)
        · rcases hb with hb | hb | hb | hb | hb
          · exact .inl (hD b (.inl hb))
          · exact hS3D b hb
          · exact (hl3C b (hl4 b hb)).elim (fun q => .inl (hCD b q)) fun q => .inr (.inr q)
          · have hlt4 : b < w4.heap.size := by rw [hsz4]; exact hb3.hD b hb
            rcases hr4.cd.d1 b hb with q | q | q | q
            · rcases hr2.cd.d1 b q with p | p | p | p
              · exact .inl (hD b (.inr (.inr (.inr (.inl p)))))
              · exact p.elim (fun p => .inl (hD b (.inr (.inl p)))) fun p => .inr (.inl p)
              · exact .inl (hCD b (hXC b p))
              · have p : w.heap.size ≤ b := p
                exact .inr (.inr ⟨p, hlt4⟩)
            · obtain ⟨p0, _, p⟩ := hr2.hS b q
              rcases p with p | p | p
              · exact p.elim (fun p => .inl (hD b (.inr (.inl p)))) fun p => .inr (.inl p)
              · exact .inl (hCD b (hXC b p))
              · have p : w.heap.size ≤ b := p
                exact .inr (.inr ⟨p, hlt4⟩)
            · by_cases hlt : b < w.heap.size
              · exact .inl (hCD b (hX2C b hlt q))
              · exact .inr (.inr ⟨by omega, hlt4⟩)
            · have q : w2.heap.size ≤ b := q
              exact .inr (.inr ⟨by omega, hlt4⟩)
          · exact .inl (hD b (.inr (.inr (.inr (.inr hb)))))
        · rcases hcase with ⟨hst, rfl, hI4⟩ | ⟨hst, e, c, hj, rfl, hΦ⟩
          · exact .inl ⟨rfl, hrec4, hI4⟩
          · exact .inr ⟨rfl, e, c, hj, hrec4, hΦ⟩
      · refine ⟨⟨?_, ?_, ?_, by omega, fun b hlt hc => ?_⟩, fun b hb => hb.imp id fun q => q.1, fun b hb => hb.imp id fun q => q.imp id fun q => q.1, fun b hb => hb.elim (fun q => .inl (hCD b q)) fun q => .inr (.inr q), fun b hb => ?_⟩
        · exact (show w4.os = w3.os by rw [hw4]; rfl).trans (hr4.fr.os.trans ((show w2.os = w1.os by rw [hw2]; rfl).trans hr2.fr.os))
        · exact (show w4.tape = w3.tape by rw [hw4]; rfl).trans (hr4.fr.tape.trans ((show w2.tape = w1.tape by rw [hw2]; rfl).trans hr2.fr.tape))
        · exact (show w4.output = w3.output by rw [hw4]; rfl).trans (hr4.fr.output.trans ((show w2.output = w1.output by rw [hw2]; rfl).trans hr2.fr.output))
        · have hbl : b ≠ l := fun e => hc (e ▸ hC l (.inl rfl))
          have e1 : w4.heap[b]? = w3.heap[b]? := by rw [hw4]; exact World.putObj_heap_other hbl
          have e2 : w3.heap[b]? = w2.heap[b]? := hr4.fr.block b (by have : b < w1.heap.size := by omega
                                                                    show b < w2.heap.size
                                                                    omega) fun hx => hc (hX2C b hlt hx)
          have e3 : w2.heap[b]? = w1.heap[b]? := by rw [hw2]; exact World.putObj_heap_other hbl
          have e4 : w1.heap[b]? = w.heap[b]? := hr2.fr.block b hlt fun hx => hc (hXC b hx)
          exact e1.trans (e2.trans (e3.trans e4))
        · rcases hb with q | q | q
          · have := hDlt b q; omega
          · have := (hS b q).1; omega
          · exact q.2
    cases e with
    | normal =>
      obtain ⟨hg3, H', hH', hI'⟩ := hk3
      exact fin none s3 false rfl ⟨H', hH', hg3, .inl ⟨rfl, rfl, hI'⟩⟩
    | ret =>
      obtain ⟨hg3, hΦ⟩ := hk3
      exact fin (some .ret) s3 true rfl ⟨s3.H, fun _ => .inl rfl, hg3, .inr ⟨rfl, .ret, _, rfl, rfl, hΦ⟩⟩
    | exit id =>
      obtain ⟨hg3, hΦ⟩ := hk3
      exact fin (some (.exit id)) s3 true rfl ⟨s3.H, fun _ => .inl rfl, hg3, .inr ⟨rfl, .exit id, _, rfl, rfl, hΦ⟩⟩
    | goto lb =>
      obtain ⟨hg3, hΦ⟩ := hk3
      exact fin (some (.goto lb)) s3 true rfl ⟨s3.H, fun _ => .inl rfl, hg3, .inr ⟨rfl, .goto lb, _, rfl, rfl, hΦ⟩⟩
    | panic ch => exact hk3.elim
    | outgrown => exact hk3.elim
  | _ => exact hk1.elim
theorem range1_sound (hJ:JOk E.J) (hY:YOkE E) (hE:E.fixed = false) {f:Operand} {ps:Array Tmp} {assign body:Code} {Φ:Exit → St → Prop} {s:St} {a:Act} {w:World}
  {ia ib:(Exit → St → Prop) → St → Prop} (ha:∀ l,Sound E.P E.n (sealJ E.J) E.l (some l) assign ia) (hb:∀ l,Sound E.P E.n (sealJ E.J) E.l (some l) body ib) (hps:∀ p ∈ ps.toList,p < E.n)
  (h:cRange1 E.P (ev s.τ f) ps.toList (fun Φ s=>ia (thenK (ib Φ) fun _ _=>False) s) Φ s) (hr:Rel E s a w):(Code.rangeFunc f ps assign body).wpIn (FW none) 0 E.P (post E Φ) a w:=by
 obtain ⟨S,own,C,D,Ds,hr⟩:=hr
 have hfn:=R_ev hr.tmps f
 unfold cRange1 at h
 split at h
 case h_2=>exact h.elim
 rename_i fid caps hf
 rw [hf] at hfn
 obtain ⟨hgo,xs,rt,rf,I,H0,hcl,hsp,hH0,hI0,hround,hend⟩:=h
 generalize hz:a.eval f = z at hfn
 cases hfn with
 | func _ _ us hl hh=>
 refine wpIn_rangeFunc fun fn _=>?_
 obtain ⟨w1,hw1⟩:∃ w1,w1 = (w.alloc (.deferred (some []))).alloc (.loop (recOf fn a.tmps ps assign body w.heap.size .ready none)):=⟨_,rfl⟩
 have hold:∀ b,b < w.heap.size → w1.heap[b]? = w.heap[b]?:=fun b hlt=>by
  rw [hw1,Below.heap_alloc _ _ b (by simp; omega),Below.heap_alloc _ _ b hlt]
 have hszw:w1.heap.size = w.heap.size + 2:=by rw [hw1]; simp
 have hd1:w1.heap[w.heap.size]? = some (.deferred (some [])):=by
  rw [hw1,Below.heap_alloc _ _ w.heap.size (by simp)]
  exact World.alloc_heap_new w _
 have hl1:w1.heap[w.heap.size + 1]? = some (.loop (recOf fn a.tmps ps assign body w.heap.size .ready none)):=by
  have:=World.alloc_heap_new (w.alloc (.deferred (some []))) (.loop (recOf fn a.tmps ps assign body w.heap.size .ready none))
  rw [World.size_alloc] at this
  rw [hw1]; exact this
 have hr0:=(Rel.weakenAt0 (τ:=s.τ) (g:=s.g) (H:=s.H) hr hH0 rfl)
 have hr1:=hr0.abide hJ (w':=w1) (fun b hb=>hold b (hr0.hang_lt hb)) (by omega) (by rw [hw1]; rfl) (by rw [hw1]; rfl) (by rw [hw1]; rfl)
 have hw0:=hr.fr.size
 have hr2:=hr1.pushMark hE hd1 (by omega) (fun hs=>by have:=(hr.hS _ hs).1; omega) (fun hd=>by have:=hr.hD _ hd; omega) (fun hd=>by have:=(Array.getElem?_eq_some_iff.1 (hr.hDs _ hd).1).1; omega)
 obtain ⟨a',ha'⟩:∃ a',a' = { a with defers:=({ target:=.collected w.heap.size,args:=#[] }:Deferred) :: a.defers }:=⟨_,rfl⟩
 rw [← ha'] at hr2
 have hat:a'.tmps = a.tmps:=by rw [ha']
 have hJc:JOk (consJ E s.τ s.g a' (w.heap.size + 1) (recOf fn a'.tmps ps assign body w.heap.size) I Φ):=consJ_ok hJ
 have hYc:=consJ_yok (τ:=s.τ) (g:=s.g) (a:=a') (l:=w.heap.size + 1) (d:=w.heap.size) (fn:=fn) (ps:=ps) (I:=I) (Φ:=Φ) hJ hY (ha _) (hb _) hgo hps hround
 let C1:Nat → Prop:=fun b=>b = w.heap.size + 1 ∨ C b ∨ b ∈ w.heap.size :: Ds ∨ ∃ k,LiveAt (⟨s.τ,H0,s.g⟩:St) own k b
 let D1:Nat → Prop:=fun b=>b < w1.heap.size
 have hC1lt:∀ b,C1 b → b < w1.heap.size:=fun b hb=>by
  rcases hb with hb | hb | hb | hb
  ·omega
  ·have:=hr.hD b (hr.hC b hb).1; omega
  ·exact hr2.hang_lt (.inr (.inr (.inr (.inr hb))))
  ·exact hr2.hang_lt (.inr (.inr (.inl hb)))
 have hSC1:∀ b,S b → b < w1.heap.size ∧ ¬ C1 b:=fun b hb=>by
  have h1:=(hr.hS b hb)
  refine ⟨by have:=h1.1; omega,fun hc=>?_⟩
  rcases hc with hc | hc | hc | ⟨k,blk,hk,hl,e⟩
  ·have:=h1.1; omega
  ·exact h1.2.1 hc
  ·exact (hr2.hDs b hc).2.2.1 hb
  ·exact (hr2.hown k blk b hk hl e).2.1 hb
 have hj0:consJ E s.τ s.g a' (w.heap.size + 1) (recOf fn a'.tmps ps assign body w.heap.size) I Φ ⟨xs ++ [],false⟩ C1 D1 w1:=by
  refine ⟨H0,S,own,C,D,w.heap.size :: Ds,hr2,fun b hb=>hb,fun b hb=>hr2.hang_lt hb,by omega,fun hs=>by have:=(hr.hS _ hs).1; omega,fun hd=>by have:=hr.hD _ hd; omega,fun hd=>?_,by show _ < _; omega,.inl ⟨rfl,by rw [hat]; exact hl1,by rw [List.append_nil]; exact hI0⟩⟩
  rcases List.mem_cons.1 hd with hd | hd
  ·omega
  ·have:=(Array.getElem?_eq_some_iff.1 (hr.hDs _ hd).1).1; omega
 have hargs:RL (bare S w1 (w.heap.size + 1)) (.yld :: caps) (.func (.yield (w.heap.size + 1)) #[] #[] :: us):=by
  refine ⟨by simp [hl],fun i x hx=>?_⟩
  cases i with
  | zero=>simp at hx; subst hx; exact .yld
  | succ i=>
   simp only [List.getElem?_cons_succ] at hx
   have hc:=closedL_get hcl hx
   have h1:=R.mono (C:=ctx E s w S own) (C':=ctx E s w1 S own) ⟨fun b hb=>⟨hb,hold b (hr.hS b hb).1⟩,fun k blk hk=>⟨blk,hk,Nat.le_refl _,fun _ r v hv=>hv.same fun g e hl=>hold g (hr.hown k blk g hk hl e).1⟩,rfl⟩ (hh i x hx)
   simpa using h1.bare (w.heap.size + 1) hc
 have hcall:=hsp.calls _ (w.heap.size + 1) [] C1 D1 w1 S _ hJc (hYc.mono fun b hb=>by
  rcases hb with hb | hb | hb
  ·exact (hr.hS b hb).2.2
  ·rcases hb with hb | hb | hb | ⟨k,blk,hk,hl,e⟩
   ·exact .inr (.inr (by omega))
   ·exact .inr (hr.hC b hb).2
   ·exact .inr (.inr (hr2.hDs b hb).2.1)
   ·exact .inr (hr2.hown k blk b hk hl e).2.2.2
  ·exact .inr (.inr (by omega))) hj0 hC1lt (fun b hb=>hb) hSC1 hargs
 refine ⟨w.heap.size + 1,[({ target:=.collected w.heap.size,args:=#[] }:Deferred)],w1,{ target:=.fn (.func fid) us.toArray,args:=#[.func (.yield (w.heap.size + 1)) #[] #[]] },w1,fid,(.func (.yield (w.heap.size + 1)) #[] #[] :: us).toArray,w1,?_,?_,fun _ _=>trivial,?_,fun h=>by simp [FW] at h,?_⟩
 ·have:=run_enterLoop_outer (P:=E.P) (w:=w) fn a.tmps ps assign body
  rw [hw1]
  exact this
 ·unfold resolve
  simp only [hz,Deferred.ofValue,Sem.run_pure]
  simp [Act.eval]
 ·simp only [invoke]
  have e2:#[Value.func (.yield (w.heap.size + 1)) #[] #[]] ++ us.toArray = (Value.func (.yield (w.heap.size + 1)) #[] #[] :: us).toArray:=by
   apply Array.toList_inj.1
   simp
  rw [e2]
  exact hsp.enters _ _
 ·refine hcall.mono fun e w2 ⟨v,C2,D2,he,ht,hfin⟩=>?_
  subst he
  have key:∀ gi,consJ E s.τ s.g a' (w.heap.size + 1) (recOf fn a'.tmps ps assign body w.heap.size) I Φ gi C2 D2 w2 → (gi.stop = .b false → gi.todo = []) →
    rangePost (FW none) 0 E.P (w.heap.size + 1) (post E Φ) { a with defers:=[({ target:=.collected w.heap.size,args:=#[] }:Deferred)] ++ a.defers } (.returned v) w2:=by
   rintro gi ⟨H,S2,own2,Cc,Dc,Ds2,h,hC,hD,h0,h1,h2,h3,hDl,hg⟩ hgi
   have ea:({ a with defers:=[({ target:=.collected w.heap.size,args:=#[] }:Deferred)] ++ a.defers }:Act) = a':=by rw [ha']; rfl
   rw [ea]
   rcases hg with ⟨hst,hrec,hI⟩ | ⟨hst,e,c,hj,hrec,hΦ⟩
   ·obtain ⟨hq,_⟩:=h.putRec hJ hrec h0 h1 h2 h3 (.loop (recOf fn a'.tmps ps assign body w.heap.size .exhausted none))
    refine ⟨none,w2.putObj (w.heap.size + 1) (.loop (recOf fn a'.tmps ps assign body w.heap.size .exhausted none)),run_endLoop hrec (by simp [recOf]),?_⟩
    rw [hgi hst] at hI
    exact ⟨⟨s.τ,H,s.g⟩,hend H hI,S2,own2,Cc,Dc,Ds2,hq⟩
   ·obtain ⟨hq,_⟩:=h.putRec hJ hrec h0 h1 h2 h3 (.loop (recOf fn a'.tmps ps assign body w.heap.size .exhausted (some c)))
    refine ⟨some c,w2.putObj (w.heap.size + 1) (.loop (recOf fn a'.tmps ps assign body w.heap.size .exhausted (some c))),run_endLoop hrec (by simp [recOf]),?_⟩
    have hp:post E Φ e a' (w2.putObj (w.heap.size + 1) (.loop (recOf fn a'.tmps ps assign body w.heap.size .exhausted (some c)))):=⟨⟨s.τ,H,s.g⟩,hΦ,S2,own2,Cc,Dc,Ds2,hq⟩
    cases e with
    | ret=>cases hj; exact wpIn_ret hp
    | exit id=>cases hj; exact wpIn_exit hp
    | goto lb=>cases hj; exact wpIn_goto hp
    | _=>cases hj
  rcases hfin with ⟨hj,_⟩ | ⟨t,hj,_⟩
  ·exact key _ hj fun _=>rfl
  ·exact key _ hj fun h=>by cases h
end
end Go.Am
namespace Go.Am
open Go.RowKit
mutual
theorem ren_id {σ:Nat → Nat} (h:∀ k,σ k = k):∀ a:AV,ren σ a = a
 | .agg cs=>by simp only [ren,renL_id h cs]
 | .tup cs=>by simp only [ren,renL_id h cs]
 | .elt cs _=>by simp only [ren,renL_id h cs]
 | .func _ cs=>by simp only [ren,renL_id h cs]
 | .sl rows=>by simp only [ren,renLL_id h rows]
 | .slt rows=>by simp only [ren,renLL_id h rows]
 | .any=>rfl
 | .int _ _=>rfl
 | .bool _=>rfl
 | .str _=>rfl
 | .nils=>rfl
 | .nilf=>rfl
 | .nilp=>rfl
 | .yld=>rfl
 | .ref k _ _=>by simp only [ren,h k]
theorem renL_id {σ:Nat → Nat} (h:∀ k,σ k = k):∀ l:List AV,renL σ l = l
 | []=>rfl
 | c :: cs=>by simp only [renL,ren_id h c,renL_id h cs]
theorem renLL_id {σ:Nat → Nat} (h:∀ k,σ k = k):∀ l:List (List AV),renLL σ l = l
 | []=>rfl
 | c :: cs=>by simp only [renLL,renL_id h c,renLL_id h cs]
end
theorem renB_id {σ:Nat → Nat} (h:∀ k,σ k = k) (b:Blk):renB σ b = b:=by cases b <;> simp only [renB,renL_id h,renLL_id h]
abbrev HRow:=List AV × List (Nat × Blk) × List (Nat × Blk)
def rstr (K:List Nat) (H:Heap):List (Nat × Blk):=K.map fun k=>(k,(H k).getD (.dead 0))
def lentOf:Blk → Blk
 | .box v _ _=>.lent v false
 | .obj v _=>.lent v true
 | b=>.dead b.ver
def isSh:Blk → Bool
 | .box .. | .obj ..=>true
 | _=>false
def hide (K:List Nat) (H:Heap):Heap:=fun k=>if inK K k = true then (H k).map lentOf else H k
theorem lentOf_ver (b:Blk):(lentOf b).ver = b.ver:=by cases b <;> rfl
theorem lentOf_live (b:Blk):(lentOf b).live = false:=by cases b <;> rfl
theorem isSh_live {b:Blk} (h:isSh b = true):b.live = true:=by cases b <;> first | rfl | cases h
theorem RefVal.toLent {w w':World} {og:Option Nat} {b:Blk} {r:RefK} {v:Value} (h:RefVal w og b r v):RefVal w' og (lentOf b) r v:=by
 cases og with
 | none=>cases b <;> exact trivial
 | some g=>cases b <;> cases r <;> simp only [lentOf,RefVal] at h ⊢ <;> first | exact h | trivial | (simp; done) | (simp; exact h)
theorem RefVal.ofLent {w w':World} {og:Option Nat} {b:Blk} (hb:isSh b = true) {r:RefK} {v:Value} (h:RefVal w og (lentOf b) r v):RefVal w' og b r v:=by
 cases og with
 | none=>cases b <;> first | (cases hb; done) | cases r <;> exact trivial
 | some g=>cases b <;> first | (cases hb; done) | (cases r <;> simp only [lentOf,RefVal] at h ⊢ <;> first | exact h | trivial | (simpa using h))
theorem keys_rstr (K:List Nat) (H:Heap):keys (rstr K H) = K:=by
 simp only [keys,rstr,List.map_map]
 exact (List.map_congr_left fun k _=>rfl).trans (List.map_id K)
theorem lookB_rstr0 {K:List Nat} {H:Heap} {k:Nat} (hk:k ∈ K):lookB (rstr K H) k = some ((H k).getD (.dead 0)):=by
 induction K with
 | nil=>simp at hk
 | cons j r ih=>
  show (if j = k then some _ else lookB (rstr r H) k) = _
  by_cases e:j = k
  ·subst e; rw [if_pos rfl]
  ·rw [if_neg e]
   exact ih ((List.mem_cons.1 hk).resolve_left fun h=>e h.symm)
structure SpecYH (P:Program) (f:FuncId) (args:List AV) (l0:List (Nat × Blk)) (rows:List HRow) (l1:List (Nat × Blk)):Prop where
 enters:Enters P f
 calls:∀ (J:G → (Nat → Prop) → (Nat → Prop) → World → Prop) (C0:Ctx) (v0:Nat → Nat) (C D:Nat → Prop) (vs:List Value),JOk J → C0.H = hls l0 v0 → HOk C0 → YOkH P J C0.l (fun b=>C0.S b ∨ (LiveC C0 b ∨ C b) ∨ C0.w.heap.size ≤ b) C0 →
  J ⟨[],.h rows⟩ C D C0.w → (∀ b,C b → D b) → (∀ b,D b → b < C0.w.heap.size) → (∀ b,C0.S b → ¬ C b) → (∀ b,LiveC C0 b → ¬ D b) → RL C0 args vs →
  CallsIn (FW none) 0 P f vs.toArray C0.w fun e w'=>∃ v C' D' X' lbe v',e = .returned v ∧ X'.w = w' ∧ X'.l = C0.l ∧ X'.H = hls lbe v' ∧ HOk X' ∧ C0.le X' ∧ Grows C0.w w' (fun b=>C b ∨ LiveC C0 b) ∧
   (∀ b,X'.S b → ¬ C' b ∧ (C0.S b ∨ (LiveC C0 b ∨ C b) ∨ C0.w.heap.size ≤ b)) ∧ (∀ b,LiveC X' b → ¬ D' b) ∧ (∀ b,D' b → b < w'.heap.size) ∧ ((J ⟨[],.h []⟩ C' D' w' ∧ lbe = l1) ∨ J ⟨[],.e lbe⟩ C' D' w')
section
variable {E : Env} {τ : Nat → AV} {H : Heap} {g : G} {a : Act} {w : World} {S : Nat → Prop} {own : Nat → Option Nat} {C D : Nat → Prop} {Ds : List Nat}
theorem RelAt.hide (h:RelAt E ⟨τ,H,g⟩ a w S own C D Ds) (K:List Nat):RelAt E ⟨τ,Am.hide K H,g⟩ a w S own C D Ds ∧ (ctx E ⟨τ,H,g⟩ w S own).le ⟨Am.hide K H,own,S,w,E.l⟩:=by
 have hle:(ctx E ⟨τ,H,g⟩ w S own).le ⟨Am.hide K H,own,S,w,E.l⟩:=by
  refine ⟨fun b hb=>⟨hb,rfl⟩,fun k blk hk=>?_,rfl⟩
  have hk:H k = some blk:=hk
  by_cases e:inK K k = true
  ·exact ⟨lentOf blk,by show Am.hide K H k = _; unfold Am.hide; rw [if_pos e,hk]; rfl,by rw [lentOf_ver]; exact Nat.le_refl _,fun _ r v hr=>hr.toLent⟩
  ·exact ⟨blk,by show Am.hide K H k = _; unfold Am.hide; rw [if_neg e]; exact hk,Nat.le_refl _,fun _ r v hr=>hr⟩
 have hlive:∀ k blk,Am.hide K H k = some blk → blk.live = true → H k = some blk:=fun k blk hk hl=>by
  unfold Am.hide at hk
  split at hk
  ·obtain ⟨b,_,rfl⟩:=Option.map_eq_some_iff.1 hk
   rw [lentOf_live] at hl; cases hl
  ·exact hk
 exact ⟨{
  fr:=h.fr
  hS:=h.hS
  hS0:=h.hS0
  hC:=h.hC
  hD:=h.hD
  j:=h.j
  hown:=fun k blk g hk hl e=>h.hown k blk g (hlive k blk hk hl) hl e
  inj:=fun k k' b b' g hk hk' hl hl' e e'=>h.inj k k' b b' g (hlive k b hk hl) (hlive k' b' hk' hl') hl hl' e e'
  heap:=fun k blk hk=>by
   have hk:Am.hide K H k = some blk:=hk
   unfold Am.hide at hk
   split at hk
   ·obtain ⟨b,_,rfl⟩:=Option.map_eq_some_iff.1 hk
    cases own k <;> cases b <;> exact trivial
   ·exact (h.heap k blk hk).mono hle fun _ _ _=>rfl
  tmps:=fun i=>(h.tmps i).mono hle
  size:=h.size
  defers:=h.defers
  hDs:=h.hDs
  nodup:=h.nodup
  le:=h.le.trans hle
  cd:=h.cd
  fix:=h.fix },hle⟩
structure Handed (E:Env) (H:Heap) (w:World) (S:Nat → Prop) (own:Nat → Option Nat) (C D:Nat → Prop) (Ds:List Nat) (K:List Nat) (lb:List (Nat × Blk)) (X:Ctx):Prop where
 hw:X.w = w
 hl:X.l = E.l
 ok:HOk X
 hk:keys lb = K
 look:∀ k ∈ K,∃ b g,lookB lb k = some b ∧ X.H k = some b ∧ isSh b = true ∧ okB (inK K) b = true ∧ X.own k = some g ∧ own k = some g ∧ H k = some (lentOf b) ∧ ¬ S g ∧ ¬ D g ∧ (E.X0 g ∨ E.w0.heap.size ≤ g)
 dis:∀ k ∈ K,∀ k' blk,H k' = some blk → blk.live = true → own k' ≠ own k
 S1:∀ b,X.S b → ¬ C b ∧ E.T b
 S2:∀ b,X.S b → (¬ ∃ k,∃ blk,H k = some blk ∧ blk.live = true ∧ own k = some b) ∧ b ∉ Ds
theorem RelAt.take (h:RelAt E ⟨τ,H,g⟩ a w S own C D Ds) {K:List Nat} {lb:List (Nat × Blk)} {X:Ctx} (hh:Handed E H w S own C D Ds K lb X) :
  RelAt E ⟨τ,ovr lb H,g⟩ a w (fun b=>S b ∨ X.S b) own C D Ds ∧ (ctx E ⟨τ,H,g⟩ w S own).le ⟨ovr lb H,own,fun b=>S b ∨ X.S b,w,E.l⟩:=by
 have hin:∀ k ∈ K,∃ b,ovr lb H k = some b ∧ lookB lb k = some b:=fun k hk=>by
  obtain ⟨b,_,q1,_⟩:=hh.look k hk
  exact ⟨b,by unfold ovr; rw [q1],q1⟩
 have hout:∀ k,k ∉ K → ovr lb H k = H k:=fun k hk=>by
  unfold ovr
  rw [lookB_none (by rw [hh.hk]; exact hk)]
 have hle:(ctx E ⟨τ,H,g⟩ w S own).le ⟨ovr lb H,own,fun b=>S b ∨ X.S b,w,E.l⟩:=by
  refine ⟨fun b hb=>⟨.inl hb,rfl⟩,fun k blk hk=>?_,rfl⟩
  have hk:H k = some blk:=hk
  by_cases e:k ∈ K
  ·obtain ⟨b,g,q1,q2,q3,q4,q5,q6,q7,_⟩:=hh.look k e
   rw [q7] at hk
   cases hk
   exact ⟨b,by show ovr lb H k = _; unfold ovr; rw [q1],by rw [lentOf_ver]; exact Nat.le_refl _,fun _ r v hr=>hr.ofLent q3⟩
  ·exact ⟨blk,(hout k e).trans hk,Nat.le_refl _,fun _ r v hr=>hr⟩
 have hren:RenOk X ⟨ovr lb H,own,fun b=>S b ∨ X.S b,w,E.l⟩ (fun k=>k) (inK K):=by
  refine ⟨fun b hb=>⟨.inr hb,by rw [hh.hw]⟩,fun k hk blk hb=>?_,hh.hl.symm⟩
  obtain ⟨b,g,q1,q2,q3,q4,q5,q6,q7,_⟩:=hh.look k (inK_iff.1 hk)
  rw [q2] at hb
  cases hb
  refine ⟨blk,by show ovr lb H k = _; unfold ovr; rw [q1],Nat.le_refl _,fun _ r v hr=>?_⟩
  rw [q5,hh.hw] at hr
  show RefVal w (own k) blk r v
  rw [q6]
  exact hr
 have live:∀ k blk g,ovr lb H k = some blk → blk.live = true → own k = some g → (k ∈ K ∧ X.H k = some blk ∧ X.own k = some g ∧ ¬ S g ∧ ¬ D g ∧ (E.X0 g ∨ E.w0.heap.size ≤ g)) ∨ (k ∉ K ∧ H k = some blk):=fun k blk g hk hl e=>by
  by_cases hm:k ∈ K
  ·obtain ⟨b,g',q1,q2,q3,q4,q5,q6,q7,q8,q9,q10⟩:=hh.look k hm
   rw [q6] at e
   cases e
   unfold ovr at hk
   rw [q1] at hk
   cases hk
   exact .inl ⟨hm,q2,q5,q8,q9,q10⟩
  ·rw [hout k hm] at hk
   exact .inr ⟨hm,hk⟩
 refine ⟨?_,hle⟩
 exact {
  fr:=h.fr
  hS:=fun b hb=>hb.elim (h.hS b) fun hb=>⟨by have:=hh.ok.hS b hb; rw [hh.hw] at this; exact this,(hh.S1 b hb).1,(hh.S1 b hb).2⟩
  hS0:=fun b hb=>.inl (h.hS0 b hb)
  hC:=h.hC
  hD:=h.hD
  j:=h.j
  hown:=fun k blk g hk hl e=>by
   rcases live k blk g hk hl e with ⟨hm,q1,q2,q3,q4,q5⟩ | ⟨hm,q1⟩
   ·obtain ⟨r1,r2⟩:=hh.ok.hown k blk g q1 hl q2
    rw [hh.hw] at r1
    exact ⟨r1,fun hs=>hs.elim q3 r2,q4,q5⟩
   ·obtain ⟨r1,r2,r3,r4⟩:=h.hown k blk g q1 hl e
    exact ⟨r1,fun hs=>hs.elim r2 fun hs=>(hh.S2 g hs).1 ⟨k,blk,q1,hl,e⟩,r3,r4⟩
  inj:=fun k k' b b' g hk hk' hl hl' e e'=>by
   rcases live k b g hk hl e with ⟨hm,q1,q2,_⟩ | ⟨hm,q1⟩ <;> rcases live k' b' g hk' hl' e' with ⟨hm',p1,p2,_⟩ | ⟨hm',p1⟩
   ·exact hh.ok.inj k k' b b' g q1 p1 hl hl' q2 p2
   ·exact (hh.dis k hm k' b' p1 hl' (e'.trans e.symm)).elim
   ·exact (hh.dis k' hm' k b q1 hl (e.trans e'.symm)).elim
   ·exact h.inj k k' b b' g q1 p1 hl hl' e e'
  heap:=fun k blk hk=>by
   have hk:ovr lb H k = some blk:=hk
   by_cases hm:k ∈ K
   ·obtain ⟨b,g',q1,q2,q3,q4,q5,q6,q7,q8,q9,q10⟩:=hh.look k hm
    unfold ovr at hk
    rw [q1] at hk
    cases hk
    have hr:=(hh.ok.heap k blk q2).ren hren (fun _ _ _=>by rw [hh.hw]) q4
    rw [renB_id (fun _=>rfl),q5] at hr
    rw [q6]
    exact hr
   ·rw [hout k hm] at hk
    exact (h.heap k blk hk).mono hle fun _ _ _=>rfl
  tmps:=fun i=>(h.tmps i).mono hle
  size:=h.size
  defers:=h.defers
  hDs:=fun d hd=>by
   obtain ⟨r1,r2,r3,r4⟩:=h.hDs d hd
   exact ⟨r1,r2,fun hs=>hs.elim r3 fun hs=>(hh.S2 d hs).2 hd,r4⟩
  nodup:=h.nodup
  le:=h.le.trans hle
  cd:=h.cd
  fix:=h.fix }
end
def isRef:AV → Bool
 | .ref ..=>true
 | _=>false
def clean:Blk → Bool
 | .box _ _ cells=>cells.all fun c=>closed c || isRef c
 | _=>true
theorem R.chl {C:Ctx} {a:AV} {v:Value} (h:R C a v) (ha:(closed a || isRef a) = true) (l':Nat):R ⟨C.H,C.own,C.S,C.w,l'⟩ a v:=by
 cases hc:closed a with
 | true=>exact (h.bare l' hc).of_bare _ rfl (fun b hb=>hb) rfl
 | false=>
  rw [hc,Bool.false_or] at ha
  cases h <;> first | (cases ha; done) | exact .ref _ _ _ _ _ (by assumption) (by assumption) (by assumption) (by assumption)
theorem HRel.chl {C:Ctx} {og:Option Nat} {b:Blk} (h:HRel C og b) (hs:isSh b = true) (hc:clean b = true) (l':Nat):HRel ⟨C.H,C.own,C.S,C.w,l'⟩ og b:=by
 cases b <;> first | (cases hs; done) | skip
 ·cases og with
  | none=>exact h
  | some g=>
   obtain ⟨cs,h1,h2,h3⟩:=h
   refine ⟨cs,h1,h2,fun i a ha=>?_⟩
   obtain ⟨v,q1,q2,q3⟩:=h3 i a ha
   exact ⟨v,q1,q2.chl (List.all_eq_true.1 hc a (List.mem_of_getElem? ha)) l',q3⟩
 ·cases og with
  | none=>exact h
  | some g=>exact h
def RowOk (K:List Nat) (l0 lb:List (Nat × Blk)):Prop:=keys lb = K ∧ ∀ k ∈ K,∃ b b0,lookB lb k = some b ∧ lookB l0 k = some b0 ∧ isSh b = true ∧ isSh b0 = true ∧ okB (inK K) b = true ∧ clean b = true ∧ lentOf b = lentOf b0
theorem HOk.chl {C:Ctx} (h:HOk C) {K:List Nat} {l0 lb:List (Nat × Blk)} {XV:Nat → Nat} (hH:C.H = hls lb XV) (hr:RowOk K l0 lb) (l':Nat):HOk ⟨C.H,C.own,C.S,C.w,l'⟩:=by
 refine ⟨h.hS,h.hown,h.inj,fun k blk hk=>?_⟩
 have hk:C.H k = some blk:=hk
 have hk2:=hk
 rw [hH] at hk2
 unfold hls at hk2
 split at hk2
 ·rename_i b e
  cases hk2
  obtain ⟨b',b0,q1,q2,q3,q4,q5,q6,q7⟩:=hr.2 k (hr.1 ▸ lookB_key e)
  rw [e] at q1
  cases q1
  exact (h.heap k _ hk).chl q3 q6 l'
 ·cases hk2
  cases C.own k <;> exact trivial
theorem pin {C0 X:Ctx} (hle:C0.le X) (hok:HOk X) {k g:Nat} {b0 b:Blk} (h0:C0.H k = some b0) (ho:C0.own k = some g) (hb:X.H k = some b) (hs0:isSh b0 = true) (hs:isSh b = true) (he:lentOf b = lentOf b0):X.own k = some g:=by
 obtain ⟨b',q1,q2,q3⟩:=hle.H k b0 h0
 rw [hb] at q1
 cases q1
 have hv:b.ver = b0.ver:=by rw [← lentOf_ver b,he,lentOf_ver]
 have h1:=q3 hv (.p 0) (.pointer (some ⟨g,0,none⟩)) (by rw [ho]; cases b0 <;> first | rfl | cases hs0)
 have h2:=hok.heap k b hb
 cases hog:X.own k with
 | none=>rw [hog] at h2; cases b <;> first | (cases hs; done) | exact h2.elim
 | some g'=>
  rw [hog] at h1
  cases b <;> first | (cases hs; done) | (have h1:Value.pointer (some ⟨g,0,none⟩) = .pointer (some ⟨g',0,none⟩):=h1; cases h1; rfl)
def roundH (Φ:Exit → St → Prop) (τ:Nat → AV) (g:G) (K:List Nat) (l0 lb':List (Nat × Blk)) (I:Heap → Prop):Exit → St → Prop
 | .normal,s=>s.g = g ∧ rstr K s.H = lb' ∧ ∃ H',hle (hide K s.H) H' ∧ (∀ k ∈ K,H' k = hide K s.H k) ∧ I H'
 | .ret,s=>s.g = g ∧ RowOk K l0 (rstr K s.H) ∧ Φ .ret ⟨τ,s.H,g⟩
 | .exit id,s=>s.g = g ∧ RowOk K l0 (rstr K s.H) ∧ Φ (.exit id) ⟨τ,s.H,g⟩
 | .goto l,s=>s.g = g ∧ RowOk K l0 (rstr K s.H) ∧ Φ (.goto l) ⟨τ,s.H,g⟩
 | _,_=>False
structure ConsH (E:Env) (τ:Nat → AV) (g:G) (a:Act) (l:Nat) (K:List Nat) (C0:Ctx) (T:Nat → Prop) (n0:Nat) (C D:Nat → Prop) (w:World) (H:Heap) (S:Nat → Prop) (own:Nat → Option Nat) (Cc Dc:Nat → Prop) (Ds:List Nat):Prop where
 rel:RelAt E ⟨τ,H,g⟩ a w S own Cc Dc Ds
 hC:∀ b,(b = l ∨ Cc b ∨ b ∈ Ds ∨ ∃ k,LiveAt ⟨τ,H,g⟩ own k b) → C b
 hD:∀ b,Hang E ⟨τ,H,g⟩ S own Dc Ds b → D b
 hn:n0 ≤ w.heap.size
 h0:E.w0.heap.size ≤ l
 h1:¬ S l
 h2:¬ Dc l
 h3:l ∉ Ds
 hl:D l
 hT:∀ b,S b → T b
 sh:∀ k ∈ K,∃ g b0,own k = some g ∧ C0.own k = some g ∧ C0.H k = some b0 ∧ isSh b0 = true ∧ H k = some (lentOf b0) ∧ ¬ S g ∧ ¬ Dc g ∧ (E.X0 g ∨ E.w0.heap.size ≤ g)
 dis:∀ k ∈ K,∀ k' blk,H k' = some blk → blk.live = true → own k' ≠ own k
def consH (E:Env) (τ:Nat → AV) (g:G) (a:Act) (l:Nat) (rec:LoopState → Option Code → Loop) (K:List Nat) (l0:List (Nat × Blk)) (C0:Ctx) (T:Nat → Prop) (n0:Nat) (I:List HRow → Heap → Prop) (Φ:Exit → St → Prop):G → (Nat → Prop) → (Nat → Prop) → World → Prop:=fun gi C D w=>
 ∃ H S own Cc Dc Ds,ConsH E τ g a l K C0 T n0 C D w H S own Cc Dc Ds ∧
  ((∃ rows,gi.stop = .h rows ∧ w.heap[l]? = some (.loop (rec .ready none)) ∧ (∀ r ∈ rows,RowOk K l0 r.2.1 ∧ RowOk K l0 r.2.2) ∧ I rows H) ∨
   (∃ lbe e c,gi.stop = .e lbe ∧ jumpOf e = some c ∧ w.heap[l]? = some (.loop (rec .done (some c))) ∧ RowOk K l0 lbe ∧ Φ e ⟨τ,ovr lbe H,g⟩))
section
variable {E : Env} {τ : Nat → AV} {g : G} {a : Act} {l : Nat} {K : List Nat} {l0 : List (Nat × Blk)} {C0 : Ctx} {T : Nat → Prop} {n0 : Nat} {I : List HRow → Heap → Prop} {Φ : Exit → St → Prop}
theorem consH_ok (hJ:JOk E.J) {rec:LoopState → Option Code → Loop}:JOk (consH E τ g a l rec K l0 C0 T n0 I Φ):=by
 rintro gi C D w w' ⟨H,S,own,Cc,Dc,Ds,h,hg⟩ same hsz ho ht hp
 refine ⟨H,S,own,Cc,Dc,Ds,{ h with rel:=h.rel.abide hJ (fun b hb=>same b (h.hD b hb)) hsz ho ht hp,hn:=Nat.le_trans h.hn hsz },?_⟩
 rw [same l h.hl]
 exact hg
theorem ConsH.handed {C D:Nat → Prop} {w:World} {H:Heap} {S:Nat → Prop} {own:Nat → Option Nat} {Cc Dc:Nat → Prop} {Ds:List Nat} (h:ConsH E τ g a l K C0 T n0 C D w H S own Cc Dc Ds) (hTE:∀ b,T b → E.T b)
  (hC0:∀ k b,lookB l0 k = some b → C0.H k = some b) {X:Ctx} {lb:List (Nat × Blk)} {XV:Nat → Nat} (hXw:X.w = w) (hXH:X.H = hls lb XV) (hXok:HOk X) (hXle:C0.le X) (hXS:∀ b,X.S b → ¬ C b ∧ T b) (hr:RowOk K l0 lb) :
  Handed E H w S own Cc Dc Ds K lb ⟨X.H,X.own,X.S,X.w,E.l⟩ where
 hw:=hXw
 hl:=rfl
 ok:=hXok.chl hXH hr E.l
 hk:=hr.1
 look:=fun k hk=>by
  obtain ⟨b,b0,q1,q2,q3,q4,q5,q6,q7⟩:=hr.2 k hk
  obtain ⟨g,b0',p1,p2,p3,p4,p5,p6,p7,p8⟩:=h.sh k hk
  have e0:=hC0 k b0 q2
  rw [p3] at e0
  cases e0
  have hXk:X.H k = some b:=by rw [hXH]; exact hls_some q1
  exact ⟨b,g,q1,hXk,q3,q5,pin hXle hXok p3 p2 hXk p4 q3 q7,p1,by rw [p5,q7],p6,p7,p8⟩
 dis:=h.dis
 S1:=fun b hb=>⟨fun hc=>(hXS b hb).1 (h.hC b (.inr (.inl hc))),hTE b (hXS b hb).2⟩
 S2:=fun b hb=>⟨fun ⟨k,blk,hk,hl,e⟩=>(hXS b hb).1 (h.hC b (.inr (.inr (.inr ⟨k,blk,hk,hl,e⟩)))),fun hd=>(hXS b hb).1 (h.hC b (.inr (.inr (.inl hd))))⟩
theorem consH_yok (hJ : JOk E.J) (hY : YOkE E) {d : Nat} {fn : FuncId} {ps : Array Tmp} {assign body : Code} {ia ib : (Exit → St → Prop) → St → Prop} (ha : Sound E.P E.n (sealJ E.J) E.l (some l) assign ia) (hb : Sound E.P E.n (sealJ E.J) E.l (some l) body ib)
    (hgo : ∃ b, g.stop = .b b) (hps : ∀ p ∈ ps.toList, p < E.n) (hTE : ∀ b, T b → E.T b) (hTn : ∀ b, n0 ≤ b → T b) (hC0 : ∀ k b, lookB l0 k = some b → C0.H k = some b)
    (hr : ∀ args lb lb' rest H, I ((args, lb, lb') :: rest) H → args.length = ps.toList.length ∧ ia (thenK (ib (roundH Φ τ g K l0 lb' (I rest))) fun _ _ => False) ⟨setP τ ps.toList args, ovr lb H, g⟩) :
    YOkH E.P (consH E τ g a l (recOf fn a.tmps ps assign body d) K l0 C0 T n0 I Φ) l T C0 := by
  rintro args lb lb' rest C D X XV vs ⟨H, Sc, own, Cc, Dc, Ds, hc, hg⟩ hCD hDlt hXH hXl hXok hXle hXS hXL hcl hRL
  rcases hg with ⟨rows, hst, hrec, hrows, hI⟩ | ⟨lbe, e, c, hst, _⟩
  case inr => cases hst
  have hrw : rows = (args, lb, lb') :: rest := by
    have : Sp.h ((args, lb, lb') :: rest) = Sp.h rows := hst
    cases this; rfl
  subst hrw
  obtain ⟨hro, hro'⟩ := hrows (args, lb, lb') (by simp)
  have hro : RowOk K l0 lb := hro
  have hro' : RowOk K l0 lb' := hro'
  have hrest : ∀ r ∈ rest, RowOk K l0 r.2.1 ∧ RowOk K l0 r.2.2 := fun r hr => hrows r (by simp [hr])
  obtain ⟨hlen, hwalk⟩ := hr args lb lb' rest H hI
  have hvl : vs.length = args.length := hRL.1
  generalize hw : X.w = w at hc hDlt hrec ⊢
  have hand := hc.handed hTE hC0 hw hXH hXok hXle hXS hro
  obtain ⟨h, hle0⟩ := hc.rel.take hand
  have h0 := hc.h0
  have h1 := hc.h1
  have h2 := hc.h2
  have h3 := hc.h3
  have hXLw : ∀ b, LiveC X b → b < w.heap.size ∧ ¬ X.S b := fun b ⟨k, blk, hk, hlv, e⟩ => by
    have := hXok.hown k blk b hk hlv e
    rw [hw] at this
    exact this
  have hXLK : ∀ b, LiveC X b → ∃ k ∈ K, own k = some b ∧ ∃ blk, lookB lb k = some blk ∧ isSh blk = true := fun b ⟨k, blk, hk, hlv, e⟩ => by
    rw [hXH] at hk
    have hk2 := hls_live hk hlv
    have hm : k ∈ K := hro.1 ▸ lookB_key hk2
    obtain ⟨b', g', q1, q2, q3, q4, q5, q6, _⟩ := hand.look k hm
    have q5 : X.own k = some g' := q5
    rw [e] at q5
    cases q5
    exact ⟨k, hm, q6, b', q1, q3⟩
  have hLA : ∀ b, (∃ k, LiveAt (⟨τ, ovr lb H, g⟩ : St) own k b) → C b ∨ LiveC X b := fun b ⟨k, blk, hk, hlv, e⟩ => by
    have hk : ovr lb H k = some blk := hk
    by_cases hm : k ∈ K
    · obtain ⟨b', g', q1, q2, q3, q4, q5, q6, _⟩ := hand.look k hm
      rw [q6] at e
      cases e
      exact .inr ⟨k, b', q2, isSh_live q3, q5⟩
    · have : ovr lb H k = H k := by unfold ovr; rw [lookB_none (by rw [hro.1]; exact hm)]
      rw [this] at hk
      exact .inl (hc.hC b (.inr (.inr (.inr ⟨k, blk, hk, hlv, e⟩))))
  refine ⟨fn, _, assign, body, run_yield hrec (by simp [hvl, hlen, recOf]), ?_⟩
  have htm : ((recOf fn a.tmps ps assign body d .ready none).params.zip vs.toArray).foldl (fun tmps (t, a) => tmps.setIfInBounds t a) (recOf fn a.tmps ps assign body d .ready none).tmps = (ps.toList.zip vs).foldl (fun t (p, v) => t.setIfInBounds p v) a.tmps := by
    show (ps.zip vs.toArray).foldl _ a.tmps = _
    rw [← Array.foldl_toList, Array.toList_zip]
  rw [htm]
  obtain ⟨S1, hS1e⟩ : ∃ S1 : Nat → Prop, S1 = fun b => Sc b ∨ X.S b := ⟨_, rfl⟩
  rw [← hS1e] at h hle0
  have hS1X : ∀ b, X.S b → S1 b := fun b hb => by rw [hS1e]; exact .inr hb
  have hS1 : ∀ b, S1 b → b < w.heap.size ∧ ¬ Cc b ∧ ¬ ∃ k, LiveAt (⟨τ, ovr lb H, g⟩ : St) own k b := fun b hb => ⟨(h.hS b hb).1, (h.hS b hb).2.1, fun ⟨k, blk, hk, hl, e⟩ => (h.hown k blk b hk hl e).2.1 hb⟩
  have hS1T : ∀ b, S1 b → E.T b ∧ b ∉ Ds := fun b hb => ⟨(h.hS b hb).2.2, fun hd => (h.hDs b hd).2.2.1 hb⟩
  have hlS : ¬ S1 l := fun hb => by
    rw [hS1e] at hb
    exact hb.elim h1 fun hb => (hXS l hb).1 (hc.hC l (.inl rfl))
  obtain ⟨hsz1, htmps⟩ := R_setP (C := ⟨ovr lb H, own, S1, w, E.l⟩) ps.toList args vs τ a.tmps hps hlen hvl h.size h.tmps fun i x hx => by
    have hx1 := (hRL.2 i x hx).bare E.l (closedL_get hcl hx)
    exact hx1.of_bare _ hw.symm (fun b hb => hS1X b hb) rfl
  have hr1 := h.round hgo (S1 := S1) (fun b hb => hb) hS1 hsz1 htmps
  have hYr : ∀ (s : St) (w : World) (S1 : Nat → Prop) (own : Nat → Option Nat) (C D : Nat → Prop), (∀ b, (rEnv E s w S1 own C D).T b → E.T b) → YOkE (rEnv E s w S1 own C D) := fun s w S1 own C D hT => ⟨(sealJ_yok hY.y).mono hT, .none fun g C D w hj => hj.2⟩
  have hTr : ∀ b, (rEnv E ⟨τ, ovr lb H, g⟩ w S1 own Cc Dc).T b → E.T b := fun b hb => by
    rcases hb with hb | hb | hb
    · exact (hS1T b hb).1
    · rcases hb with ⟨k, blk, hk, hl, e⟩ | hb
      · exact .inr (h.hown k blk b hk hl e).2.2.2
      · exact .inr (h.hC b hb).2
    · have hb : w.heap.size ≤ b := hb
      have := h.fr.size
      exact .inr (.inr (by omega))
  have hlw : l < w.heap.size := (Array.getElem?_eq_some_iff.1 hrec).1
  have hlX : ¬ ((∃ k, LiveAt (⟨τ, ovr lb H, g⟩ : St) own k l) ∨ Cc l) := fun hx => hx.elim (h.notLive hrec (fun _ _ _ e => by cases e) (.inr ⟨_, rfl⟩)) fun hcc => h2 (h.hC l hcc).1
  have hround := ha (rEnv E ⟨τ, ovr lb H, g⟩ w S1 own Cc Dc) _ _ _ w rfl rfl rfl rfl (hYr _ _ _ _ _ _ hTr) hwalk ⟨_, own, Cc, Dc, [], hr1⟩
  refine roundIn_of_wpIn trivial ?_
  refine wpIn_mono hround ?_
  rintro e a1 w1 ⟨s1, hk1, S2, own1, C1, D1, Ds1, hr2⟩
  cases e with
  | normal =>
    have hDs1 : Ds1 = [] := hr2.fix rfl
    subst hDs1
    obtain ⟨hb1, hle1⟩ := h.rebase (fun b hb => hb) hS1T hr2
    have hrec1 : w1.heap[l]? = some (.loop (recOf fn a.tmps ps assign body d .ready none)) := (hr2.fr.block l hlw hlX).trans hrec
    have hlS1 : ¬ S2 l := fun hs => by
      rcases (hr2.hS l hs).2.2 with q | q | q
      · exact hlS q
      · exact hlX q
      · have q : w.heap.size ≤ l := q
        omega
    have hlD1 : ¬ D1 l := fun hd => by
      rcases hr2.cd.d1 l hd with q | q | q | q
      · exact h2 q
      · exact hlS q
      · exact hlX q
      · have q : w.heap.size ≤ l := q
        omega
    have hD1 : ∀ b, D1 b → b < w1.heap.size := hr2.hD
    obtain ⟨hb2, hle2⟩ := hb1.putRec hJ hrec1 h0 hlS1 hlD1 h3 (.loop (recOf fn a.tmps ps assign body d .busy none))
    refine ⟨w1.putObj l (.loop (recOf fn a.tmps ps assign body d .busy none)), run_beginRound hrec1 rfl, ?_⟩
    obtain ⟨w2, hw2⟩ : ∃ w2, w2 = w1.putObj l (.loop (recOf fn a.tmps ps assign body d .busy none)) := ⟨_, rfl⟩
    rw [← hw2] at hb2 hle2 ⊢
    have hrec2 : w2.heap[l]? = some (.loop (recOf fn a.tmps ps assign body d .busy none)) := by rw [hw2]; exact World.putObj_heap_same (Array.getElem?_eq_some_iff.1 hrec1).1
    have hlw2 : l < w2.heap.size := (Array.getElem?_eq_some_iff.1 hrec2).1
    have hr3 := hb2.round hr2.j.2 (S1 := S2) (fun b hb => hb) (fun b hb => ⟨(hb2.hS b hb).1, (hb2.hS b hb).2.1, fun ⟨k, blk, hk, hl, e⟩ => (hb2.hown k blk b hk hl e).2.1 hb⟩) (τ := s1.τ) (tmps := a1.tmps) hr2.size (fun i => by
      have := hr2.tmps i
      exact R.mono (C := ctx E s1 w1 S2 own1) hle2 this)
    have hae : a1 = { tmps := a1.tmps, defers := [] } := by
      have := hr2.defers
      cases a1
      simp at this
      subst this
      rfl
    rw [← hae] at hr3
    have hlX2 : ¬ ((∃ k, LiveAt (⟨τ, s1.H, s1.g⟩ : St) own1 k l) ∨ C1 l) := fun hx => hx.elim (hb2.notLive hrec2 (fun _ _ _ e => by cases e) (.inr ⟨_, rfl⟩)) fun hc => hlD1 (hb2.hC l hc).1
    have hTr2 : ∀ b, (rEnv E ⟨τ, s1.H, s1.g⟩ w2 S2 own1 C1 D1).T b → E.T b := fun b hb => by
      rcases hb with hb | hb | hb
      · exact (hb2.hS b hb).2.2
      · rcases hb with ⟨k, blk, hk, hl, e⟩ | hb
        · exact .inr (hb2.hown k blk b hk hl e).2.2.2
        · exact .inr (hb2.hC b hb).2
      · have hb : w2.heap.size ≤ b := hb
        have := hb2.fr.size
        exact .inr (.inr (by omega))
    refine wpIn_mono (hb (rEnv E ⟨τ, s1.H, s1.g⟩ w2 S2 own1 C1 D1) _ s1 a1 w2 rfl rfl rfl rfl (hYr _ _ _ _ _ _ hTr2) hk1 ⟨_, own1, C1, D1, [], hr3⟩) ?_
    rintro e a3 w3 ⟨s3, hk3, S3, own3, C3, D3, Ds3, hr4⟩
    have hDs3 : Ds3 = [] := hr4.fix rfl
    subst hDs3
    obtain ⟨hb3, hle3⟩ := hb2.rebase (fun b hb => hb) (fun b hb => ⟨(hb2.hS b hb).2.2, fun hd => (hb2.hDs b hd).2.2.1 hb⟩) hr4
    have hrec3 : w3.heap[l]? = some (.loop (recOf fn a.tmps ps assign body d .busy none)) := (hr4.fr.block l hlw2 hlX2).trans hrec2
    have hlS3 : ¬ S3 l := fun hs => by
      rcases (hr4.hS l hs).2.2 with q | q | q
      · exact hlS1 q
      · exact hlX2 q
      · have q : w2.heap.size ≤ l := q
        omega
    have hlD3 : ¬ D3 l := fun hd => by
      rcases hr4.cd.d1 l hd with q | q | q | q
      · exact hlD1 q
      · exact hlS1 q
      · exact hlX2 q
      · have q : w2.heap.size ≤ l := q
        omega
    have hsz12 : w.heap.size ≤ w1.heap.size := hr2.fr.size
    have hsz2 : w2.heap.size = w1.heap.size := by rw [hw2]; exact World.putObj_size
    have hsz3 : w2.heap.size ≤ w3.heap.size := hr4.fr.size
    have hXC : ∀ b, ((∃ k, LiveAt (⟨τ, ovr lb H, g⟩ : St) own k b) ∨ Cc b) → C b ∨ LiveC X b := fun b hb => hb.elim (hLA b) fun hb => .inl (hc.hC b (.inr (.inl hb)))
    have hX2C : ∀ b, b < w.heap.size → ((∃ k, LiveAt (⟨τ, s1.H, s1.g⟩ : St) own1 k b) ∨ C1 b) → C b ∨ LiveC X b := fun b hlt hb => by
      rcases hb with ⟨k, blk, hk, hl, e⟩ | hb
      · rcases (hr2.hown k blk b hk hl e).2.2.2 with q | q
        · exact hXC b q
        · have q : w.heap.size ≤ b := q
          omega
      · rcases hr2.cd.c1 b hb with q | q
        · exact hXC b (.inr q)
        · have q : w.heap.size ≤ b := q
          omega
    -- the round's end, whatever it is
    have fin : ∀ (pe : Option Code) (lbe : List (Nat × Blk)), rstr K s3.H = lbe → RowOk K l0 lbe → s3.g = g → (∃ H4, hle (Am.hide K s3.H) H4 ∧ (∀ k ∈ K, H4 k = Am.hide K s3.H k) ∧
          ((pe = none ∧ lbe = lb' ∧ I rest H4) ∨ (∃ e c, jumpOf e = some c ∧ pe = some c ∧ Φ e ⟨τ, ovr lbe H4, g⟩))) →
        ∃ v w4, (Instr.endRound l pe).run E.P w3 = .ok v w4 ∧ ∃ b C' D' S' lbe, Ending.returned v = .returned (.bool b) ∧ consH E τ g a l (recOf fn a.tmps ps assign body d) K l0 C0 T n0 I Φ ⟨[], if b = true then .h rest else .e lbe⟩ C' D' w4 ∧ (b = true → lbe = lb') ∧ keys lbe = keys lb ∧ (∀ p ∈ lbe, okB (inK (keys lbe)) p.2 = true) ∧
          HOk ⟨hls lbe XV, X.own, S', w4, l⟩ ∧ X.le ⟨hls lbe XV, X.own, S', w4, l⟩ ∧ Grows w w4 (fun b => C b ∨ LiveC X b) ∧ (∀ b, S' b → ¬ C' b ∧ T b) ∧ (∀ b, S' b → X.S b ∨ D b ∨ w.heap.size ≤ b) ∧
          (∀ b, C' b → C b ∨ w.heap.size ≤ b) ∧ (∀ b, D' b → D b ∨ X.S b ∨ w.heap.size ≤ b) ∧ (∀ b, C' b → D' b) ∧ ∀ b, D' b → b < w4.heap.size := by
      rintro pe lbe hlbe hroE hg4 ⟨H4, hH4, hH4K, hcase⟩
      obtain ⟨hb4, hle4⟩ := hb3.putRec hJ hrec3 h0 hlS3 hlD3 h3 (.loop (recOf fn a.tmps ps assign body d (if pe.isNone then .ready else .done) pe))
      obtain ⟨w4, hw4⟩ : ∃ w4, w4 = w3.putObj l (.loop (recOf fn a.tmps ps assign body d (if pe.isNone then .ready else .done) pe)) := ⟨_, rfl⟩
      rw [← hw4] at hb4 hle4
      have hrec4 : w4.heap[l]? = some (.loop (recOf fn a.tmps ps assign body d (if pe.isNone then .ready else .done) pe)) := by rw [hw4]; exact World.putObj_heap_same (Array.getElem?_eq_some_iff.1 hrec3).1
      have hsz4 : w4.heap.size = w3.heap.size := by rw [hw4]; exact World.putObj_size
      have hleA : (⟨ovr lb H, own, S1, w, E.l⟩ : Ctx).le ⟨s3.H, own3, S3, w4, E.l⟩ := ((hle1.trans hle2).trans hle3).trans hle4
      have hb4g : RelAt E ⟨τ, s3.H, g⟩ a w4 S3 own3 C3 D3 Ds := by rw [← hg4]; exact hb4
      have hlook : ∀ k ∈ K, ∃ b b0 gk, s3.H k = some b ∧ lookB lbe k = some b ∧ isSh b = true ∧ okB (inK K) b = true ∧ clean b = true ∧ lookB l0 k = some b0 ∧ isSh b0 = true ∧ lentOf b = lentOf b0 ∧ own k = some gk ∧ own3 k = some gk ∧ X.own k = some gk ∧ C0.own k = some gk ∧ LiveC X gk ∧ ¬ Sc gk ∧ ¬ Dc gk ∧ (E.X0 gk ∨ E.w0.heap.size ≤ gk) ∧ ∃ bl, lookB lb k = some bl ∧ isSh bl = true ∧ lentOf bl = lentOf b0 := fun k hk => by
        obtain ⟨b, b0, q1, q2, q3, q4, q5, q6, q7⟩ := hroE.2 k hk
        obtain ⟨bl, gk, p1, p2, p3, p4, p5, p6, p7, p8, p9, p10⟩ := hand.look k hk
        have p2 : X.H k = some bl := p2
        have p5 : X.own k = some gk := p5
        obtain ⟨bl', b0', r1, r2, r3, r4, r5, r6, r7⟩ := hro.2 k hk
        rw [p1] at r1
        cases r1
        rw [q2] at r2
        cases r2
        have hs : s3.H k = some b := by
          have := lookB_rstr0 (H := s3.H) hk
          rw [hlbe, q1] at this
          cases hsk : s3.H k with
          | none => rw [hsk] at this; cases this; cases q3
          | some b2 => rw [hsk] at this; exact this.symm
        obtain ⟨g0, c0, s1, s2, s3', s4, _⟩ := hc.sh k hk
        rw [s1] at p6
        cases p6
        have hpin : own3 k = some gk := pin hleA ⟨fun b hb => (hb4.hS b hb).1, fun k blk g hk hl e => ⟨(hb4.hown k blk g hk hl e).1, (hb4.hown k blk g hk hl e).2.1⟩, hb4.inj, hb4.heap⟩ (show ovr lb H k = some bl by unfold ovr; rw [p1]) s1 hs p3 q3 (by rw [q7, r7])
        exact ⟨b, b0, gk, hs, q1, q3, q5, q6, q2, q4, q7, s1, hpin, p5, s2, ⟨k, bl, p2, isSh_live p3, p5⟩, p8, p9, p10, bl, p1, p3, r7⟩
      have hXL3 : ∀ b, LiveC X b → ∃ k ∈ K, own3 k = some b ∧ ∃ blk, s3.H k = some blk ∧ blk.live = true := fun b hb => by
        obtain ⟨k, hk, e, _⟩ := hXLK b hb
        obtain ⟨b1, b0, gk, q1, q2, q3, q4, q5, q6, q7, q8, q9, q10, _⟩ := hlook k hk
        rw [e] at q9
        cases q9
        exact ⟨k, hk, q10, b1, q1, isSh_live q3⟩
      have hXLn : ∀ b, LiveC X b → ¬ S3 b ∧ ¬ D3 b := fun b hb => by
        obtain ⟨k, hk, e, blk, hs, hlv⟩ := hXL3 b hb
        have := hb4.hown k blk b hs hlv e
        exact ⟨this.2.1, this.2.2.1⟩
      obtain ⟨hb5, hle5⟩ := hb4g.hide K
      have hb6 := Rel.weakenAt0 hb5 hH4 rfl
      have hS3o : ∀ b, S3 b → S1 b ∨ (C b ∧ ¬ LiveC X b) ∨ w.heap.size ≤ b := fun b hb => by
        by_cases hlt : b < w.heap.size
        · have hC : ∀ b, S3 b → C b ∨ LiveC X b → C b ∧ ¬ LiveC X b := fun b hb hq => ⟨hq.resolve_right fun q => (hXLn b q).1 hb, fun q => (hXLn b q).1 hb⟩
          rcases (hr4.hS b hb).2.2 with q | q | q
          · rcases (hr2.hS b q).2.2 with p | p | p
            · exact .inl p
            · exact .inr (.inl (hC b hb (hXC b p)))
            · exact .inr (.inr p)
          · exact .inr (.inl (hC b hb (hX2C b hlt q)))
          · have q : w2.heap.size ≤ b := q
            omega
        · exact .inr (.inr (by omega))
      have hS1D : ∀ b, S1 b → D b ∨ X.S b := fun b hb => by
        rw [hS1e] at hb
        exact hb.elim (fun hb => .inl (hc.hD b (.inr (.inl hb)))) .inr
      have hlv3 : ∀ b, (∃ k, LiveAt (⟨τ, H4, g⟩ : St) own3 k b) → (∃ k, k ∉ K ∧ LiveAt (⟨τ, s3.H, g⟩ : St) own3 k b) := fun b ⟨k, blk, hk, hlb, e⟩ => by
        have hk : H4 k = some blk := hk
        have hk2 : Am.hide K s3.H k = some blk := by
          rcases hH4 k with q | ⟨v, q, _⟩
          · exact q ▸ hk
          · rw [q] at hk; cases hk; cases hlb
        unfold Am.hide at hk2
        split at hk2
        · obtain ⟨b', _, rfl⟩ := Option.map_eq_some_iff.1 hk2
          rw [lentOf_live] at hlb; cases hlb
        · rename_i hne
          exact ⟨k, fun hm => hne (inK_iff.2 hm), blk, hk2, hlb, e⟩
      have hlvC : ∀ b, (∃ k, LiveAt (⟨τ, H4, g⟩ : St) own3 k b) → (C b ∨ (w.heap.size ≤ b ∧ b < w4.heap.size)) ∧ ¬ S3 b ∧ ¬ LiveC X b := fun b hb => by
        obtain ⟨k, hkK, blk, hk, hlb, e⟩ := hlv3 b hb
        have hk : s3.H k = some blk := hk
        obtain ⟨q0, qs, _, q⟩ := hr4.hown k blk b hk hlb e
        have hnX : ¬ LiveC X b := fun hx => by
          obtain ⟨k', hk', e', blk', hs', hl'⟩ := hXL3 b hx
          exact hkK (hb4.inj k k' blk blk' b hk hs' hlb hl' e e' ▸ hk')
        refine ⟨?_, qs, hnX⟩
        by_cases hlt : b < w.heap.size
        · rcases q with q | q
          · exact .inl ((hX2C b hlt q).resolve_right hnX)
          · have q : w2.heap.size ≤ b := q
            omega
        · exact .inr ⟨by omega, by omega⟩
      have hC3 : ∀ b, C3 b → C b ∨ (w.heap.size ≤ b ∧ b < w4.heap.size) := fun b hb => by
        have hlt4 : b < w4.heap.size := by rw [hsz4]; exact hb3.hD b (hb3.hC b hb).1
        have hnX : ¬ LiveC X b := fun hx => (hXLn b hx).2 (hb4.hC b hb).1
        rcases hr4.cd.c1 b hb with q | q
        · rcases hr2.cd.c1 b q with p | p
          · exact .inl ((hXC b (.inr p)).resolve_right hnX)
          · have p : w.heap.size ≤ b := p
            exact .inr ⟨p, hlt4⟩
        · have q : w2.heap.size ≤ b := q
          exact .inr ⟨by omega, hlt4⟩
      have hD3 : ∀ b, D3 b → D b ∨ X.S b ∨ (w.heap.size ≤ b ∧ b < w4.heap.size) := fun b hb => by
        have hlt4 : b < w4.heap.size := by rw [hsz4]; exact hb3.hD b hb
        have hnX : ¬ LiveC X b := fun hx => (hXLn b hx).2 hb
        by_cases hlt : b < w.heap.size
        · have toD : C b ∨ LiveC X b → D b := fun q => (hCD b (q.resolve_right hnX)).1
          rcases hr4.cd.d1 b hb with q | q | q | q
          · rcases hr2.cd.d1 b q with p | p | p | p
            · exact .inl (hc.hD b (.inr (.inr (.inr (.inl p)))))
            · exact (hS1D b p).imp id .inl
            · exact .inl (toD (hXC b p))
            · have p : w.heap.size ≤ b := p
              omega
          · rcases (hr2.hS b q).2.2 with p | p | p
            · exact (hS1D b p).imp id .inl
            · exact .inl (toD (hXC b p))
            · have p : w.heap.size ≤ b := p
              omega
          · exact .inl (toD (hX2C b hlt q))
          · have q : w2.heap.size ≤ b := q
            omega
        · exact .inr (.inr ⟨by omega, hlt4⟩)
      have hgrow : Grows w w4 (fun b => C b ∨ LiveC X b) := by
        refine ⟨?_, ?_, ?_, by omega, fun b hlt hcb => ?_⟩
        · exact (show w4.os = w3.os by rw [hw4]; rfl).trans (hr4.fr.os.trans ((show w2.os = w1.os by rw [hw2]; rfl).trans hr2.fr.os))
        · exact (show w4.tape = w3.tape by rw [hw4]; rfl).trans (hr4.fr.tape.trans ((show w2.tape = w1.tape by rw [hw2]; rfl).trans hr2.fr.tape))
        · exact (show w4.output = w3.output by rw [hw4]; rfl).trans (hr4.fr.output.trans ((show w2.output = w1.output by rw [hw2]; rfl).trans hr2.fr.output))
        · have hbl : b ≠ l := fun e => hcb (.inl (e ▸ hc.hC l (.inl rfl)))
          have e1 : w4.heap[b]? = w3.heap[b]? := by rw [hw4]; exact World.putObj_heap_other hbl
          have e2 : w3.heap[b]? = w2.heap[b]? := hr4.fr.block b (by have : b < w1.heap.size := by omega
                                                                    show b < w2.heap.size
                                                                    omega) fun hx => hcb (hX2C b hlt hx)
          have e3 : w2.heap[b]? = w1.heap[b]? := by rw [hw2]; exact World.putObj_heap_other hbl
          have e4 : w1.heap[b]? = w.heap[b]? := hr2.fr.block b hlt fun hx => hcb (hXC b hx)
          exact e1.trans (e2.trans (e3.trans e4))
      have hokE : HOk ⟨hls lbe XV, X.own, S3, w4, E.l⟩ := by
        have hlk : ∀ k blk, hls lbe XV k = some blk → (k ∈ K ∧ lookB lbe k = some blk) ∨ ∃ v, blk = .dead v := fun k blk hk => by
          unfold hls at hk
          split at hk
          · rename_i b e; cases hk; exact .inl ⟨hroE.1 ▸ lookB_key e, e⟩
          · cases hk; exact .inr ⟨_, rfl⟩
        have hren : RenOk ⟨s3.H, own3, S3, w4, E.l⟩ ⟨hls lbe XV, X.own, S3, w4, E.l⟩ (fun k => k) (inK K) := by
          refine ⟨fun b hb => ⟨hb, rfl⟩, fun k hk blk hb => ?_, rfl⟩
          obtain ⟨b1, b0, gk, q1, q2, q3, q4, q5, q6, q7, q8, q9, q10, q11, _⟩ := hlook k (inK_iff.1 hk)
          have hb : s3.H k = some blk := hb
          rw [q1] at hb
          cases hb
          refine ⟨blk, hls_some q2, Nat.le_refl _, fun _ r v hv => ?_⟩
          show RefVal w4 (X.own k) blk r v
          have hv : RefVal w4 (own3 k) blk r v := hv
          rw [q10] at hv
          rw [q11]
          exact hv
        refine ⟨fun b hb => (hb4.hS b hb).1, fun k blk g hk hl e => ?_, fun k k' blk blk' g hk hk' hl hl' e e' => ?_, fun k blk hk => ?_⟩
        · rcases hlk k blk hk with ⟨hm, q⟩ | ⟨v, rfl⟩
          · obtain ⟨b1, b0, gk, q1, q2, q3, q4, q5, q6, q7, q8, q9, q10, q11, _⟩ := hlook k hm
            have e : X.own k = some g := e
            rw [q11] at e
            cases e
            obtain ⟨r1, r2, _⟩ := hb4.hown k b1 g q1 (isSh_live q3) q10
            exact ⟨r1, r2⟩
          · cases hl
        · rcases hlk k blk hk with ⟨hm, q⟩ | ⟨v, rfl⟩
          · rcases hlk k' blk' hk' with ⟨hm', q'⟩ | ⟨v, rfl⟩
            · obtain ⟨b1, b0, gk, q1, q2, q3, q4, q5, q6, q7, q8, q9, q10, q11, _⟩ := hlook k hm
              obtain ⟨b2, b3, gk', p1, p2, p3, p4, p5, p6, p7, p8, p9, p10, p11, _⟩ := hlook k' hm'
              have e : X.own k = some g := e
              have e' : X.own k' = some g := e'
              rw [q11] at e
              rw [p11] at e'
              cases e
              cases e'
              exact hb4.inj k k' b1 b2 _ q1 p1 (isSh_live q3) (isSh_live p3) q10 p10
            · cases hl'
          · cases hl
        · rcases hlk k blk hk with ⟨hm, q⟩ | ⟨v, rfl⟩
          · obtain ⟨b1, b0, gk, q1, q2, q3, q4, q5, q6, q7, q8, q9, q10, q11, _⟩ := hlook k hm
            rw [q] at q2
            cases q2
            have hh := (hb4.heap k blk q1).ren hren (fun _ _ _ => rfl) q4
            rw [renB_id (fun _ => rfl), q10] at hh
            show HRel _ (X.own k) blk
            rw [q11]
            exact hh
          · show HRel _ (X.own k) _
            cases X.own k <;> exact trivial
      refine ⟨.bool pe.isNone, w4, ?_, pe.isNone, fun b => (C b ∨ (w.heap.size ≤ b ∧ b < w4.heap.size)) ∧ ¬ S3 b ∧ ¬ LiveC X b, fun b => (D b ∨ X.S b ∨ (w.heap.size ≤ b ∧ b < w4.heap.size)) ∧ ¬ LiveC X b, S3, lbe, rfl, ?_, ?_, hroE.1.trans hro.1.symm, ?_, hokE.chl rfl hroE l, ?_, hgrow, ?_, ?_, ?_, ?_, ?_, ?_⟩
      · rw [run_endRound pe hrec3, hw4]; rfl
      · refine ⟨H4, S3, own3, C3, D3, Ds, ⟨hb6, fun b hb => ?_, fun b hb => ?_, by have := hc.hn; omega, h0, hlS3, hlD3, h3, ⟨.inl hc.hl, fun hx => (hXL l hx).1 hc.hl⟩, fun b hb => ?_, fun k hk => ?_, fun k hk k' blk hk' hl' => ?_⟩, ?_⟩
        · rcases hb with rfl | hb | hb | hb
          · exact ⟨.inl (hc.hC b (.inl rfl)), hlS3, fun hx => (hXL b hx).1 hc.hl⟩
          · exact ⟨hC3 b hb, fun hs => (hb4.hS b hs).2.1 hb, fun hx => (hXLn b hx).2 (hb4.hC b hb).1⟩
          · exact ⟨.inl (hc.hC b (.inr (.inr (.inl hb)))), (hb4.hDs b hb).2.2.1, fun hx => (hXL b hx).1 (hCD b (hc.hC b (.inr (.inr (.inl hb))))).1⟩
          · exact hlvC b hb
        · rcases hb with hb | hb | hb | hb | hb
          · exact ⟨.inl (hc.hD b (.inl hb)), fun hx => (hXL b hx).1 (hc.hD b (.inl hb))⟩
          · refine ⟨?_, fun hx => (hXLn b hx).1 hb⟩
            rcases hS3o b hb with q | q | q
            · exact (hS1D b q).imp id .inl
            · exact .inl (hCD b q.1).1
            · exact .inr (.inr ⟨q, (hb4.hS b hb).1⟩)
          · obtain ⟨q1, q2, q3⟩ := hlvC b hb
            exact ⟨q1.elim (fun q => .inl (hCD b q).1) fun q => .inr (.inr q), q3⟩
          · exact ⟨hD3 b hb, fun hx => (hXLn b hx).2 hb⟩
          · exact ⟨.inl (hc.hD b (.inr (.inr (.inr (.inr hb))))), fun hx => (hXL b hx).1 (hc.hD b (.inr (.inr (.inr (.inr hb)))))⟩
        · rcases hS3o b hb with q | q | q
          · rw [hS1e] at q
            exact q.elim (hc.hT b) fun q => (hXS b q).2
          · exact (hCD b q.1).2
          · have := hc.hn
            exact hTn b (by omega)
        · obtain ⟨b1, b0, gk, q1, q2, q3, q4, q5, q6, q7, q8, q9, q10, q11, q12, q13, q14, q15, q16, _⟩ := hlook k hk
          refine ⟨gk, b0, q10, q12, hC0 k b0 q6, q7, ?_, (hXLn gk q13).1, (hXLn gk q13).2, q16⟩
          rw [hH4K k hk]
          unfold Am.hide
          rw [if_pos (inK_iff.2 hk), q1, ← q8]
          rfl
        · obtain ⟨b1, b0, gk, q1, q2, q3, q4, q5, q6, q7, q8, q9, q10, q11, q12, q13, _⟩ := hlook k hk
          intro e
          rw [q10] at e
          exact (hlvC gk ⟨k', blk, hk', hl', e⟩).2.2 q13
        · rcases hcase with ⟨rfl, hlb, hI4⟩ | ⟨e, c, hj, rfl, hΦ⟩
          · exact .inl ⟨rest, rfl, hrec4, hrest, hI4⟩
          · exact .inr ⟨lbe, e, c, rfl, hj, hrec4, hroE, hΦ⟩
      · intro hb
        rcases hcase with ⟨rfl, hlb, hI4⟩ | ⟨e, c, hj, rfl, hΦ⟩
        · exact hlb
        · cases hb
      · intro p hp
        obtain ⟨k, b⟩ := p
        have hk : k ∈ K := by rw [← hroE.1]; exact List.mem_map_of_mem (f := (·.1)) hp
        obtain ⟨b1, b0, gk, q1, q2, q3, q4, _⟩ := hlook k hk
        rw [hroE.1]
        rw [← hlbe] at hp
        obtain ⟨k', hk', e⟩ := List.mem_map.1 hp
        cases e
        rw [q1]
        exact q4
      · refine ⟨fun b hb => ⟨(hleA.S b (hS1X b hb)).1, by show w4.heap[b]? = X.w.heap[b]?; rw [hw]; exact (hleA.S b (hS1X b hb)).2⟩, fun k blk hk => ?_, hXl.symm⟩
        rw [hXH] at hk
        by_cases hm : k ∈ K
        · obtain ⟨b1, b0, gk, q1, q2, q3, q4, q5, q6, q7, q8, q9, q10, q11, q12, q13, q14, q15, q16, bl, q17, q18, q19⟩ := hlook k hm
          rw [hls_some q17] at hk
          cases hk
          have hl1 : lentOf b1 = lentOf blk := by rw [q8, q19]
          refine ⟨b1, hls_some q2, ?_, fun _ r v hv => ?_⟩
          · rw [← lentOf_ver blk, ← hl1, lentOf_ver]; exact Nat.le_refl _
          · have := RefVal.toLent (w' := w4) hv
            rw [← hl1] at this
            exact this.ofLent q3
        · rw [hls_none (lookB_none (by rw [hro.1]; exact hm))] at hk
          cases hk
          exact ⟨_, hls_none (lookB_none (by rw [hroE.1]; exact hm)), Nat.le_refl _, fun _ r v hv => by cases X.own k <;> exact trivial⟩
      · intro b hb
        refine ⟨fun hq => hq.2.1 hb, ?_⟩
        rcases hS3o b hb with q | q | q
        · rw [hS1e] at q
          exact q.elim (hc.hT b) fun q => (hXS b q).2
        · exact (hCD b q.1).2
        · have := hc.hn
          exact hTn b (by omega)
      · intro b hb
        rcases hS3o b hb with q | q | q
        · exact (hS1D b q).elim (fun q => .inr (.inl q)) .inl
        · exact .inr (.inl (hCD b q.1).1)
        · exact .inr (.inr q)
      · exact fun b hb => hb.1.imp id fun q => q.1
      · exact fun b hb => hb.1.imp id fun q => q.imp id fun q => q.1
      · exact fun b hb => ⟨hb.1.elim (fun q => .inl (hCD b q).1) fun q => .inr (.inr q), hb.2.2⟩
      · intro b hb
        rcases hb.1 with q | q | q
        · have := hDlt b q; omega
        · have := (h.hS b (hS1X b q)).1; omega
        · exact q.2
    have fend : ∀ (e : Exit) (c : Code), jumpOf e = some c → s3.g = g → RowOk K l0 (rstr K s3.H) → Φ e ⟨τ, s3.H, g⟩ → ∃ H4, hle (Am.hide K s3.H) H4 ∧ (∀ k ∈ K, H4 k = Am.hide K s3.H k) ∧ (((some c : Option Code) = none ∧ rstr K s3.H = lb' ∧ I rest H4) ∨ (∃ e' c', jumpOf e' = some c' ∧ (some c : Option Code) = some c' ∧ Φ e' ⟨τ, ovr (rstr K s3.H) H4, g⟩)) := fun e c hj hg3 hro hΦ => by
      refine ⟨Am.hide K s3.H, fun _ => .inl rfl, fun _ _ => rfl, .inr ⟨e, c, hj, rfl, ?_⟩⟩
      have : ovr (rstr K s3.H) (Am.hide K s3.H) = s3.H := by
        funext k
        unfold ovr
        by_cases hm : k ∈ K
        · obtain ⟨b, b0, q1, _⟩ := hro.2 k hm
          rw [q1]
          have h9 := lookB_rstr0 (H := s3.H) hm
          rw [q1] at h9
          cases hsk : s3.H k with
          | none =>
            rw [hsk] at h9
            obtain ⟨b', b0', p1, p2, p3, _⟩ := hro.2 k hm
            rw [q1] at p1
            cases p1
            cases h9
            cases p3
          | some b2 => rw [hsk] at h9; exact h9
        · rw [lookB_none (by rw [keys_rstr]; exact hm)]
          unfold Am.hide
          rw [if_neg (fun h => hm (inK_iff.1 h))]
      rw [this]
      exact hΦ
    cases e with
    | normal =>
      obtain ⟨hg3, hlb, H', hH', hHK, hI'⟩ := hk3
      exact fin none lb' hlb hro' hg3 ⟨H', hH', hHK, .inl ⟨rfl, rfl, hI'⟩⟩
    | ret =>
      obtain ⟨hg3, hro3, hΦ⟩ := hk3
      exact fin (some .ret) _ rfl hro3 hg3 (fend .ret _ rfl hg3 hro3 hΦ)
    | exit id =>
      obtain ⟨hg3, hro3, hΦ⟩ := hk3
      exact fin (some (.exit id)) _ rfl hro3 hg3 (fend (.exit id) _ rfl hg3 hro3 hΦ)
    | goto lb =>
      obtain ⟨hg3, hro3, hΦ⟩ := hk3
      exact fin (some (.goto lb)) _ rfl hro3 hg3 (fend (.goto lb) _ rfl hg3 hro3 hΦ)
    | panic ch => exact hk3.elim
    | outgrown => exact hk3.elim
  | _ => exact hk1.elim
def cRangeH (P:Program) (f:AV) (ps:List Nat) (B:(Exit → St → Prop) → St → Prop) (Φ:Exit → St → Prop) (s:St):Prop:=match f with
 | .func fid caps=>(∃ b,s.g.stop = .b b) ∧ ∃ (K:List Nat) (l0:List (Nat × Blk)) (rows:List HRow) (l1:List (Nat × Blk)) (I:List HRow → Heap → Prop) (H0:Heap),K.Nodup ∧ rstr K s.H = l0 ∧ RowOk K l0 l0 ∧ (caps.all fun c=>okk (inK K) c && (closed c || isRef c)) = true ∧ SpecYH P fid (.yld :: caps) l0 rows l1 ∧ RowOk K l0 l1 ∧ (∀ r ∈ rows,RowOk K l0 r.2.1 ∧ RowOk K l0 r.2.2) ∧
   hle (hide K s.H) H0 ∧ (∀ k ∈ K,H0 k = hide K s.H k) ∧ I rows H0 ∧
   (∀ args lb lb' rest H,I ((args,lb,lb') :: rest) H → args.length = ps.length ∧ B (roundH Φ s.τ s.g K l0 lb' (I rest)) ⟨setP s.τ ps args,ovr lb H,s.g⟩) ∧ ∀ H,I [] H → Φ .normal ⟨s.τ,ovr l1 H,s.g⟩
 | _=>False
theorem rstr_look {K:List Nat} {H:Heap} {l0:List (Nat × Blk)} (h:rstr K H = l0) (hr:RowOk K l0 l0) {k:Nat} (hk:k ∈ K):∃ b,H k = some b ∧ lookB l0 k = some b ∧ isSh b = true ∧ okB (inK K) b = true ∧ clean b = true:=by
 obtain ⟨b,b0,q1,q2,q3,q4,q5,q6,q7⟩:=hr.2 k hk
 have h9:=lookB_rstr0 (H:=H) hk
 rw [h,q1] at h9
 cases hs:H k with
 | none=>rw [hs] at h9; cases h9; cases q3
 | some b2=>rw [hs] at h9; cases h9; exact ⟨_,rfl,q1,q3,q5,q6⟩
def shC (H:Heap) (own:Nat → Option Nat) (S:Nat → Prop) (w:World) (l:Nat) (K:List Nat) (l0:List (Nat × Blk)):Ctx:=⟨hls l0 (fun k=>ver0 H k),fun k=>if inK K k = true then own k else none,S,w,l⟩
theorem RelAt.shOk {s:St} {a:Act} {w:World} {S:Nat → Prop} {own:Nat → Option Nat} {C D:Nat → Prop} {Ds:List Nat} (h:RelAt E s a w S own C D Ds) {K:List Nat} {l0:List (Nat × Blk)} (hl0:rstr K s.H = l0) (hr:RowOk K l0 l0) (l':Nat) :
  HOk (shC s.H own S w l' K l0) ∧ RenOk ⟨s.H,own,S,w,l'⟩ (shC s.H own S w l' K l0) (fun k=>k) (inK K):=by
 have hren:RenOk ⟨s.H,own,S,w,l'⟩ (shC s.H own S w l' K l0) (fun k=>k) (inK K):=by
  refine ⟨fun b hb=>⟨hb,rfl⟩,fun k hk blk hb=>?_,rfl⟩
  obtain ⟨b,q1,q2,_⟩:=rstr_look hl0 hr (inK_iff.1 hk)
  have hb:s.H k = some blk:=hb
  rw [q1] at hb
  cases hb
  refine ⟨blk,hls_some q2,Nat.le_refl _,fun _ r v hv=>?_⟩
  show RefVal w (if inK K k = true then own k else none) blk r v
  rw [if_pos hk]
  exact hv
 have hlk:∀ k blk,(shC s.H own S w l' K l0).H k = some blk → (k ∈ K ∧ s.H k = some blk ∧ isSh blk = true ∧ okB (inK K) blk = true ∧ clean blk = true) ∨ ∃ v,blk = .dead v:=fun k blk hk=>by
  have hk:hls l0 (fun k=>ver0 s.H k) k = some blk:=hk
  unfold hls at hk
  split at hk
  ·rename_i b e
   cases hk
   have hm:k ∈ K:=hr.1 ▸ lookB_key e
   obtain ⟨b,q1,q2,q3,q4,q5⟩:=rstr_look hl0 hr hm
   rw [e] at q2
   cases q2
   exact .inl ⟨hm,q1,q3,q4,q5⟩
  ·cases hk; exact .inr ⟨_,rfl⟩
 have hown:∀ k,k ∈ K → (shC s.H own S w l' K l0).own k = own k:=fun k hk=>if_pos (inK_iff.2 hk)
 refine ⟨⟨fun b hb=>(h.hS b hb).1,fun k blk g hk hl e=>?_,fun k k' blk blk' g hk hk' hl hl' e e'=>?_,fun k blk hk=>?_⟩,hren⟩
 ·rcases hlk k blk hk with ⟨hm,q1,_⟩ | ⟨v,rfl⟩
  ·rw [hown k hm] at e
   exact ⟨(h.hown k blk g q1 hl e).1,(h.hown k blk g q1 hl e).2.1⟩
  ·cases hl
 ·rcases hlk k blk hk with ⟨hm,q1,_⟩ | ⟨v,rfl⟩
  ·rcases hlk k' blk' hk' with ⟨hm',q1',_⟩ | ⟨v,rfl⟩
   ·rw [hown k hm] at e
    rw [hown k' hm'] at e'
    exact h.inj k k' blk blk' g q1 q1' hl hl' e e'
   ·cases hl'
  ·cases hl
 ·rcases hlk k blk hk with ⟨hm,q1,q2,q3,q4⟩ | ⟨v,rfl⟩
  ·rw [hown k hm]
   have hh:=(((h.heap k blk q1).chl q2 q4 l').ren hren (fun _ _ _=>rfl) q3)
   rw [renB_id (fun _=>rfl)] at hh
   exact hh
  ·cases (shC s.H own S w l' K l0).own k <;> exact trivial
theorem rangeH_sound (hJ:JOk E.J) (hY:YOkE E) (hE:E.fixed = false) {f:Operand} {ps:Array Tmp} {assign body:Code} {Φ:Exit → St → Prop} {s:St} {a:Act} {w:World}
  {ia ib:(Exit → St → Prop) → St → Prop} (ha:∀ l,Sound E.P E.n (sealJ E.J) E.l (some l) assign ia) (hb:∀ l,Sound E.P E.n (sealJ E.J) E.l (some l) body ib) (hps:∀ p ∈ ps.toList,p < E.n)
  (h:cRangeH E.P (ev s.τ f) ps.toList (fun Φ s=>ia (thenK (ib Φ) fun _ _=>False) s) Φ s) (hr:Rel E s a w):(Code.rangeFunc f ps assign body).wpIn (FW none) 0 E.P (post E Φ) a w:=by
 obtain ⟨S,own,C,D,Ds,hr⟩:=hr
 have hfn:=R_ev hr.tmps f
 unfold cRangeH at h
 split at h
 case h_2=>exact h.elim
 rename_i fid caps hf
 rw [hf] at hfn
 obtain ⟨hgo,K,l0,rows,l1,I,H0,hnd,hl0,hro,hcaps,hsp,hro1,hrows,hH0,hH0K,hI0,hround,hend⟩:=h
 generalize hz:a.eval f = z at hfn
 cases hfn with
 | func _ _ us hl hh=>
 refine wpIn_rangeFunc fun fn _=>?_
 obtain ⟨w1,hw1⟩:∃ w1,w1 = (w.alloc (.deferred (some []))).alloc (.loop (recOf fn a.tmps ps assign body w.heap.size .ready none)):=⟨_,rfl⟩
 have hold:∀ b,b < w.heap.size → w1.heap[b]? = w.heap[b]?:=fun b hlt=>by
  rw [hw1,Below.heap_alloc _ _ b (by simp; omega),Below.heap_alloc _ _ b hlt]
 have hszw:w1.heap.size = w.heap.size + 2:=by rw [hw1]; simp
 have hd1:w1.heap[w.heap.size]? = some (.deferred (some [])):=by
  rw [hw1,Below.heap_alloc _ _ w.heap.size (by simp)]
  exact World.alloc_heap_new w _
 have hl1:w1.heap[w.heap.size + 1]? = some (.loop (recOf fn a.tmps ps assign body w.heap.size .ready none)):=by
  have:=World.alloc_heap_new (w.alloc (.deferred (some []))) (.loop (recOf fn a.tmps ps assign body w.heap.size .ready none))
  rw [World.size_alloc] at this
  rw [hw1]; exact this
 have hrw:=hr.abide hJ (w':=w1) (fun b hb=>hold b (hr.hang_lt hb)) (by omega) (by rw [hw1]; rfl) (by rw [hw1]; rfl) (by rw [hw1]; rfl)
 obtain ⟨hrh,_⟩:=RelAt.hide (τ:=s.τ) (H:=s.H) (g:=s.g) hrw K
 have hr1:=Rel.weakenAt0 hrh hH0 rfl
 have hw0:=hr.fr.size
 have hr2:=hr1.pushMark hE hd1 (by omega) (fun hs=>by have:=(hr.hS _ hs).1; omega) (fun hd=>by have:=hr.hD _ hd; omega) (fun hd=>by have:=(Array.getElem?_eq_some_iff.1 (hr.hDs _ hd).1).1; omega)
 obtain ⟨a',ha'⟩:∃ a',a' = { a with defers:=({ target:=.collected w.heap.size,args:=#[] }:Deferred) :: a.defers }:=⟨_,rfl⟩
 rw [← ha'] at hr2
 have hat:a'.tmps = a.tmps:=by rw [ha']
 obtain ⟨C0,hC0⟩:∃ C0,C0 = shC s.H own S w1 (w.heap.size + 1) K l0:=⟨_,rfl⟩
 obtain ⟨hok0,hren0⟩:=hrw.shOk hl0 hro (w.heap.size + 1)
 rw [← hC0] at hok0 hren0
 have hC0H:C0.H = hls l0 (fun k=>ver0 s.H k):=by rw [hC0]; rfl
 have hC0w:C0.w = w1:=by rw [hC0]; rfl
 have hC0S:C0.S = S:=by rw [hC0]; rfl
 have hC0l:C0.l = w.heap.size + 1:=by rw [hC0]; rfl
 have hlive:∀ b,LiveC C0 b → b < w.heap.size ∧ ¬ S b ∧ ¬ D b ∧ (E.X0 b ∨ E.w0.heap.size ≤ b) ∧ ∃ k ∈ K,own k = some b ∧ ∃ blk,s.H k = some blk ∧ blk.live = true:=by
  rintro b ⟨k,blk,hk,hlb,e⟩
  rw [hC0H] at hk
  have hm:k ∈ K:=hro.1 ▸ lookB_key (hls_live hk hlb)
  have e:own k = some b:=by rw [hC0] at e; unfold shC at e; simpa [inK_iff.2 hm] using e
  obtain ⟨b1,q1,q2,q3,_⟩:=rstr_look hl0 hro hm
  obtain ⟨r1,r2,r3,r4⟩:=hr.hown k b1 b q1 (isSh_live q3) e
  exact ⟨r1,r2,r3,r4,k,hm,e,b1,q1,isSh_live q3⟩
 have hdis:∀ k ∈ K,∀ k' blk,H0 k' = some blk → blk.live = true → own k' ≠ own k:=fun k hk k' blk hk' hlb e=>by
  have h2:Am.hide K s.H k' = some blk:=by
   rcases hH0 k' with q | ⟨v,q,_⟩
   ·exact q ▸ hk'
   ·rw [q] at hk'; cases hk'; cases hlb
  unfold Am.hide at h2
  split at h2
  ·obtain ⟨b',_,rfl⟩:=Option.map_eq_some_iff.1 h2
   rw [lentOf_live] at hlb; cases hlb
  ·rename_i hne
   obtain ⟨b1,q1,q2,q3,_⟩:=rstr_look hl0 hro hk
   have hh:=hr.heap k b1 q1
   cases hog:own k with
   | none=>rw [hog] at hh; cases b1 <;> first | (cases q3; done) | exact hh.elim
   | some gk=>
    rw [hog] at e
    exact hne (inK_iff.2 (hr.inj k' k blk b1 gk h2 q1 hlb (isSh_live q3) e hog ▸ hk))
 let C1:Nat → Prop:=fun b=>b = w.heap.size + 1 ∨ C b ∨ b ∈ w.heap.size :: Ds ∨ ∃ k,LiveAt (⟨s.τ,H0,s.g⟩:St) own k b
 let T:Nat → Prop:=fun b=>C0.S b ∨ (LiveC C0 b ∨ C1 b) ∨ C0.w.heap.size ≤ b
 let D1:Nat → Prop:=fun b=>b < w1.heap.size ∧ ¬ LiveC C0 b
 have hTE:∀ b,T b → E.T b:=fun b hb=>by
  rcases hb with hb | (hb | hb) | hb
  ·rw [hC0S] at hb; exact (hr.hS b hb).2.2
  ·exact .inr (hlive b hb).2.2.2.1
  ·rcases hb with hb | hb | hb | ⟨k,blk,hk,hl,e⟩
   ·exact .inr (.inr (by omega))
   ·exact .inr (hr.hC b hb).2
   ·exact .inr (.inr (hr2.hDs b hb).2.1)
   ·exact .inr (hr2.hown k blk b hk hl e).2.2.2
  ·rw [hC0w] at hb; exact .inr (.inr (by omega))
 have hJc:JOk (consH E s.τ s.g a' (w.heap.size + 1) (recOf fn a'.tmps ps assign body w.heap.size) K l0 C0 T w1.heap.size I Φ):=consH_ok hJ
 have hC0l0:∀ k b,lookB l0 k = some b → C0.H k = some b:=fun k b hb=>by rw [hC0H]; exact hls_some hb
 have hYc:=consH_yok (τ:=s.τ) (g:=s.g) (a:=a') (l:=w.heap.size + 1) (d:=w.heap.size) (fn:=fn) (ps:=ps) (I:=I) (Φ:=Φ) (K:=K) (l0:=l0) (C0:=C0) (T:=T) (n0:=w1.heap.size) hJ hY (ha _) (hb _) hgo hps hTE (fun b hb=>.inr (.inr (by rw [hC0w]; exact hb))) hC0l0 hround
 have hC1D:∀ b,C1 b → D1 b:=fun b hb=>by
  have hnl:∀ b,LiveC C0 b → b < w.heap.size ∧ ¬ C b ∧ ¬ (b ∈ Ds) ∧ ¬ ∃ k,LiveAt (⟨s.τ,H0,s.g⟩:St) own k b:=fun b hb=>by
   obtain ⟨r1,r2,r3,r4,k,hm,e,blk,q1,q2⟩:=hlive b hb
   refine ⟨r1,fun hc=>r3 (hr.hC b hc).1,fun hd=>?_,fun ⟨k',blk',hk',hl',e'⟩=>hdis k hm k' blk' hk' hl' (by rw [e,e'])⟩
   exact hr.notLive (hr.hDs b hd).1 (fun _ _ _ e=>by cases e) (.inl ⟨_,rfl⟩) ⟨k,blk,q1,q2,e⟩
  rcases hb with hb | hb | hb | hb
  ·exact ⟨by omega,fun hx=>by have:=(hnl b hx).1; omega⟩
  ·exact ⟨by have:=hr.hD b (hr.hC b hb).1; omega,fun hx=>(hnl b hx).2.1 hb⟩
  ·refine ⟨hr2.hang_lt (.inr (.inr (.inr (.inr hb)))),fun hx=>?_⟩
   rcases List.mem_cons.1 hb with rfl | hb
   ·have:=(hnl _ hx).1; omega
   ·exact (hnl b hx).2.2.1 hb
  ·exact ⟨hr2.hang_lt (.inr (.inr (.inl hb))),fun hx=>(hnl b hx).2.2.2 hb⟩
 have hj0:consH E s.τ s.g a' (w.heap.size + 1) (recOf fn a'.tmps ps assign body w.heap.size) K l0 C0 T w1.heap.size I Φ ⟨[],.h rows⟩ C1 D1 C0.w:=by
  rw [hC0w]
  refine ⟨H0,S,own,C,D,w.heap.size :: Ds,⟨hr2,fun b hb=>hb,fun b hb=>⟨hr2.hang_lt hb,fun hx=>?_⟩,Nat.le_refl _,by omega,fun hs=>by have:=(hr.hS _ hs).1; omega,fun hd=>by have:=hr.hD _ hd; omega,fun hd=>?_,⟨by omega,fun hx=>by have:=(hlive _ hx).1; omega⟩,fun b hb=>.inl (by rw [hC0S]; exact hb),fun k hk=>?_,hdis⟩,
   .inl ⟨rows,rfl,by rw [hat]; exact hl1,hrows,hI0⟩⟩
  ·obtain ⟨r1,r2,r3,r4,k,hm,e,blk,q1,q2⟩:=hlive b hx
   rcases hb with hb | hb | ⟨k',blk',hk',hl',e'⟩ | hb | hb
   ·rcases r4 with q | q
    ·exact hb.2 q
    ·have:=hb.1; omega
   ·exact r2 hb
   ·exact hdis k hm k' blk' hk' hl' (by rw [e,e'])
   ·exact r3 hb
   ·rcases List.mem_cons.1 hb with rfl | hb
    ·omega
    ·exact hr.notLive (hr.hDs b hb).1 (fun _ _ _ e=>by cases e) (.inl ⟨_,rfl⟩) ⟨k,blk,q1,q2,e⟩
  ·rcases List.mem_cons.1 hd with hd | hd
   ·omega
   ·have:=(Array.getElem?_eq_some_iff.1 (hr.hDs _ hd).1).1; omega
  ·obtain ⟨b1,q1,q2,q3,_⟩:=rstr_look hl0 hro hk
   have hh2:=hr.heap k b1 q1
   cases hog:own k with
   | none=>rw [hog] at hh2; cases b1 <;> first | (cases q3; done) | exact hh2.elim
   | some gk=>
    obtain ⟨r1,r2,r3,r4⟩:=hr.hown k b1 gk q1 (isSh_live q3) hog
    refine ⟨gk,b1,rfl,by rw [hC0]; unfold shC; simp [inK_iff.2 hk,hog],hC0l0 k b1 q2,q3,?_,r2,r3,r4⟩
    rw [hH0K k hk]
    unfold Am.hide
    rw [if_pos (inK_iff.2 hk),q1]
    rfl
 have hargs:RL C0 (.yld :: caps) (.func (.yield (w.heap.size + 1)) #[] #[] :: us):=by
  refine ⟨by simp [hl],fun i x hx=>?_⟩
  cases i with
  | zero=>simp at hx; subst hx; rw [← hC0l]; exact .yld
  | succ i=>
   simp only [List.getElem?_cons_succ] at hx
   have hk:=List.all_eq_true.1 hcaps x (List.mem_of_getElem? hx)
   simp only [Bool.and_eq_true] at hk
   have h1:=R.mono (C:=ctx E s w S own) (C':=ctx E s w1 S own) ⟨fun b hb=>⟨hb,hold b (hr.hS b hb).1⟩,fun k blk hk=>⟨blk,hk,Nat.le_refl _,fun _ r v hv=>hv.same fun g e hl=>hold g (hr.hown k blk g hk hl e).1⟩,rfl⟩ (hh i x hx)
   have hcl:(closed x || isRef x) = true:=hk.2
   have h2:=(h1.chl hcl (w.heap.size + 1)).ren hren0 hk.1
   rw [ren_id (fun _=>rfl)] at h2
   simpa using h2
 have hcall:=hsp.calls _ C0 _ C1 D1 _ hJc hC0H hok0 (by rw [hC0l]; exact hYc) hj0 hC1D (fun b hb=>by rw [hC0w]; exact hb.1) (fun b hb hc=>?_) (fun b hb hd=>hd.2 hb) hargs
 case refine_1=>
  rw [hC0S] at hb
  have h1:=hr.hS b hb
  rcases hc with hc | hc | hc | ⟨k,blk,hk,hl,e⟩
  ·have:=h1.1; omega
  ·exact h1.2.1 hc
  ·exact (hr2.hDs b hc).2.2.1 hb
  ·exact (hr2.hown k blk b hk hl e).2.1 hb
 rw [hC0w] at hcall
 refine ⟨w.heap.size + 1,[({ target:=.collected w.heap.size,args:=#[] }:Deferred)],w1,{ target:=.fn (.func fid) us.toArray,args:=#[.func (.yield (w.heap.size + 1)) #[] #[]] },w1,fid,(.func (.yield (w.heap.size + 1)) #[] #[] :: us).toArray,w1,?_,?_,fun _ _=>trivial,?_,fun h=>by simp [FW] at h,?_⟩
 ·have:=run_enterLoop_outer (P:=E.P) (w:=w) fn a.tmps ps assign body
  rw [hw1]
  exact this
 ·unfold resolve
  simp only [hz,Deferred.ofValue,Sem.run_pure]
  simp [Act.eval]
 ·simp only [invoke]
  have e2:#[Value.func (.yield (w.heap.size + 1)) #[] #[]] ++ us.toArray = (Value.func (.yield (w.heap.size + 1)) #[] #[] :: us).toArray:=by
   apply Array.toList_inj.1
   simp
  rw [e2]
  exact hsp.enters _ _
 ·refine hcall.mono fun e w2 ⟨v,C2,D2,X,lbe,v',he,hXw,hXl,hXH,hXok,hXle,hgr,hXS,hXD,hDlt,hfin⟩=>?_
  subst he
  have key:∀ gi,consH E s.τ s.g a' (w.heap.size + 1) (recOf fn a'.tmps ps assign body w.heap.size) K l0 C0 T w1.heap.size I Φ gi C2 D2 w2 → (gi.stop = .h [] ∧ lbe = l1) ∨ gi.stop = .e lbe →
    rangePost (FW none) 0 E.P (w.heap.size + 1) (post E Φ) { a with defers:=[({ target:=.collected w.heap.size,args:=#[] }:Deferred)] ++ a.defers } (.returned v) w2:=by
   rintro gi ⟨H,S2,own2,Cc,Dc,Ds2,h,hg⟩ hgi
   have ea:({ a with defers:=[({ target:=.collected w.heap.size,args:=#[] }:Deferred)] ++ a.defers }:Act) = a':=by rw [ha']; rfl
   rw [ea]
   have hroE:RowOk K l0 lbe:=by
    rcases hgi with ⟨_,rfl⟩ | hgi
    ·exact hro1
    ·rcases hg with ⟨rows,hst,_⟩ | ⟨lbe',e,c,hst,_,_,hq,_⟩
     ·rw [hgi] at hst; cases hst
     ·rw [hgi] at hst; cases hst; exact hq
   have hand:=h.handed hTE hC0l0 hXw hXH hXok hXle (fun b hb=>⟨(hXS b hb).1,(hXS b hb).2.imp id fun q=>q.imp id fun q=>by rw [hC0w]; exact q⟩) hroE
   obtain ⟨ht,hle⟩:=h.rel.take hand
   have hlS:¬ (S2 (w.heap.size + 1) ∨ X.S (w.heap.size + 1)):=fun hx=>hx.elim h.h1 fun hx=>(hXS _ hx).1 (h.hC _ (.inl rfl))
   rcases hg with ⟨rows',hst,hrec,_,hI⟩ | ⟨lbe',e,c,hst,hj,hrec,_,hΦ⟩
   ·obtain ⟨hq,_⟩:=ht.putRec hJ hrec h.h0 hlS h.h2 h.h3 (.loop (recOf fn a'.tmps ps assign body w.heap.size .exhausted none))
    refine ⟨none,w2.putObj (w.heap.size + 1) (.loop (recOf fn a'.tmps ps assign body w.heap.size .exhausted none)),run_endLoop hrec (by simp [recOf]),?_⟩
    rcases hgi with ⟨hgi,rfl⟩ | hgi
    ·rw [hst] at hgi
     cases hgi
     exact ⟨⟨s.τ,ovr lbe H,s.g⟩,hend H hI,_,own2,Cc,Dc,Ds2,hq⟩
    ·rw [hst] at hgi; cases hgi
   ·obtain ⟨hq,_⟩:=ht.putRec hJ hrec h.h0 hlS h.h2 h.h3 (.loop (recOf fn a'.tmps ps assign body w.heap.size .exhausted (some c)))
    refine ⟨some c,w2.putObj (w.heap.size + 1) (.loop (recOf fn a'.tmps ps assign body w.heap.size .exhausted (some c))),run_endLoop hrec (by simp [recOf]),?_⟩
    have elb:lbe' = lbe:=by
     rcases hgi with ⟨hgi,rfl⟩ | hgi
     ·rw [hst] at hgi; cases hgi
     ·rw [hst] at hgi; cases hgi; rfl
    subst elb
    have hp:post E Φ e a' (w2.putObj (w.heap.size + 1) (.loop (recOf fn a'.tmps ps assign body w.heap.size .exhausted (some c)))):=⟨⟨s.τ,ovr lbe' H,s.g⟩,hΦ,_,own2,Cc,Dc,Ds2,hq⟩
    cases e with
    | ret=>cases hj; exact wpIn_ret hp
    | exit id=>cases hj; exact wpIn_exit hp
    | goto lb=>cases hj; exact wpIn_goto hp
    | _=>cases hj
  rcases hfin with ⟨hj,hlb⟩ | hj
  ·exact key _ hj (.inl ⟨rfl,hlb⟩)
  ·exact key _ hj (.inr rfl)
end
def cRange (P:Program) (f:AV) (ps:List Nat) (B:(Exit → St → Prop) → St → Prop) (Φ:Exit → St → Prop) (s:St):Prop:=cRange1 P f ps B Φ s ∨ cRangeH P f ps B Φ s
@[congr] theorem cRange_congr {P:Program} {f f':AV} {ps:List Nat} {B:(Exit → St → Prop) → St → Prop} {Φ:Exit → St → Prop} {s s':St} (h:f = f') (h2:s = s'):cRange P f ps B Φ s = cRange P f' ps B Φ s':=by rw [h,h2]
theorem rangeFunc_sound {E:Env} (hJ:JOk E.J) (hY:YOkE E) (hE:E.fixed = false) {f:Operand} {ps:Array Tmp} {assign body:Code} {Φ:Exit → St → Prop} {s:St} {a:Act} {w:World}
  {ia ib:(Exit → St → Prop) → St → Prop} (ha:∀ l,Sound E.P E.n (sealJ E.J) E.l (some l) assign ia) (hb:∀ l,Sound E.P E.n (sealJ E.J) E.l (some l) body ib) (hps:∀ p ∈ ps.toList,p < E.n)
  (h:cRange E.P (ev s.τ f) ps.toList (fun Φ s=>ia (thenK (ib Φ) fun _ _=>False) s) Φ s) (hr:Rel E s a w):(Code.rangeFunc f ps assign body).wpIn (FW none) 0 E.P (post E Φ) a w:=
 h.elim (fun h=>range1_sound hJ hY hE ha hb hps h hr) fun h=>rangeH_sound hJ hY hE ha hb hps h hr
end Go.Am
