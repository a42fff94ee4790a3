import Derived.Test.YtnngddgaobhkiaaGreatGA3
import Derived.RangeFuncLeaves
set_option linter.unusedVariables false
set_option linter.unusedSimpArgs false
namespace Go.Am
open Go.RowKit
def isCallV:Op → Bool
 | .call c=>match c.callee with
  | .value _=>true
  | _=>false
 | _=>false
def noGuards (l:List Oper):Bool:=l.all fun o=>o.guard.isNone
def lastOk (ops:Array Oper) (A:List Nat):Bool:=
 (match ops.toList.getLast? with | some o=>isCallV o.op | none=>false) && (noGuards ops.toList && (allBelow (ops.size - 1) (fun j=>before A ops.size j (ops.size - 1)) && (edgesOk ops .any && (modeOk ops .text && modeOk ops .gc))))
noncomputable abbrev lastW (P:Program) (ops:Array Oper) (s:St) (K:St → Prop):Prop:=match ops.toList.getLast? with
 | some o=>opW P false o s K
 | none=>False
def initOps (ops:Array Oper):Array Oper:=ops.toList.dropLast.toArray
theorem noGuards_get {l:List Oper} (h:noGuards l = true) (o:Oper) (ho:o ∈ l):o.guard = none:=by
 have:=List.all_eq_true.1 h o ho
 simpa using this
theorem initOps_size (ops:Array Oper):(initOps ops).size = ops.size - 1:=by simp [initOps]
theorem initOps_get {ops:Array Oper} {i:Nat} (h:i < ops.size - 1):(initOps ops)[i]? = ops[i]?:=by
 unfold initOps
 rw [List.getElem?_toArray,List.getElem?_dropLast]
 simp [h]
theorem goL_sound {P:Program} {ops:Array Oper} {A A':List Nat} (hA:AncOk ops A) (hA':AncOk (initOps ops) A') {s0:St} {K:St → Prop} {v:Nat → AV} {h:Nat → Heap} {tx:Nat → Nat → AV} {md:Region.Mode} (hok:drawOk (initOps ops) A' = true) (hmd:modeOk ops md = true)
  (htr:Tr P (initOps ops) 0 v h tx) (hck:∀ i,∀ r ∈ riskOf (initOps ops) A' i,compat (ftAt (initOps ops) tx r) (ftAt (initOps ops) tx i) = true) {last:Oper} (hlast:ops[ops.size - 1]? = some last)
  (hb:∀ j,j < ops.size - 1 → before A ops.size j (ops.size - 1) = true) (hgs:∀ (j:Nat) (o:Oper),ops[j]? = some o → o.guard = none) (hK:StepR P ⟨tx (ops.size - 1),h (ops.size - 1),s0.g⟩ last K) :
  ∀ (fuel t:Nat) (listed:Array Bool) (s:St),listed.size = ops.size → listed.toList.countP (fun b=>!b) = fuel → Shut ops (Lst listed) → ¬ Lst listed (ops.size - 1) →
   Inv s0 (initOps ops) v h tx (fun j=>j < ops.size - 1 ∧ Lst listed j) s → awpIdx P ops (Region.linearise.go md ops fuel t listed []) s K:=by
 intro fuel
 have hpos:ops.size - 1 < ops.size:=(Array.getElem?_eq_some_iff.1 hlast).1
 induction fuel with
 | zero=>
  intro t listed s hsz hc hS hn hI
  exfalso
  refine hn ?_
  have h1:=List.countP_eq_zero.1 hc
  have hj2:ops.size - 1 < listed.size:=by omega
  have:=h1 listed[ops.size - 1] (by simp [Array.getElem_mem_toList])
  simpa [Lst,Array.getD_eq_getD_getElem?,hj2] using this
 | succ fuel ih=>
  intro t listed s hsz hc hS hn hI
  simp only [Region.linearise.go]
  change awpIdx P ops (match (Region.ready md ops listed)[t % (Region.ready md ops listed).length]? with
   | some i=>Region.linearise.go md ops fuel (t / (Region.ready md ops listed).length) (listed.setIfInBounds i true) [i]
   | none=>[].reverse) s K
  cases hi:(Region.ready md ops listed)[t % (Region.ready md ops listed).length]? with
  | none=>
   exfalso
   have hnil:Region.ready md ops listed = []:=by
    cases hr:Region.ready md ops listed with
    | nil=>rfl
    | cons x xs=>
     rw [hr] at hi
     have hlt:t % (x :: xs).length < (x :: xs).length:=Nat.mod_lt _ (by simp)
     simp at hi
     simp at hlt
     omega
   refine modeOk_ready hmd listed hsz ⟨ops.size - 1,hpos,?_⟩ hnil
   have hj2:ops.size - 1 < listed.size:=by omega
   simpa [Lst,Array.getD_eq_getD_getElem?,hj2] using hn
  | some i=>
   simp only []
   rw [linearise_go_acc,List.reverse_singleton,List.singleton_append]
   obtain ⟨hl,o,ho,hpre⟩:=mem_ready.1 (List.mem_of_getElem? hi)
   have hlt:i < ops.size:=(Array.getElem?_eq_some_iff.1 ho).1
   have hi2:i < listed.size:=by omega
   have hli:listed[i] = false:=by simpa [Array.getD_eq_getD_getElem?,hi2] using hl
   have hnl:¬ Lst listed i:=by simp [Lst,Array.getD_eq_getD_getElem?,hi2,hli]
   have hcnt:(listed.setIfInBounds i true).toList.countP (fun b=>!b) = fuel:=by
    rw [Array.toList_setIfInBounds,List.countP_set (by simpa using hi2)]
    have hpos:0 < listed.toList.countP (fun b=>!b):=by rw [hc]; omega
    have e:listed.toList[i]'(by simpa using hi2) = false:=by simpa using hli
    simp [e,hc]
   have hX:Shut ops fun m=>Lst listed m ∨ m = i:=fun m om hm hx e he hbd=>by
    rcases hx with hx | rfl
    ·exact .inl (hS m om hm hx e he hbd)
    ·rw [ho] at hm
     cases hm
     exact .inl (hpre e he (binds_any hbd))
   have hX2:Shut ops (Lst (listed.setIfInBounds i true)):=fun m om hm hx e he hbd=>(set_lst hi2 _).2 (hX m om hm ((set_lst hi2 _).1 hx) e he hbd)
   unfold awpIdx
   rw [ho]
   dsimp only
   rw [hgs i o ho]
   by_cases em:i = ops.size - 1
   ·have hall:∀ j,j < ops.size - 1 → Lst listed j:=fun j hj=>(before_mem hA hX hlt (by rw [em]; exact hb j hj) (.inr rfl)).resolve_right (by omega)
    have es:s = ⟨tx (initOps ops).size,h (initOps ops).size,s0.g⟩:=hI.all hok htr fun j hj=>by rw [initOps_size] at hj; exact ⟨hj,hall j hj⟩
    rw [initOps_size] at es
    have eo:o = last:=by rw [em,hlast] at ho; exact (Option.some.inj ho).symm
    have ef:fuel = 0:=by
     rw [← hcnt]
     refine List.countP_eq_zero.2 fun b hb2=>?_
     obtain ⟨j,hj,rfl⟩:=List.getElem_of_mem hb2
     have hj2:j < ops.size:=by simpa [hsz] using hj
     have:Lst (listed.setIfInBounds i true) j:=(set_lst hi2 j).2 (by
      by_cases e:j = i
      ·exact .inr e
      ·exact .inl (hall j (by omega)))
     have hj3:j < listed.size:=by omega
     have h2:(listed.setIfInBounds i true)[j]'(by simpa using hj3) = true:=by simpa [Lst,Array.getD_eq_getD_getElem?,hj3] using this
     have h5:(listed.setIfInBounds i true).toList[j]'hj = true:=by rw [Array.getElem_toList]; exact h2
     rw [h5]; simp
    subst ef
    rw [es,eo]
    exact hK
   ·have hi3:i < ops.size - 1:=by omega
    have hoI:(initOps ops)[i]? = some o:=by rw [initOps_get hi3]; exact ho
    have:=hI.next hA' (K:=fun s=>awpIdx P ops (Region.linearise.go md ops fuel (t / (Region.ready md ops listed).length) (listed.setIfInBounds i true) []) s K) hok htr hck (i:=i) (fun hx=>hnl hx.2) hoI
     (fun e he hbd=>⟨by
      have h1:=hpre e he (binds_any hbd)
      have h2:e.on ≠ ops.size - 1:=fun e2=>hn (by rw [← e2]; exact h1)
      have h3:e.on < listed.size:=by
       by_cases h4:e.on < listed.size
       ·exact h4
       ·simp [Array.getD_eq_getD_getElem?,Array.getElem?_eq_none (Nat.le_of_not_lt h4)] at h1
      omega,hpre e he (binds_any hbd)⟩) fun s' hI'=>ih _ _ s' (by simp [hsz]) hcnt hX2 (fun hx=>((set_lst hi2 _).1 hx).elim hn fun e=>em e.symm) (hI'.ext fun j=>by
       rw [set_lst hi2 j]
       constructor
       ·rintro ⟨h1,h2 | h2⟩
        ·exact .inl ⟨h1,h2⟩
        ·exact .inr h2
       ·rintro (⟨h1,h2⟩ | rfl)
        ·exact ⟨h1,.inl h2⟩
        ·exact ⟨hi3,.inr rfl⟩)
    rw [hgs i o ho] at this
    exact this
noncomputable abbrev awpDrawX (P:Program) (ops:Array Oper) (s:St) (K:St → Prop):Prop:=
 ancsK ops.toList [] 0 fun A=>match lastOk ops A with
  | true=>ancsK (initOps ops).toList [] 0 fun A'=>match drawOk (initOps ops) A' with
   | true=>awpD P (initOps ops) A' (initOps ops).toList 0 [] s fun s'=>lastW P ops s' K
   | false=>False
  | false=>awpDraw P ops s K
theorem awpDX_sound {P:Program} {ops:Array Oper} {s:St} {K:St → Prop} (h:awpDrawX P ops s K) (mixed:Bool) (t:Nat):awpIdx P ops (Region.schedule mixed ops t) s K:=by
 unfold awpDrawX at h
 rw [ancsK_eq] at h
 split at h
 ·rename_i hl
  rw [ancsK_eq] at h
  split at h
  ·rename_i hok
   simp only [lastOk,Bool.and_eq_true] at hl
   obtain ⟨h1,h2,h3,h4,h5,h6⟩:=hl
   obtain ⟨last,hlast⟩:∃ o,ops.toList.getLast? = some o:=by
    cases hg:ops.toList.getLast? with
    | none=>rw [hg] at h1; simp at h1
    | some o=>exact ⟨o,rfl⟩
   have hlast':ops[ops.size - 1]? = some last:=by
    rw [List.getLast?_eq_getElem?] at hlast
    simpa using hlast
   have hA:AncOk ops _:=fun X hX i j hi hb hx=>ancs_good (fun i o ho=>edgesOk_lt h4 ho) hX ops.toList [] 0 rfl (Nat.zero_le _) rfl (fun a j ha=>by omega) i j hi hb hx
   have hA':AncOk (initOps ops) _:=fun X hX i j hi hb hx=>ancs_good (fun i o ho=>drawOk_edge hok ho) hX (initOps ops).toList [] 0 rfl (Nat.zero_le _) rfl (fun a j ha=>by omega) i j hi hb hx
   obtain ⟨v,hh,tx,e1,e2,htr,hK,hck⟩:=awpD_trace (initOps ops).toList 0 [] s rfl rfl h
   have hK:=hK (Nat.zero_le _)
   have hpos:ops.size - 1 < ops.size:=(Array.getElem?_eq_some_iff.1 hlast').1
   have hno:∀ j,¬ Lst (Array.replicate ops.size false) j:=fun j hj=>by
    unfold Lst at hj
    rw [Array.getD_eq_getD_getElem?,Array.getElem?_replicate] at hj
    split at hj <;> simp at hj
   have hI:Inv s (initOps ops) v hh tx (fun j=>j < ops.size - 1 ∧ Lst (Array.replicate ops.size false) j) s:={
    lt:=fun j hj=>(hno j hj.2).elim
    cl:=fun j o _ hj=>(hno j hj.2).elim
    t0:=fun d _=>by rw [e1]
    t1:=fun j o d _ hj=>(hno j hj.2).elim
    h0:=fun k _=>by rw [e2]
    h1:=fun k j hj=>(hno j hj.2).elim
    g:=rfl }
   have hst:StepR P ⟨tx (ops.size - 1),hh (ops.size - 1),s.g⟩ last K:=by
    rw [initOps_size] at hK
    unfold lastW at hK
    rw [hlast] at hK
    exact opW_StepR hK
   have hmd:∀ md,modeOk ops md = true:=fun md=>by
    cases md with
    | text=>exact h5
    | gc=>exact h6
    | any=>unfold modeOk; rw [h4]; rfl
   have key:∀ md t,awpIdx P ops (Region.linearise md ops t) s K:=fun md t=>by
    unfold Region.linearise
    refine goL_sound hA hA' hok (hmd md) htr (fun i r hr=>(hck i (Nat.zero_le _) r hr).2 (Nat.zero_le _)) hlast' (fun j hj=>allBelow_iff.1 h3 j hj) (fun j o ho=>noGuards_get h2 o (by simpa using Array.mem_of_getElem? ho)) hst _ t _ s (by simp) ?_ (fun j o _ hj=>(hno j hj).elim) (hno _) hI
    rw [Array.toList_replicate,List.countP_replicate]
    simp
   unfold Region.schedule
   split
   ·exact key _ _
   ·exact key _ _
  ·exact h.elim
 ·exact awpD_sound h mixed t
end Go.Am
namespace Go.Am
open Go.RowKit
section
variable {E : Env} {s : St} {a : Act} {w : World} {S : Nat → Prop} {own : Nat → Option Nat} {C D : Nat → Prop} {Ds : List Nat}
def Hang (E:Env) (s:St) (S:Nat → Prop) (own:Nat → Option Nat) (D:Nat → Prop) (Ds:List Nat) (b:Nat):Prop:=
 b < E.w0.heap.size ∨ S b ∨ (∃ k,LiveAt s own k b) ∨ D b ∨ b ∈ Ds
theorem RelAt.abideLe (h:RelAt E s a w S own C D Ds) {w':World} (same:∀ b,Hang E s S own D Ds b → w'.heap[b]? = w.heap[b]?):(ctx E s w S own).le (ctx E s w' S own):=
 ⟨fun b hb=>⟨hb,same b (.inr (.inl hb))⟩,fun k blk hk=>⟨blk,hk,Nat.le_refl _,fun _ r v hr=>hr.same fun g e hl=>same g (.inr (.inr (.inl ⟨k,blk,hk,hl,e⟩)))⟩,rfl⟩
theorem RelAt.abide (h:RelAt E s a w S own C D Ds) (hJ:JOk E.J) {w':World} (same:∀ b,Hang E s S own D Ds b → w'.heap[b]? = w.heap[b]?) (hsz:w.heap.size ≤ w'.heap.size)
  (ho:w'.os = w.os) (ht:w'.tape = w.tape) (hp:w'.output = w.output):RelAt E s a w' S own C D Ds:=by
 have hle:=h.abideLe same
 exact {
  fr:=⟨ho.trans h.fr.os,ht.trans h.fr.tape,hp.trans h.fr.output,Nat.le_trans h.fr.size hsz,fun b hb hx=>(same b (.inl hb)).trans (h.fr.block b hb hx)⟩
  hS:=fun b hb=>⟨Nat.lt_of_lt_of_le (h.hS b hb).1 hsz,(h.hS b hb).2⟩
  hS0:=h.hS0
  hC:=h.hC
  hD:=fun b hb=>Nat.lt_of_lt_of_le (h.hD b hb) hsz
  j:=hJ _ _ _ _ _ h.j (fun b hb=>same b (.inr (.inr (.inr (.inl hb))))) hsz ho ht hp
  hown:=fun k blk g hk hl e=>⟨Nat.lt_of_lt_of_le (h.hown k blk g hk hl e).1 hsz,(h.hown k blk g hk hl e).2⟩
  inj:=h.inj
  heap:=fun k blk hk=>(h.heap k blk hk).mono hle fun g e hl=>same g (.inr (.inr (.inl ⟨k,blk,hk,hl,e⟩)))
  tmps:=fun i=>(h.tmps i).mono hle
  size:=h.size
  defers:=h.defers
  hDs:=fun d hd=>⟨(same d (.inr (.inr (.inr (.inr hd))))).trans (h.hDs d hd).1,(h.hDs d hd).2⟩
  nodup:=h.nodup
  le:=h.le.trans hle
  cd:=h.cd
  fix:=h.fix }
theorem RelAt.notLive (h:RelAt E s a w S own C D Ds) {b:Nat} {o:Obj} (hb:w.heap[b]? = some o) (ho:∀ cs t fr,o ≠ .cells cs t fr) (ho2:(∃ x,o = .deferred x) ∨ ∃ x,o = .loop x):¬ ∃ k,LiveAt s own k b:=by
 rintro ⟨k,blk,hk,hl,e⟩
 have hh:=h.heap k blk hk
 rw [e] at hh
 cases blk <;> first | (simp [Blk.live] at hl; done) | skip
 ·obtain ⟨cs,hcs,_⟩:=hh
  have hcs:w.heap[b]? = _:=hcs
  rw [hb] at hcs; exact ho _ _ _ (Option.some.inj hcs)
 ·obtain ⟨cs,cap,hcs,_⟩:=hh
  have hcs:w.heap[b]? = _:=hcs
  rw [hb] at hcs; exact ho _ _ _ (Option.some.inj hcs)
 ·obtain ⟨o',hcs,hob⟩:=hh
  have hcs:w.heap[b]? = _:=hcs
  rw [hb] at hcs
  cases hcs
  rcases ho2 with ⟨x,rfl⟩ | ⟨x,rfl⟩
  ·exact hob.not.2.1 _ rfl
  ·exact hob.not.2.2 _ rfl
def rEnv (E:Env) (s:St) (w:World) (S1:Nat → Prop) (own:Nat → Option Nat) (C D:Nat → Prop):Env:=
 ⟨E.P,E.n,w,S1,fun b=>(∃ k,LiveAt s own k b) ∨ C b,E.J,E.l,⟨s.H,own,S1,w,E.l⟩,C,D,true⟩
theorem RelAt.round (h:RelAt E s a w S own C D Ds) {S1:Nat → Prop} (hS:∀ b,S b → S1 b) (hS1:∀ b,S1 b → b < w.heap.size ∧ ¬ C b ∧ ¬ ∃ k,LiveAt s own k b) {τ:Nat → AV} {tmps:Array Value} (hsz:tmps.size = E.n)
  (ht:∀ i,R ⟨s.H,own,S1,w,E.l⟩ (τ i) (tmps.getD i undef)):RelAt (rEnv E s w S1 own C D) ⟨τ,s.H,s.g⟩ { tmps:=tmps,defers:=[] } w S1 own C D []:=by
 have hle:(ctx E s w S own).le ⟨s.H,own,S1,w,E.l⟩:=⟨fun b hb=>⟨hS b hb,rfl⟩,fun k blk hk=>⟨blk,hk,Nat.le_refl _,fun _ r v hr=>hr⟩,rfl⟩
 exact {
  fr:=⟨rfl,rfl,rfl,Nat.le_refl _,fun _ _ _=>rfl⟩
  hS:=fun b hb=>⟨(hS1 b hb).1,(hS1 b hb).2.1,.inl hb⟩
  hS0:=fun b hb=>hb
  hC:=fun b hb=>⟨(h.hC b hb).1,.inl (.inr hb)⟩
  hD:=h.hD
  j:=h.j
  hown:=fun k blk g hk hl e=>⟨(h.hown k blk g hk hl e).1,fun hs=>(hS1 g hs).2.2 ⟨k,blk,hk,hl,e⟩,(h.hown k blk g hk hl e).2.2.1,.inl (.inl ⟨k,blk,hk,hl,e⟩)⟩
  inj:=h.inj
  heap:=fun k blk hk=>(h.heap k blk hk).mono hle fun _ _ _=>rfl
  tmps:=ht
  size:=hsz
  defers:=rfl
  hDs:=fun d hd=>by simp at hd
  nodup:=List.nodup_nil
  le:=.refl _
  cd:=⟨fun b hb=>hb,fun b hb=>.inl hb,fun b hb=>hb,fun b hb=>.inl hb⟩
  fix:=fun _=>rfl }
theorem RelAt.rebase (h:RelAt E s a w S own C D Ds) {S1:Nat → Prop} (hS:∀ b,S b → S1 b) (hS1:∀ b,S1 b → E.T b ∧ b ∉ Ds) {s2:St} {a2:Act} {w2:World} {S2:Nat → Prop} {own2:Nat → Option Nat} {C2 D2:Nat → Prop}
  (h2:RelAt (rEnv E s w S1 own C D) s2 a2 w2 S2 own2 C2 D2 []):RelAt E ⟨s.τ,s2.H,s2.g⟩ a w2 S2 own2 C2 D2 Ds ∧ (ctx E s w S own).le ⟨s2.H,own2,S2,w2,E.l⟩:=by
 have hle:(ctx E s w S own).le ⟨s2.H,own2,S2,w2,E.l⟩:=by
  refine Ctx.le.trans (B:=⟨s.H,own,S1,w,E.l⟩) ?_ h2.le
  exact ⟨fun b hb=>⟨hS b hb,rfl⟩,fun k blk hk=>⟨blk,hk,Nat.le_refl _,fun _ r v hr=>hr⟩,rfl⟩
 have hX:∀ b,((∃ k,LiveAt s own k b) ∨ C b) → E.X0 b ∨ E.w0.heap.size ≤ b:=fun b hb=>by
  rcases hb with ⟨k,blk,hk,hl,e⟩ | hb
  ·exact (h.hown k blk b hk hl e).2.2.2
  ·exact (h.hC b hb).2
 have hw0:=h.fr.size
 have hsz:w.heap.size ≤ w2.heap.size:=h2.fr.size
 have hDs1:∀ d ∈ Ds,d < w.heap.size ∧ ¬ ((∃ k,LiveAt s own k d) ∨ C d):=fun d hd=>by
  obtain ⟨g1,g2,g3,g4⟩:=h.hDs d hd
  refine ⟨(Array.getElem?_eq_some_iff.1 g1).1,fun hx=>?_⟩
  rcases hx with hx | hx
  ·exact h.notLive g1 (fun _ _ _ e=>by cases e) (.inl ⟨_,rfl⟩) hx
  ·exact g4 (h.hC d hx).1
 refine ⟨?_,hle⟩
 exact {
  fr:=⟨h2.fr.os.trans h.fr.os,h2.fr.tape.trans h.fr.tape,h2.fr.output.trans h.fr.output,Nat.le_trans hw0 hsz,fun b hb hx=>(h2.fr.block b (Nat.lt_of_lt_of_le hb hw0) fun hy=>(hX b hy).elim hx fun h=>by omega).trans (h.fr.block b hb hx)⟩
  hS:=fun b hb=>by
   obtain ⟨q1,q2,q3⟩:=h2.hS b hb
   refine ⟨q1,q2,?_⟩
   rcases q3 with q3 | q3 | q3
   ·exact (hS1 b q3).1
   ·exact .inr (hX b q3)
   ·have q3:w.heap.size ≤ b:=q3
    exact .inr (.inr (by omega))
  hS0:=fun b hb=>h2.hS0 b (hS b (h.hS0 b hb))
  hC:=fun b hb=>by
   refine ⟨(h2.hC b hb).1,?_⟩
   rcases h2.cd.c1 b hb with q | q
   ·exact (h.hC b q).2
   ·have q:w.heap.size ≤ b:=q
    exact .inr (by omega)
  hD:=h2.hD
  j:=h2.j
  hown:=fun k blk g hk hl e=>by
   obtain ⟨q1,q2,q3,q4⟩:=h2.hown k blk g hk hl e
   refine ⟨q1,q2,q3,?_⟩
   rcases q4 with q4 | q4
   ·exact hX g q4
   ·have q4:w.heap.size ≤ g:=q4
    exact .inr (by omega)
  inj:=h2.inj
  heap:=h2.heap
  tmps:=fun i=>(h.tmps i).mono hle
  size:=h.size
  defers:=h.defers
  hDs:=fun d hd=>by
   obtain ⟨g1,g2,g3,g4⟩:=h.hDs d hd
   obtain ⟨q1,q2⟩:=hDs1 d hd
   refine ⟨(h2.fr.block d q1 q2).trans g1,g2,fun hs=>?_,fun hdd=>?_⟩
   ·rcases (h2.hS d hs).2.2 with q | q | q
    ·exact (hS1 d q).2 hd
    ·exact q2 q
    ·have q:w.heap.size ≤ d:=q
     omega
   ·rcases h2.cd.d1 d hdd with q | q | q | q
    ·exact g4 q
    ·exact (hS1 d q).2 hd
    ·exact q2 q
    ·have q:w.heap.size ≤ d:=q
     omega
  nodup:=h.nodup
  le:=h.le.trans hle
  cd:=by
   refine ⟨fun b hb=>h2.cd.c0 b (h.cd.c0 b hb),fun b hb=>?_,fun b hb=>h2.cd.d0 b (h.cd.d0 b hb),fun b hb=>?_⟩
   ·rcases h2.cd.c1 b hb with q | q
    ·exact h.cd.c1 b q
    ·have q:w.heap.size ≤ b:=q
     exact .inr (by omega)
   ·rcases h2.cd.d1 b hb with q | q | q | q
    ·exact h.cd.d1 b q
    ·exact .inr (hS1 b q).1
    ·exact .inr (.inr (hX b q))
    ·have q:w.heap.size ≤ b:=q
     exact .inr (.inr (.inr (by omega)))
  fix:=h.fix }
theorem RelAt.pushMark (h:RelAt E s a w S own C D Ds) (hE:E.fixed = false) {d:Nat} (hd:w.heap[d]? = some (.deferred (some []))) (h0:E.w0.heap.size ≤ d) (h1:¬ S d) (h2:¬ D d) (h3:d ∉ Ds) :
  RelAt E s { a with defers:={ target:=.collected d,args:=#[] } :: a.defers } w S own C D (d :: Ds):=
 { h with
  tmps:=h.tmps
  size:=h.size
  defers:=by simp [h.defers]
  hDs:=fun d' hd'=>by
   rcases List.mem_cons.1 hd' with rfl | hd'
   ·exact ⟨hd,h0,h1,h2⟩
   ·exact h.hDs d' hd'
  nodup:=List.nodup_cons.2 ⟨h3,h.nodup⟩
  fix:=fun e=>by rw [hE] at e; cases e }
end
def setP (τ:Nat → AV):List Nat → List AV → (Nat → AV)
 | p :: ps,x :: xs=>setP (upd τ p x) ps xs
 | _,_=>τ
def hle (H H':Heap):Prop:=∀ k,H' k = H k ∨ ∃ v,H' k = some (.dead v) ∧ ∀ b,H k = some b → b.ver ≤ v
def roundK (Φ:Exit → St → Prop) (τ:Nat → AV) (g:G) (I:Heap → Prop):Exit → St → Prop
 | .normal,s=>s.g = g ∧ ∃ H',hle s.H H' ∧ I H'
 | .ret,s=>s.g = g ∧ Φ .ret ⟨τ,s.H,g⟩
 | .exit id,s=>s.g = g ∧ Φ (.exit id) ⟨τ,s.H,g⟩
 | .goto l,s=>s.g = g ∧ Φ (.goto l) ⟨τ,s.H,g⟩
 | _,_=>False
def jumpOf:Exit → Option Code
 | .ret=>some .ret
 | .exit id=>some (.exit id)
 | .goto l=>some (.goto l)
 | _=>none
structure St.le (s s':St):Prop where
 τ:∀ i,s'.τ i = s.τ i ∨ s'.τ i = .any
 H:∀ k,s'.H k = s.H k ∨ (∃ v,s'.H k = some (.dead v) ∧ ∀ b,s.H k = some b → b.ver ≤ v)
 g:s'.g = s.g
theorem St.le.refl (s:St):s.le s:=⟨fun _=>.inl rfl,fun _=>.inl rfl,rfl⟩
theorem Rel.weakenAt {E:Env} {s s':St} {a:Act} {w:World} {S:Nat → Prop} {own:Nat → Option Nat} {C D:Nat → Prop} {Ds:List Nat} (h:RelAt E s a w S own C D Ds) (hle:s.le s') :
  RelAt E s' a w S own C D Ds ∧ (ctx E s w S own).le (ctx E s' w S own):=by
 have hc:(ctx E s w S own).le (ctx E s' w S own):=by
  refine ⟨fun b hb=>⟨hb,rfl⟩,fun k blk hk=>?_,rfl⟩
  rcases hle.H k with e | ⟨v,e,hv⟩
  ·exact ⟨blk,e.trans hk,Nat.le_refl _,fun _ r u hu=>hu⟩
  ·exact ⟨.dead v,e,hv blk hk,fun _ r u hu=>by
    show RefVal w (own k) (.dead v) r u
    cases own k <;> exact trivial⟩
 have hlive:∀ k blk,s'.H k = some blk → blk.live = true → s.H k = some blk:=fun k blk hk hl=>by
  rcases hle.H k with e | ⟨v,e,hv⟩
  ·exact e.symm.trans hk
  ·rw [e] at hk; cases hk; cases hl
 exact ⟨{
  fr:=h.fr
  hS:=h.hS
  hS0:=h.hS0
  hC:=h.hC
  hD:=h.hD
  j:=hle.g ▸ h.j
  hown:=fun k blk g hk hl e=>h.hown k blk g (hlive k blk hk hl) hl e
  inj:=fun k k' b b' g hk hk' hl hl' e e'=>h.inj k k' b b' g (hlive k b hk hl) (hlive k' b' hk' hl') hl hl' e e'
  heap:=fun k blk hk=>by
   rcases hle.H k with e | ⟨v,e,hv⟩
   ·exact (h.heap k blk (e.symm.trans hk)).mono hc fun _ _ _=>rfl
   ·have hk':s'.H k = some blk:=hk
    rw [e] at hk'
    cases hk'
    cases own k <;> exact trivial
  tmps:=fun i=>by
   rcases hle.τ i with e | e
   ·rw [e]; exact (h.tmps i).mono hc
   ·rw [e]; exact .any _
  size:=h.size
  defers:=h.defers
  hDs:=h.hDs
  nodup:=h.nodup
  le:=h.le.trans hc
  cd:=h.cd
  fix:=h.fix },hc⟩
theorem Rel.weaken {E:Env} {s s':St} {a:Act} {w:World} (h:Rel E s a w) (hle:s.le s'):Rel E s' a w:=by
 obtain ⟨S,own,C,D,Ds,h⟩:=h
 exact ⟨S,own,C,D,Ds,(Rel.weakenAt h hle).1⟩
theorem Rel.weakenAt0 {E:Env} {τ:Nat → AV} {H H':Heap} {g g':G} {a:Act} {w:World} {S:Nat → Prop} {own:Nat → Option Nat} {C D:Nat → Prop} {Ds:List Nat} (h:RelAt E ⟨τ,H,g⟩ a w S own C D Ds) (hle:hle H H') (hg:g = g') :
  RelAt E ⟨τ,H',g'⟩ a w S own C D Ds:=by
 subst hg
 exact (Rel.weakenAt h (s':=⟨τ,H',g⟩) ⟨fun _=>.inl rfl,hle,rfl⟩).1
def cRange (P:Program) (f:AV) (ps:List Nat) (B:(Exit → St → Prop) → St → Prop) (Φ:Exit → St → Prop) (s:St):Prop:=match f with
 | .func fid caps=>∃ (xs:List (List AV)) (rt rf:AV) (I:List (List AV) → Heap → Prop) (H0:Heap),closedL caps = true ∧ SpecY P fid (.yld :: caps) xs rt rf ∧ hle s.H H0 ∧ I xs H0 ∧
   (∀ args rest H,I (args :: rest) H → args.length = ps.length ∧ B (roundK Φ s.τ s.g (I rest)) ⟨setP s.τ ps args,H,s.g⟩) ∧ ∀ H,I [] H → Φ .normal ⟨s.τ,H,s.g⟩
 | _=>False
@[congr] theorem cRange_congr {P:Program} {f f':AV} {ps:List Nat} {B:(Exit → St → Prop) → St → Prop} {Φ:Exit → St → Prop} {s s':St} (h:f = f') (h2:s = s'):cRange P f ps B Φ s = cRange P f' ps B Φ s':=by rw [h,h2]
section
variable {E : Env}
theorem R_setP {C:Ctx} {n:Nat}:∀ (ps:List Nat) (xs:List AV) (vs:List Value) (τ:Nat → AV) (tmps:Array Value),(∀ p ∈ ps,p < n) → xs.length = ps.length → vs.length = xs.length → tmps.size = n → (∀ i,R C (τ i) (tmps.getD i undef)) →
  (∀ (i:Nat) (x:AV),xs[i]? = some x → R C x (vs.getD i undef)) →
  ((ps.zip vs).foldl (fun t (p,v)=>t.setIfInBounds p v) tmps).size = n ∧ ∀ i,R C (setP τ ps xs i) (((ps.zip vs).foldl (fun t (p,v)=>t.setIfInBounds p v) tmps).getD i undef)
 | [],[],[],τ,tmps,_,_,_,hn,h,_=>⟨hn,h⟩
 | p :: ps,x :: xs,v :: vs,τ,tmps,hp,h1,h2,hn,h,hx=>by
  refine R_setP ps xs vs (upd τ p x) (tmps.setIfInBounds p v) (fun q hq=>hp q (by simp [hq])) (by simpa using h1) (by simpa using h2) (by simpa using hn) (fun i=>?_) fun i y hy=>by simpa using hx (i + 1) y (by simpa using hy)
  have hpn:=hp p (by simp)
  by_cases e:i = p
  ·subst e
   rw [upd_same]
   have:=hx 0 x (by simp)
   simpa [Array.getD_eq_getD_getElem?,hn,hpn] using this
  ·rw [upd_other _ _ _ _ e]
   have:=h i
   simpa [Array.getD_eq_getD_getElem?,Array.getElem?_setIfInBounds_ne (Ne.symm e)] using this
 | [],_ :: _,_,_,_,_,h,_,_,_,_=>by simp at h
 | _ :: _,[],_,_,_,_,h,_,_,_,_=>by simp at h
 | [],[],_ :: _,_,_,_,_,h,_,_,_=>by simp at h
 | _ :: _,_ :: _,[],_,_,_,_,h,_,_,_=>by simp at h
def recOf (fn:FuncId) (tmps:Array Value) (ps:Array Tmp) (assign body:Code) (d:Nat) (st:LoopState) (pe:Option Code):Loop:=
 { state:=st,pending:=pe,fn,tmps,params:=ps,assign,body,defers:=d }
def consJ (E:Env) (τ:Nat → AV) (g:G) (a:Act) (l:Nat) (rec:LoopState → Option Code → Loop) (I:List (List AV) → Heap → Prop) (Φ:Exit → St → Prop):G → (Nat → Prop) → (Nat → Prop) → World → Prop:=fun gi C D w=>
 ∃ H S own Cc Dc Ds,RelAt E ⟨τ,H,g⟩ a w S own Cc Dc Ds ∧ (∀ b,(b = l ∨ Cc b ∨ b ∈ Ds ∨ ∃ k,LiveAt ⟨τ,H,g⟩ own k b) → C b) ∧ (∀ b,Hang E ⟨τ,H,g⟩ S own Dc Ds b → D b) ∧
  E.w0.heap.size ≤ l ∧ ¬ S l ∧ ¬ Dc l ∧ l ∉ Ds ∧ D l ∧
  ((gi.stop = false ∧ w.heap[l]? = some (.loop (rec .ready none)) ∧ I gi.todo H) ∨ (gi.stop = true ∧ ∃ e c,jumpOf e = some c ∧ w.heap[l]? = some (.loop (rec .done (some c))) ∧ Φ e ⟨τ,H,g⟩))
theorem consJ_ok (hJ:JOk E.J) {τ:Nat → AV} {g:G} {a:Act} {l:Nat} {rec:LoopState → Option Code → Loop} {I:List (List AV) → Heap → Prop} {Φ:Exit → St → Prop}:JOk (consJ E τ g a l rec I Φ):=by
 rintro gi C D w w' ⟨H,S,own,Cc,Dc,Ds,h,hC,hD,h0,h1,h2,h3,hDl,hg⟩ same hsz ho ht hp
 refine ⟨H,S,own,Cc,Dc,Ds,h.abide hJ (fun b hb=>same b (hD b hb)) hsz ho ht hp,hC,hD,h0,h1,h2,h3,hDl,?_⟩
 rw [same l hDl]
 exact hg
abbrev thenK (k:St → Prop) (Φ:Exit → St → Prop):Exit → St → Prop
 | .normal,s=>k s
 | e,s=>Φ e s
def post (E:Env) (Φ:Exit → St → Prop):Exit → Act → World → Prop:=fun e a w=>∃ s,Φ e s ∧ Rel E s a w
def Sound (P:Program) (n:Nat) (J:G → (Nat → Prop) → (Nat → Prop) → World → Prop) (l:Nat) (ro:Option Nat) (c:Code) (ic:(Exit → St → Prop) → St → Prop):Prop:=
 ∀ (E:Env) (Φ:Exit → St → Prop) (s:St) (a:Act) (w:World),E.P = P → E.n = n → E.J = J → E.l = l → YOk E.P E.J E.l E.T → ic Φ s → Rel E s a w → c.wpIn (FW ro) 0 E.P (post E Φ) a w
theorem RelAt.hang_lt {s:St} {a:Act} {w:World} {S:Nat → Prop} {own:Nat → Option Nat} {C D:Nat → Prop} {Ds:List Nat} (h:RelAt E s a w S own C D Ds) {b:Nat} (hb:Hang E s S own D Ds b):b < w.heap.size:=by
 rcases hb with hb | hb | ⟨k,blk,hk,hl,e⟩ | hb | hb
 ·exact Nat.lt_of_lt_of_le hb h.fr.size
 ·exact (h.hS b hb).1
 ·exact (h.hown k blk b hk hl e).1
 ·exact h.hD b hb
 ·exact (Array.getElem?_eq_some_iff.1 (h.hDs b hb).1).1
theorem RelAt.putRec {s:St} {a:Act} {w:World} {S:Nat → Prop} {own:Nat → Option Nat} {C D:Nat → Prop} {Ds:List Nat} (h:RelAt E s a w S own C D Ds) (hJ:JOk E.J) {l:Nat} {r:Loop} (hl:w.heap[l]? = some (.loop r))
  (h0:E.w0.heap.size ≤ l) (h1:¬ S l) (h2:¬ D l) (h3:l ∉ Ds) (o:Obj):RelAt E s a (w.putObj l o) S own C D Ds ∧ (ctx E s w S own).le (ctx E s (w.putObj l o) S own):=by
 have hne:∀ b,Hang E s S own D Ds b → (w.putObj l o).heap[b]? = w.heap[b]?:=fun b hb=>World.putObj_heap_other fun e=>by
  subst e
  rcases hb with hb | hb | hb | hb | hb
  ·omega
  ·exact h1 hb
  ·exact h.notLive hl (fun _ _ _ e=>by cases e) (.inr ⟨_,rfl⟩) hb
  ·exact h2 hb
  ·exact h3 hb
 exact ⟨h.abide hJ hne (Nat.le_of_eq World.putObj_size.symm) rfl rfl rfl,h.abideLe hne⟩
theorem consJ_yok (hJ : JOk E.J) (hY : YOk E.P E.J E.l E.T) {τ : Nat → AV} {g : G} {a : Act} {l d : Nat} {fn : FuncId} {ps : Array Tmp} {assign body : Code} {I : List (List AV) → Heap → Prop} {Φ : Exit → St → Prop}
    {ia ib : (Exit → St → Prop) → St → Prop} (ha : Sound E.P E.n E.J E.l (some l) assign ia) (hb : Sound E.P E.n E.J E.l (some l) body ib) (hps : ∀ p ∈ ps.toList, p < E.n)
    (hr : ∀ args rest H, I (args :: rest) H → args.length = ps.toList.length ∧ ia (thenK (ib (roundK Φ τ g (I rest))) fun _ _ => False) ⟨setP τ ps.toList args, H, g⟩) :
    YOk E.P (consJ E τ g a l (recOf fn a.tmps ps assign body d) I Φ) l E.T := by
  rintro args rest C D w S vs ⟨H, Sc, own, Cc, Dc, Ds, h, hC, hD, h0, h1, h2, h3, hDl, hg⟩ hCD hDlt hS hcl hRL
  rcases hg with ⟨_, hrec, hI⟩ | ⟨hst, _⟩
  case inr => cases hst
  obtain ⟨hlen, hwalk⟩ := hr args rest H hI
  have hvl : vs.length = args.length := hRL.1
  refine ⟨fn, _, assign, body, run_yield hrec (by simp [hvl, hlen, recOf]), ?_⟩
  have htm : ((recOf fn a.tmps ps assign body d .ready none).params.zip vs.toArray).foldl (fun tmps (t, a) => tmps.setIfInBounds t a) (recOf fn a.tmps ps assign body d .ready none).tmps = (ps.toList.zip vs).foldl (fun t (p, v) => t.setIfInBounds p v) a.tmps := by
    show (ps.zip vs.toArray).foldl _ a.tmps = _
    rw [← Array.foldl_toList, Array.toList_zip]
  rw [htm]
  -- what is immutable
  have hS1 : ∀ b, (Sc b ∨ S b) → b < w.heap.size ∧ ¬ Cc b ∧ ¬ ∃ k, LiveAt (⟨τ, H, g⟩ : St) own k b := fun b hb => by
    rcases hb with hb | hb
    · exact ⟨(h.hS b hb).1, (h.hS b hb).2.1, fun ⟨k, blk, hk, hl, e⟩ => (h.hown k blk b hk hl e).2.1 hb⟩
    · exact ⟨(hS b hb).1, fun hc => (hS b hb).2.1 (hC b (.inr (.inl hc))), fun hl => (hS b hb).2.1 (hC b (.inr (.inr (.inr hl))))⟩
  have hS1T : ∀ b, (Sc b ∨ S b) → E.T b ∧ b ∉ Ds := fun b hb => by
    rcases hb with hb | hb
    · exact ⟨(h.hS b hb).2.2, fun hd => (h.hDs b hd).2.2.1 hb⟩
    · exact ⟨(hS b hb).2.2, fun hd => (hS b hb).2.1 (hC b (.inr (.inr (.inl hd))))⟩
  have hlS : ¬ (Sc l ∨ S l) := fun hb => hb.elim h1 fun hb => (hS l hb).2.1 (hC l (.inl rfl))
  have hc1 : (ctx E ⟨τ, H, g⟩ w Sc own).le ⟨H, own, fun b => Sc b ∨ S b, w, E.l⟩ := ⟨fun b hb => ⟨.inl hb, rfl⟩, fun k blk hk => ⟨blk, hk, Nat.le_refl _, fun _ r v hr => hr⟩, rfl⟩
  obtain ⟨hsz1, htmps⟩ := R_setP (C := ⟨H, own, fun b => Sc b ∨ S b, w, E.l⟩) ps.toList args vs τ a.tmps hps hlen hvl h.size (fun i => (h.tmps i).mono hc1) fun i x hx => by
    have hx1 := (hRL.2 i x hx).bare E.l (closedL_get hcl hx)
    exact hx1.of_bare _ rfl (fun b hb => .inr hb) rfl
  have hr1 := h.round (S1 := fun b => Sc b ∨ S b) (fun b hb => .inl hb) hS1 hsz1 htmps
  have hTr : ∀ b, (rEnv E ⟨τ, H, g⟩ w (fun b => Sc b ∨ S b) own Cc Dc).T b → E.T b := fun b hb => by
    rcases hb with hb | hb | hb
    · exact (hS1T b hb).1
    · rcases hb with ⟨k, blk, hk, hl, e⟩ | hb
      · exact .inr (h.hown k blk b hk hl e).2.2.2
      · exact .inr (h.hC b hb).2
    · have hb : w.heap.size ≤ b := hb
      have := h.fr.size
      exact .inr (.inr (by omega))
  have hlw : l < w.heap.size := (Array.getElem?_eq_some_iff.1 hrec).1
  have hlX : ¬ ((∃ k, LiveAt (⟨τ, H, g⟩ : St) own k l) ∨ Cc l) := fun hx => hx.elim (h.notLive hrec (fun _ _ _ e => by cases e) (.inr ⟨_, rfl⟩)) fun hc => h2 (h.hC l hc).1
  refine roundIn_of_wpIn trivial ?_
  refine wpIn_mono (ha (rEnv E ⟨τ, H, g⟩ w (fun b => Sc b ∨ S b) own Cc Dc) _ _ _ w rfl rfl rfl rfl (hY.mono hTr) hwalk ⟨_, own, Cc, Dc, [], hr1⟩) ?_
  rintro e a1 w1 ⟨s1, hk1, S1, own1, C1, D1, Ds1, hr2⟩
  cases e with
  | normal =>
    have hDs1 : Ds1 = [] := hr2.fix rfl
    subst hDs1
    obtain ⟨hb1, hle1⟩ := h.rebase (fun b hb => .inl hb) hS1T hr2
    have hrec1 : w1.heap[l]? = some (.loop (recOf fn a.tmps ps assign body d .ready none)) := (hr2.fr.block l hlw hlX).trans hrec
    have hlS1 : ¬ S1 l := fun hs => by
      rcases (hr2.hS l hs).2.2 with q | q | q
      · exact hlS q
      · exact hlX q
      · have q : w.heap.size ≤ l := q
        omega
    have hlD1 : ¬ D1 l := fun hd => by
      rcases hr2.cd.d1 l hd with q | q | q | q
      · exact h2 q
      · exact hlS q
      · exact hlX q
      · have q : w.heap.size ≤ l := q
        omega
    have hD1 : ∀ b, D1 b → b < w1.heap.size := hr2.hD
    obtain ⟨hb2, hle2⟩ := hb1.putRec hJ hrec1 h0 hlS1 hlD1 h3 (.loop (recOf fn a.tmps ps assign body d .busy none))
    refine ⟨w1.putObj l (.loop (recOf fn a.tmps ps assign body d .busy none)), run_beginRound hrec1 rfl, ?_⟩
    obtain ⟨w2, hw2⟩ : ∃ w2, w2 = w1.putObj l (.loop (recOf fn a.tmps ps assign body d .busy none)) := ⟨_, rfl⟩
    rw [← hw2] at hb2 hle2 ⊢
    have hrec2 : w2.heap[l]? = some (.loop (recOf fn a.tmps ps assign body d .busy none)) := by rw [hw2]; exact World.putObj_heap_same (Array.getElem?_eq_some_iff.1 hrec1).1
    have hlw2 : l < w2.heap.size := (Array.getElem?_eq_some_iff.1 hrec2).1
    have hr3 := hb2.round (S1 := S1) (fun b hb => hb) (fun b hb => ⟨(hb2.hS b hb).1, (hb2.hS b hb).2.1, fun ⟨k, blk, hk, hl, e⟩ => (hb2.hown k blk b hk hl e).2.1 hb⟩) (τ := s1.τ) (tmps := a1.tmps) hr2.size (fun i => by
      have := hr2.tmps i
      exact R.mono (C := ctx E s1 w1 S1 own1) hle2 this)
    have hae : a1 = { tmps := a1.tmps, defers := [] } := by
      have := hr2.defers
      cases a1
      simp at this
      subst this
      rfl
    rw [← hae] at hr3
    have hlX2 : ¬ ((∃ k, LiveAt (⟨τ, s1.H, s1.g⟩ : St) own1 k l) ∨ C1 l) := fun hx => hx.elim (hb2.notLive hrec2 (fun _ _ _ e => by cases e) (.inr ⟨_, rfl⟩)) fun hc => hlD1 (hb2.hC l hc).1
    have hTr2 : ∀ b, (rEnv E ⟨τ, s1.H, s1.g⟩ w2 S1 own1 C1 D1).T b → E.T b := fun b hb => by
      rcases hb with hb | hb | hb
      · exact (hb2.hS b hb).2.2
      · rcases hb with ⟨k, blk, hk, hl, e⟩ | hb
        · exact .inr (hb2.hown k blk b hk hl e).2.2.2
        · exact .inr (hb2.hC b hb).2
      · have hb : w2.heap.size ≤ b := hb
        have := hb2.fr.size
        exact .inr (.inr (by omega))
    refine wpIn_mono (hb (rEnv E ⟨τ, s1.H, s1.g⟩ w2 S1 own1 C1 D1) _ s1 a1 w2 rfl rfl rfl rfl (hY.mono hTr2) hk1 ⟨_, own1, C1, D1, [], hr3⟩) ?_
    rintro e a3 w3 ⟨s3, hk3, S3, own3, C3, D3, Ds3, hr4⟩
    have hDs3 : Ds3 = [] := hr4.fix rfl
    subst hDs3
    obtain ⟨hb3, hle3⟩ := hb2.rebase (fun b hb => hb) (fun b hb => ⟨(hb2.hS b hb).2.2, fun hd => (hb2.hDs b hd).2.2.1 hb⟩) hr4
    have hrec3 : w3.heap[l]? = some (.loop (recOf fn a.tmps ps assign body d .busy none)) := (hr4.fr.block l hlw2 hlX2).trans hrec2
    have hlS3 : ¬ S3 l := fun hs => by
      rcases (hr4.hS l hs).2.2 with q | q | q
      · exact hlS1 q
      · exact hlX2 q
      · have q : w2.heap.size ≤ l := q
        omega
    have hlD3 : ¬ D3 l := fun hd => by
      rcases hr4.cd.d1 l hd with q | q | q | q
      · exact hlD1 q
      · exact hlS1 q
      · exact hlX2 q
      · have q : w2.heap.size ≤ l := q
        omega
    have hsz12 : w.heap.size ≤ w1.heap.size := hr2.fr.size
    have hsz2 : w2.heap.size = w1.heap.size := by rw [hw2]; exact World.putObj_size
    have hsz3 : w2.heap.size ≤ w3.heap.size := hr4.fr.size
    -- the round's end, whatever it is
    have fin : ∀ (pe : Option Code) (s4 : St) (st : Bool), s4.H = s4.H → (∃ H4, hle s3.H H4 ∧ s3.g = g ∧
          ((st = false ∧ pe = none ∧ I rest H4) ∨ (st = true ∧ ∃ e c, jumpOf e = some c ∧ pe = some c ∧ Φ e ⟨τ, H4, g⟩))) →
        ∃ v w4, (Instr.endRound l pe).run E.P w3 = .ok v w4 ∧ ∃ b C' D', Ending.returned v = .returned (.bool b) ∧ consJ E τ g a l (recOf fn a.tmps ps assign body d) I Φ ⟨rest, !b⟩ C' D' w4 ∧ Turned w w4 S C D C' D' := by
      rintro pe s4 st _ ⟨H4, hH4, hg4, hcase⟩
      obtain ⟨hb4, hle4⟩ := hb3.putRec hJ hrec3 h0 hlS3 hlD3 h3 (.loop (recOf fn a.tmps ps assign body d (if pe.isNone then .ready else .done) pe))
      obtain ⟨w4, hw4⟩ : ∃ w4, w4 = w3.putObj l (.loop (recOf fn a.tmps ps assign body d (if pe.isNone then .ready else .done) pe)) := ⟨_, rfl⟩
      rw [← hw4] at hb4 hle4
      have hrec4 : w4.heap[l]? = some (.loop (recOf fn a.tmps ps assign body d (if pe.isNone then .ready else .done) pe)) := by rw [hw4]; exact World.putObj_heap_same (Array.getElem?_eq_some_iff.1 hrec3).1
      have hsz4 : w4.heap.size = w3.heap.size := by rw [hw4]; exact World.putObj_size
      have hb5 := (Rel.weakenAt0 hb4 hH4 hg4)
      have hXC : ∀ b, ((∃ k, LiveAt (⟨τ, H, g⟩ : St) own k b) ∨ Cc b) → C b := fun b hb => hC b (hb.elim (fun hb => .inr (.inr (.inr hb))) fun hb => .inr (.inl hb))
      have hX2C : ∀ b, b < w.heap.size → ((∃ k, LiveAt (⟨τ, s1.H, s1.g⟩ : St) own1 k b) ∨ C1 b) → C b := fun b hlt hb => by
        rcases hb with ⟨k, blk, hk, hl, e⟩ | hb
        · rcases (hr2.hown k blk b hk hl e).2.2.2 with q | q
          · exact hXC b q
          · have q : w.heap.size ≤ b := q
            omega
        · rcases hr2.cd.c1 b hb with q | q
          · exact hXC b (.inr q)
          · have q : w.heap.size ≤ b := q
            omega
      refine ⟨.bool pe.isNone, w4, ?_, pe.isNone, fun b => C b ∨ (w.heap.size ≤ b ∧ b < w4.heap.size), fun b => D b ∨ S b ∨ (w.heap.size ≤ b ∧ b < w4.heap.size), rfl, ?_, ?_⟩
      · rw [run_endRound pe hrec3, hw4]; rfl
      · have hnew : ∀ b, w.heap.size ≤ b → b < w4.heap.size → (C b ∨ (w.heap.size ≤ b ∧ b < w4.heap.size)) := fun b q1 q2 => .inr ⟨q1, q2⟩
        have hS3D : ∀ b, S3 b → D b ∨ S b ∨ (w.heap.size ≤ b ∧ b < w4.heap.size) := fun b hb => by
          obtain ⟨q0, _, q⟩ := hr4.hS b hb
          rcases q with q | q | q
          · obtain ⟨p0, _, p⟩ := hr2.hS b q
            rcases p with p | p | p
            · exact p.elim (fun p => .inl (hD b (.inr (.inl p)))) fun p => .inr (.inl p)
            · exact .inl (hCD b (hXC b p))
            · have p : w.heap.size ≤ b := p
              exact .inr (.inr ⟨p, by omega⟩)
          · by_cases hlt : b < w.heap.size
            · exact .inl (hCD b (hX2C b hlt q))
            · exact .inr (.inr ⟨by omega, by omega⟩)
          · have q : w2.heap.size ≤ b := q
            exact .inr (.inr ⟨by omega, by omega⟩)
        have hl3C : ∀ b, (∃ k, LiveAt (⟨τ, s3.H, s3.g⟩ : St) own3 k b) → C b ∨ (w.heap.size ≤ b ∧ b < w4.heap.size) := fun b ⟨k, blk, hk, hl, e⟩ => by
          obtain ⟨q0, _, _, q⟩ := hr4.hown k blk b hk hl e
          by_cases hlt : b < w.heap.size
          · rcases q with q | q
            · exact .inl (hX2C b hlt q)
            · have q : w2.heap.size ≤ b := q
              omega
          · exact .inr ⟨by omega, by omega⟩
        have hl4 : ∀ b, (∃ k, LiveAt (⟨τ, H4, g⟩ : St) own3 k b) → ∃ k, LiveAt (⟨τ, s3.H, s3.g⟩ : St) own3 k b := fun b ⟨k, blk, hk, hl, e⟩ => by
          refine ⟨k, blk, ?_, hl, e⟩
          rcases hH4 k with q | ⟨v, q, _⟩
          · exact q.symm.trans hk
          · have hk : H4 k = some blk := hk
            rw [q] at hk; cases hk; cases hl
        have hC3 : ∀ b, C3 b → C b ∨ (w.heap.size ≤ b ∧ b < w4.heap.size) := fun b hb => by
          have hlt4 : b < w4.heap.size := by rw [hsz4]; exact hb3.hD b (hb3.hC b hb).1
          rcases hr4.cd.c1 b hb with q | q
          · rcases hr2.cd.c1 b q with p | p
            · exact .inl (hXC b (.inr p))
            · have p : w.heap.size ≤ b := p
              exact .inr ⟨p, hlt4⟩
          · have q : w2.heap.size ≤ b := q
            exact .inr ⟨by omega, hlt4⟩
        refine ⟨H4, S3, own3, C3, D3, Ds, hb5, fun b hb => ?_, fun b hb => ?_, h0, hlS3, hlD3, h3, .inl hDl, ?_⟩
        · rcases hb with hb | hb | hb | hb
          · exact .inl (hC b (.inl hb))
          · exact hC3 b hb
          · exact .inl (hC b (.inr (.inr (.inl hb))))
          · exact hl3C b (hl4 b hb)
        · rcases hb with hb | hb | hb | hb | hb
          · exact .inl (hD b (.inl hb))
          · exact hS3D b hb
          · exact (hl3C b (hl4 b hb)).elim (fun q => .inl (hCD b q)) fun q => .inr (.inr q)
          · have hlt4 : b < w4.heap.size := by rw [hsz4]; exact hb3.hD b hb
            rcases hr4.cd.d1 b hb with q | q | q | q
            · rcases hr2.cd.d1 b q with p | p | p | p
              · exact .inl (hD b (.inr (.inr (.inr (.inl p)))))
              · exact p.elim (fun p => .inl (hD b (.inr (.inl p)))) fun p => .inr (.inl p)
              · exact .inl (hCD b (hXC b p))
              · have p : w.heap.size ≤ b := p
                exact .inr (.inr ⟨p, hlt4⟩)
            · obtain ⟨p0, _, p⟩ := hr2.hS b q
              rcases p with p | p | p
              · exact p.elim (fun p => .inl (hD b (.inr (.inl p)))) fun p => .inr (.inl p)
              · exact .inl (hCD b (hXC b p))
              · have p : w.heap.size ≤ b := p
                exact .inr (.inr ⟨p, hlt4⟩)
            · by_cases hlt : b < w.heap.size
              · exact .inl (hCD b (hX2C b hlt q))
              · exact .inr (.inr ⟨by omega, hlt4⟩)
            · have q : w2.heap.size ≤ b := q
              exact .inr (.inr ⟨by omega, hlt4⟩)
          · exact .inl (hD b (.inr (.inr (.inr (.inr hb)))))
        · rcases hcase with ⟨hst, rfl, hI4⟩ | ⟨hst, e, c, hj, rfl, hΦ⟩
          · exact .inl ⟨rfl, hrec4, hI4⟩
          · exact .inr ⟨rfl, e, c, hj, hrec4, hΦ⟩
      · refine ⟨⟨?_, ?_, ?_, by omega, fun b hlt hc => ?_⟩, fun b hb => .inl hb, fun b hb => hb.imp id fun q => q.1, fun b hb => .inl hb, fun b hb => hb.imp id fun q => q.imp id fun q => q.1, fun b hb => hb.elim (fun q => .inl (hCD b q)) fun q => .inr (.inr q), fun b hb => ?_⟩
        · exact (show w4.os = w3.os by rw [hw4]; rfl).trans (hr4.fr.os.trans ((show w2.os = w1.os by rw [hw2]; rfl).trans hr2.fr.os))
        · exact (show w4.tape = w3.tape by rw [hw4]; rfl).trans (hr4.fr.tape.trans ((show w2.tape = w1.tape by rw [hw2]; rfl).trans hr2.fr.tape))
        · exact (show w4.output = w3.output by rw [hw4]; rfl).trans (hr4.fr.output.trans ((show w2.output = w1.output by rw [hw2]; rfl).trans hr2.fr.output))
        · have hbl : b ≠ l := fun e => hc (e ▸ hC l (.inl rfl))
          have e1 : w4.heap[b]? = w3.heap[b]? := by rw [hw4]; exact World.putObj_heap_other hbl
          have e2 : w3.heap[b]? = w2.heap[b]? := hr4.fr.block b (by have : b < w1.heap.size := by omega
                                                                    show b < w2.heap.size
                                                                    omega) fun hx => hc (hX2C b hlt hx)
          have e3 : w2.heap[b]? = w1.heap[b]? := by rw [hw2]; exact World.putObj_heap_other hbl
          have e4 : w1.heap[b]? = w.heap[b]? := hr2.fr.block b hlt fun hx => hc (hXC b hx)
          exact e1.trans (e2.trans (e3.trans e4))
        · rcases hb with q | q | q
          · have := hDlt b q; omega
          · have := (hS b q).1; omega
          · exact q.2
    cases e with
    | normal =>
      obtain ⟨hg3, H', hH', hI'⟩ := hk3
      exact fin none s3 false rfl ⟨H', hH', hg3, .inl ⟨rfl, rfl, hI'⟩⟩
    | ret =>
      obtain ⟨hg3, hΦ⟩ := hk3
      exact fin (some .ret) s3 true rfl ⟨s3.H, fun _ => .inl rfl, hg3, .inr ⟨rfl, .ret, _, rfl, rfl, hΦ⟩⟩
    | exit id =>
      obtain ⟨hg3, hΦ⟩ := hk3
      exact fin (some (.exit id)) s3 true rfl ⟨s3.H, fun _ => .inl rfl, hg3, .inr ⟨rfl, .exit id, _, rfl, rfl, hΦ⟩⟩
    | goto lb =>
      obtain ⟨hg3, hΦ⟩ := hk3
      exact fin (some (.goto lb)) s3 true rfl ⟨s3.H, fun _ => .inl rfl, hg3, .inr ⟨rfl, .goto lb, _, rfl, rfl, hΦ⟩⟩
    | panic ch => exact hk3.elim
    | outgrown => exact hk3.elim
  | _ => exact hk1.elim
theorem rangeFunc_sound (hJ:JOk E.J) (hY:YOk E.P E.J E.l E.T) (hE:E.fixed = false) {f:Operand} {ps:Array Tmp} {assign body:Code} {Φ:Exit → St → Prop} {s:St} {a:Act} {w:World}
  {ia ib:(Exit → St → Prop) → St → Prop} (ha:∀ l,Sound E.P E.n E.J E.l (some l) assign ia) (hb:∀ l,Sound E.P E.n E.J E.l (some l) body ib) (hps:∀ p ∈ ps.toList,p < E.n)
  (h:cRange E.P (ev s.τ f) ps.toList (fun Φ s=>ia (thenK (ib Φ) fun _ _=>False) s) Φ s) (hr:Rel E s a w):(Code.rangeFunc f ps assign body).wpIn (FW none) 0 E.P (post E Φ) a w:=by
 obtain ⟨S,own,C,D,Ds,hr⟩:=hr
 have hfn:=R_ev hr.tmps f
 unfold cRange at h
 split at h
 case h_2=>exact h.elim
 rename_i fid caps hf
 rw [hf] at hfn
 obtain ⟨xs,rt,rf,I,H0,hcl,hsp,hH0,hI0,hround,hend⟩:=h
 generalize hz:a.eval f = z at hfn
 cases hfn with
 | func _ _ us hl hh=>
 refine wpIn_rangeFunc fun fn _=>?_
 obtain ⟨w1,hw1⟩:∃ w1,w1 = (w.alloc (.deferred (some []))).alloc (.loop (recOf fn a.tmps ps assign body w.heap.size .ready none)):=⟨_,rfl⟩
 have hold:∀ b,b < w.heap.size → w1.heap[b]? = w.heap[b]?:=fun b hlt=>by
  rw [hw1,Below.heap_alloc _ _ b (by simp; omega),Below.heap_alloc _ _ b hlt]
 have hszw:w1.heap.size = w.heap.size + 2:=by rw [hw1]; simp
 have hd1:w1.heap[w.heap.size]? = some (.deferred (some [])):=by
  rw [hw1,Below.heap_alloc _ _ w.heap.size (by simp)]
  exact World.alloc_heap_new w _
 have hl1:w1.heap[w.heap.size + 1]? = some (.loop (recOf fn a.tmps ps assign body w.heap.size .ready none)):=by
  have:=World.alloc_heap_new (w.alloc (.deferred (some []))) (.loop (recOf fn a.tmps ps assign body w.heap.size .ready none))
  rw [World.size_alloc] at this
  rw [hw1]; exact this
 have hr0:=(Rel.weakenAt0 (τ:=s.τ) (g:=s.g) (H:=s.H) hr hH0 rfl)
 have hr1:=hr0.abide hJ (w':=w1) (fun b hb=>hold b (hr0.hang_lt hb)) (by omega) (by rw [hw1]; rfl) (by rw [hw1]; rfl) (by rw [hw1]; rfl)
 have hw0:=hr.fr.size
 have hr2:=hr1.pushMark hE hd1 (by omega) (fun hs=>by have:=(hr.hS _ hs).1; omega) (fun hd=>by have:=hr.hD _ hd; omega) (fun hd=>by have:=(Array.getElem?_eq_some_iff.1 (hr.hDs _ hd).1).1; omega)
 obtain ⟨a',ha'⟩:∃ a',a' = { a with defers:=({ target:=.collected w.heap.size,args:=#[] }:Deferred) :: a.defers }:=⟨_,rfl⟩
 rw [← ha'] at hr2
 have hat:a'.tmps = a.tmps:=by rw [ha']
 have hJc:JOk (consJ E s.τ s.g a' (w.heap.size + 1) (recOf fn a'.tmps ps assign body w.heap.size) I Φ):=consJ_ok hJ
 have hYc:=consJ_yok (τ:=s.τ) (g:=s.g) (a:=a') (l:=w.heap.size + 1) (d:=w.heap.size) (fn:=fn) (ps:=ps) (I:=I) (Φ:=Φ) hJ hY (ha _) (hb _) hps hround
 let C1:Nat → Prop:=fun b=>b = w.heap.size + 1 ∨ C b ∨ b ∈ w.heap.size :: Ds ∨ ∃ k,LiveAt (⟨s.τ,H0,s.g⟩:St) own k b
 let D1:Nat → Prop:=fun b=>b < w1.heap.size
 have hC1lt:∀ b,C1 b → b < w1.heap.size:=fun b hb=>by
  rcases hb with hb | hb | hb | hb
  ·omega
  ·have:=hr.hD b (hr.hC b hb).1; omega
  ·exact hr2.hang_lt (.inr (.inr (.inr (.inr hb))))
  ·exact hr2.hang_lt (.inr (.inr (.inl hb)))
 have hSC1:∀ b,S b → b < w1.heap.size ∧ ¬ C1 b:=fun b hb=>by
  have h1:=(hr.hS b hb)
  refine ⟨by have:=h1.1; omega,fun hc=>?_⟩
  rcases hc with hc | hc | hc | ⟨k,blk,hk,hl,e⟩
  ·have:=h1.1; omega
  ·exact h1.2.1 hc
  ·exact (hr2.hDs b hc).2.2.1 hb
  ·exact (hr2.hown k blk b hk hl e).2.1 hb
 have hj0:consJ E s.τ s.g a' (w.heap.size + 1) (recOf fn a'.tmps ps assign body w.heap.size) I Φ ⟨xs ++ [],false⟩ C1 D1 w1:=by
  refine ⟨H0,S,own,C,D,w.heap.size :: Ds,hr2,fun b hb=>hb,fun b hb=>hr2.hang_lt hb,by omega,fun hs=>by have:=(hr.hS _ hs).1; omega,fun hd=>by have:=hr.hD _ hd; omega,fun hd=>?_,by show _ < _; omega,.inl ⟨rfl,by rw [hat]; exact hl1,by rw [List.append_nil]; exact hI0⟩⟩
  rcases List.mem_cons.1 hd with hd | hd
  ·omega
  ·have:=(Array.getElem?_eq_some_iff.1 (hr.hDs _ hd).1).1; omega
 have hargs:RL (bare S w1 (w.heap.size + 1)) (.yld :: caps) (.func (.yield (w.heap.size + 1)) #[] #[] :: us):=by
  refine ⟨by simp [hl],fun i x hx=>?_⟩
  cases i with
  | zero=>simp at hx; subst hx; exact .yld
  | succ i=>
   simp only [List.getElem?_cons_succ] at hx
   have hc:=closedL_get hcl hx
   have h1:=R.mono (C:=ctx E s w S own) (C':=ctx E s w1 S own) ⟨fun b hb=>⟨hb,hold b (hr.hS b hb).1⟩,fun k blk hk=>⟨blk,hk,Nat.le_refl _,fun _ r v hv=>hv.same fun g e hl=>hold g (hr.hown k blk g hk hl e).1⟩,rfl⟩ (hh i x hx)
   simpa using h1.bare (w.heap.size + 1) hc
 have hcall:=hsp.calls _ (w.heap.size + 1) [] C1 D1 w1 S _ hJc (hYc.mono fun b hb=>by
  rcases hb with hb | hb | hb
  ·exact (hr.hS b hb).2.2
  ·rcases hb with hb | hb | hb | ⟨k,blk,hk,hl,e⟩
   ·exact .inr (.inr (by omega))
   ·exact .inr (hr.hC b hb).2
   ·exact .inr (.inr (hr2.hDs b hb).2.1)
   ·exact .inr (hr2.hown k blk b hk hl e).2.2.2
  ·exact .inr (.inr (by omega))) hj0 hC1lt (fun b hb=>hb) hSC1 hargs
 refine ⟨w.heap.size + 1,[({ target:=.collected w.heap.size,args:=#[] }:Deferred)],w1,{ target:=.fn (.func fid) us.toArray,args:=#[.func (.yield (w.heap.size + 1)) #[] #[]] },w1,fid,(.func (.yield (w.heap.size + 1)) #[] #[] :: us).toArray,w1,?_,?_,fun _ _=>trivial,?_,fun h=>by simp [FW] at h,?_⟩
 ·have:=run_enterLoop_outer (P:=E.P) (w:=w) fn a.tmps ps assign body
  rw [hw1]
  exact this
 ·unfold resolve
  simp only [hz,Deferred.ofValue,Sem.run_pure]
  simp [Act.eval]
 ·simp only [invoke]
  have e2:#[Value.func (.yield (w.heap.size + 1)) #[] #[]] ++ us.toArray = (Value.func (.yield (w.heap.size + 1)) #[] #[] :: us).toArray:=by
   apply Array.toList_inj.1
   simp
  rw [e2]
  exact hsp.enters _ _
 ·refine hcall.mono fun e w2 ⟨v,C2,D2,he,ht,hfin⟩=>?_
  subst he
  have key:∀ gi,consJ E s.τ s.g a' (w.heap.size + 1) (recOf fn a'.tmps ps assign body w.heap.size) I Φ gi C2 D2 w2 → (gi.stop = false → gi.todo = []) →
    rangePost (FW none) 0 E.P (w.heap.size + 1) (post E Φ) { a with defers:=[({ target:=.collected w.heap.size,args:=#[] }:Deferred)] ++ a.defers } (.returned v) w2:=by
   rintro gi ⟨H,S2,own2,Cc,Dc,Ds2,h,hC,hD,h0,h1,h2,h3,hDl,hg⟩ hgi
   have ea:({ a with defers:=[({ target:=.collected w.heap.size,args:=#[] }:Deferred)] ++ a.defers }:Act) = a':=by rw [ha']; rfl
   rw [ea]
   rcases hg with ⟨hst,hrec,hI⟩ | ⟨hst,e,c,hj,hrec,hΦ⟩
   ·obtain ⟨hq,_⟩:=h.putRec hJ hrec h0 h1 h2 h3 (.loop (recOf fn a'.tmps ps assign body w.heap.size .exhausted none))
    refine ⟨none,w2.putObj (w.heap.size + 1) (.loop (recOf fn a'.tmps ps assign body w.heap.size .exhausted none)),run_endLoop hrec (by simp [recOf]),?_⟩
    rw [hgi hst] at hI
    exact ⟨⟨s.τ,H,s.g⟩,hend H hI,S2,own2,Cc,Dc,Ds2,hq⟩
   ·obtain ⟨hq,_⟩:=h.putRec hJ hrec h0 h1 h2 h3 (.loop (recOf fn a'.tmps ps assign body w.heap.size .exhausted (some c)))
    refine ⟨some c,w2.putObj (w.heap.size + 1) (.loop (recOf fn a'.tmps ps assign body w.heap.size .exhausted (some c))),run_endLoop hrec (by simp [recOf]),?_⟩
    have hp:post E Φ e a' (w2.putObj (w.heap.size + 1) (.loop (recOf fn a'.tmps ps assign body w.heap.size .exhausted (some c)))):=⟨⟨s.τ,H,s.g⟩,hΦ,S2,own2,Cc,Dc,Ds2,hq⟩
    cases e with
    | ret=>cases hj; exact wpIn_ret hp
    | exit id=>cases hj; exact wpIn_exit hp
    | goto lb=>cases hj; exact wpIn_goto hp
    | _=>cases hj
  rcases hfin with ⟨hj,_⟩ | ⟨t,hj,_⟩
  ·exact key _ hj fun _=>rfl
  ·exact key _ hj fun h=>by cases h
end
end Go.Am
namespace Go.Am
open Go.RowKit
abbrev blkK (id:Nat) (Φ:Exit → St → Prop):Exit → St → Prop
 | .exit id',s=>if id' = id then Φ .normal s else Φ (.exit id') s
 | e,s=>Φ e s
abbrev gotoK (J:Nat → St → Prop) (Φ:Exit → St → Prop):Exit → St → Prop
 | .goto l,s=>J l s
 | e,s=>Φ e s
abbrev Pd:=(Exit → St → Prop) → St → Prop
def lookR:List (Nat × ((Nat → St → Prop) → St → Prop)) → Nat → (Nat → St → Prop) → St → Prop
 | [],_,_,_=>False
 | (l,k) :: r,l',J,s=>if l = l' then k J s else lookR r l' J s
def cScope (B:(Nat → St → Prop) → St → Prop) (R:List (Nat × ((Nat → St → Prop) → St → Prop))) (s:St):Prop:=
 ∃ I:Nat → Nat → St → Prop,B (fun l s'=>∃ m s'',s'.le s'' ∧ I l m s'') s ∧ ∀ l m s,I l m s → lookR R l (fun l' s'=>∃ m' s'',m' < m ∧ s'.le s'' ∧ I l' m' s'') s
@[congr] theorem cScope_congr {B:(Nat → St → Prop) → St → Prop} {R:List (Nat × ((Nat → St → Prop) → St → Prop))} {s s':St} (h:s = s'):cScope B R s = cScope B R s':=by rw [h]
theorem cScope_straight {B:(Nat → St → Prop) → St → Prop} {R:List (Nat × ((Nat → St → Prop) → St → Prop))} {s:St} (h:∀ J,B J s):cScope B R s:=
 ⟨fun _ _ _=>False,h _,fun _ _ _ h=>h.elim⟩
noncomputable abbrev awp2 (P:Program) (c:Code):Pd × List (Nat × Pd):=
 Code.rec (motive:=fun _=>Pd × List (Nat × Pd))
  (fun Φ s=>Φ .normal s,[])
  (fun _ ops draw=>(match draw with
   | false=>fun Φ s=>awpOps P ops ops.toList s (Φ .normal)
   | true=>fun Φ s=>awpDrawX P ops s (Φ .normal),[]))
  (fun _ _ ia ib=>(fun Φ s=>ia.1 (thenK (ib.1 Φ) Φ) s,ia.2.map (fun p=>(p.1,fun Φ s=>p.2 (thenK (ib.1 Φ) Φ) s)) ++ ib.2))
  (fun c _ _ ix iy=>(fun Φ s=>condW (ev s.τ c) (ix.1 Φ s) (iy.1 Φ s),[]))
  (fun id _ ic=>(fun Φ s=>ic.1 (blkK id Φ) s,[]))
  (fun _ ic=>(fun Φ s=>∃ (I:Nat → St → Prop) (k:Nat) (s0:St),s.le s0 ∧ I k s0 ∧ ∀ k s,I k s → ic.1 (thenK (fun s'=>∃ k' s'',k' < k ∧ s'.le s'' ∧ I k' s'') Φ) s,[]))
  (fun f ps _ _ ia ib=>(fun Φ s=>cRange P (ev s.τ f) ps.toList (fun Φ s=>ia.1 (thenK (ib.1 Φ) fun _ _=>False) s) Φ s,[]))
  (fun id=>(fun Φ s=>Φ (.exit id) s,[]))
  (fun _ ic=>(fun Φ s=>cScope (fun J s=>ic.1 (gotoK J Φ) s) (ic.2.map fun p=>(p.1,fun J s=>p.2 (gotoK J Φ) s)) s,[]))
  (fun l=>(fun Φ s=>Φ .normal s,[(l,fun Φ s=>Φ .normal s)]))
  (fun l=>(fun Φ s=>Φ (.goto l) s,[]))
  (fun Φ s=>Φ .ret s,[])
  (fun _=>(fun _ _=>False,[]))
  c
noncomputable abbrev awp (P:Program) (c:Code):Pd:=(awp2 P c).1
@[congr] theorem awp_congr {P:Program} {c:Code} {Φ:Exit → St → Prop} {s s':St} (h:s = s'):awp P c Φ s = awp P c Φ s':=by rw [h]
def codeOk (n:Nat):Code → Bool
 | .region _ ops _=>opsOk n ops
 | .seq a b | .cond _ a b=>codeOk n a && codeOk n b
 | .block _ c | .loop c | .scope c=>codeOk n c
 | .rangeFunc _ ps a b=>ps.toList.all (fun p=>decide (p < n)) && (codeOk n a && codeOk n b && (noRange a && noRange b))
 | _=>true
where noRange:Code → Bool
 | .seq a b | .cond _ a b=>noRange a && noRange b
 | .block _ c | .loop c | .scope c=>noRange c
 | .rangeFunc ..=>false
 | _=>true
section
variable {F : Fence} {n : Nat} {P : Program} {Q : Exit → Act → World → Prop} {a : Act} {w : World}
def Exit.jumps (J:Nat → Act → World → Prop) (Q:Exit → Act → World → Prop):Exit → Act → World → Prop
 | .goto l,a,w=>J l a w
 | e,a,w=>Q e a w
theorem stepR_scope {b:Frame} {k:List Item} {cs:List Frame} {c:Code}:step P (lone (b.atR a (.code (.scope c) :: k)) cs w) = .next (lone (b.atR a (.code c :: .inScope c :: k)) cs w):=
 step_lone_go (by simp [stepG,stepG.exec,Frame.atR])
theorem stepR_inScope {b:Frame} {k:List Item} {cs:List Frame} {c:Code}:step P (lone (b.atR a (.inScope c :: k)) cs w) = .next (lone (b.atR a k) cs w):=
 step_lone_go (by simp [stepG,stepG.exec,Frame.atR])
theorem wpIn_scope {c:Code} (J:Nat → Nat → Act → World → Prop) (first:c.wpIn F n P (Exit.jumps (fun l a w=>∃ m,J l m a w) Q) a w)
  (pass:∀ l m a w,J l m a w → ∃ rest,findLabel c l = some rest ∧ rest.wpIn F n P (Exit.jumps (fun l' a' w'=>∃ m',m' < m ∧ J l' m' a' w') Q) a w):(Code.scope c).wpIn F n P Q a w:=by
 intro b k cs hro hb hr
 have h0:(lone (b.atR a (.code (.scope c) :: k)) cs w).fenced P F:=fenced_calm hb hr rfl
 have hexit:∀ id,exitTo id (.inScope c :: k) = exitTo id k:=fun id=>by simp [exitTo]
 have key:∀ m l a w,J l m a w → ∃ rest,findLabel c l = some rest ∧ ∃ e a' w',Q e a' w' ∧ ArrivesIn (Machine.fenced P F) P (lone (b.atR a (.code rest :: .inScope c :: k)) cs w) b k cs e a' w':=by
  intro m
  induction m using Nat.strongRecOn with
  | _ m ih=>
   intro l a w hJ
   obtain ⟨rest,hrest,hw⟩:=pass l m a w hJ
   refine ⟨rest,hrest,?_⟩
   obtain ⟨e,a₁,w₁,hq,harr⟩:=hw b (.inScope c :: k) cs hro hb hr
   cases e with
   | normal=>exact ⟨.normal,a₁,w₁,hq,StepsIn.trans harr (.one (fenced_calm hb hr rfl) stepR_inScope)⟩
   | exit id=>exact ⟨.exit id,a₁,w₁,hq,fun k' hk=>harr.1 k' (by rw [hexit]; exact hk),fun hr' hk=>harr.2 hr' (by rw [hexit]; exact hk)⟩
   | goto l'=>
    obtain ⟨m',hlt,hJ'⟩:=hq
    obtain ⟨rest',hrest',e₂,a₂,w₂,hq₂,harr₂⟩:=ih m' hlt l' a₁ w₁ hJ'
    exact ⟨e₂,a₂,w₂,hq₂,.of_steps (harr.1 _ (by simp [gotoIn,hrest'])) harr₂⟩
   | ret=>exact ⟨_,a₁,w₁,hq,harr⟩
   | panic ch=>exact ⟨_,a₁,w₁,hq,harr⟩
   | outgrown=>exact ⟨_,a₁,w₁,hq,harr⟩
 obtain ⟨e,a₁,w₁,hq,harr⟩:=first b (.inScope c :: k) cs hro hb hr
 cases e with
 | normal=>exact ⟨.normal,a₁,w₁,hq,.head h0 stepR_scope (StepsIn.trans harr (.one (fenced_calm hb hr rfl) stepR_inScope))⟩
 | exit id=>exact ⟨.exit id,a₁,w₁,hq,fun k' hk=>.head h0 stepR_scope (harr.1 k' (by rw [hexit]; exact hk)),fun hr' hk=>let ⟨k₁,h1,h2⟩:=harr.2 hr' (by rw [hexit]; exact hk); ⟨k₁,h1,.head h0 stepR_scope h2⟩⟩
 | goto l'=>
  obtain ⟨m',hJ'⟩:=hq
  obtain ⟨rest',hrest',e₂,a₂,w₂,hq₂,harr₂⟩:=key m' l' a₁ w₁ hJ'
  exact ⟨e₂,a₂,w₂,hq₂,.of_steps (.head h0 stepR_scope (harr.1 _ (by simp [gotoIn,hrest']))) harr₂⟩
 | ret=>exact ⟨_,a₁,w₁,hq,.of_steps (.one h0 stepR_scope) harr⟩
 | panic ch=>exact ⟨_,a₁,w₁,hq,.of_steps (.one h0 stepR_scope) harr⟩
 | outgrown=>exact ⟨_,a₁,w₁,hq,.of_steps (.one h0 stepR_scope) harr⟩
end
def lookP:List (Nat × Pd) → Nat → Option Pd
 | [],_=>none
 | (l,k) :: r,l'=>if l = l' then some k else lookP r l'
theorem lookP_append (a b:List (Nat × Pd)) (l:Nat):lookP (a ++ b) l = (lookP a l).or (lookP b l):=by
 induction a with
 | nil=>simp [lookP]
 | cons p r ih=>
  obtain ⟨i,k⟩:=p
  show (if i = l then some k else lookP (r ++ b) l) = (if i = l then some k else lookP r l).or _
  by_cases e:i = l <;> simp [e,ih]
theorem lookP_map (f:Pd → Pd) (a:List (Nat × Pd)) (l:Nat):lookP (a.map fun p=>(p.1,f p.2)) l = (lookP a l).map f:=by
 induction a with
 | nil=>rfl
 | cons p r ih=>
  obtain ⟨i,k⟩:=p
  show (if i = l then some (f k) else lookP _ l) = (if i = l then some k else lookP r l).map f
  by_cases e:i = l <;> simp [e,ih]
theorem lookR_map (f:Pd → (Nat → St → Prop) → St → Prop) (a:List (Nat × Pd)) {l:Nat} {J:Nat → St → Prop} {s:St} (h:lookR (a.map fun p=>(p.1,f p.2)) l J s):∃ k,lookP a l = some k ∧ f k J s:=by
 induction a with
 | nil=>exact h.elim
 | cons p r ih=>
  obtain ⟨i,k⟩:=p
  have h:if i = l then f k J s else lookR (r.map fun p=>(p.1,f p.2)) l J s:=h
  unfold lookP
  by_cases e:i = l
  ·rw [if_pos e] at h ⊢; exact ⟨k,rfl,h⟩
  ·rw [if_neg e] at h ⊢; exact ih h
def CodeSound (P:Program) (c:Code):Prop:=
 ∀ (E:Env) (ro:Option Nat),E.P = P → JOk E.J → YOk E.P E.J E.l E.T → codeOk E.n c = true → ((E.fixed = false ∧ ro = none) ∨ codeOk.noRange c = true) → ∀ (Φ:Exit → St → Prop) (s:St) (a:Act) (w:World),
  (awp P c Φ s → Rel E s a w → c.wpIn (FW ro) 0 E.P (post E Φ) a w) ∧
  ∀ l rest,findLabel c l = some rest → ∃ k,lookP (awp2 P c).2 l = some k ∧ (k Φ s → Rel E s a w → rest.wpIn (FW ro) 0 E.P (post E Φ) a w)
theorem labels_none {P:Program}:∀ (c:Code) (l:Nat),findLabel c l = none → lookP (awp2 P c).2 l = none
 | .seq a b,l,h=>by
  unfold findLabel at h
  show lookP (((awp2 P a).2.map fun p=>(p.1,fun Φ s=>p.2 (thenK ((awp2 P b).1 Φ) Φ) s)) ++ (awp2 P b).2) l = none
  rw [lookP_append,lookP_map (fun k Φ s=>k (thenK ((awp2 P b).1 Φ) Φ) s)]
  cases ha:findLabel a l with
  | some r=>rw [ha] at h; cases h
  | none=>
   rw [ha] at h
   rw [labels_none a l ha,labels_none b l h]
   rfl
 | .label l',l,h=>by
  unfold findLabel at h
  show lookP [(l',_)] l = none
  unfold lookP
  by_cases e:l' = l
  ·simp [e] at h
  ·rw [if_neg e]; rfl
 | .skip,_,_=>rfl
 | .region _ _ _,_,_=>rfl
 | .cond _ _ _,_,_=>rfl
 | .block _ _,_,_=>rfl
 | .loop _,_,_=>rfl
 | .rangeFunc _ _ _ _,_,_=>rfl
 | .exit _,_,_=>rfl
 | .scope _,_,_=>rfl
 | .goto _,_,_=>rfl
 | .ret,_,_=>rfl
 | .refuse _,_,_=>rfl
theorem code_sound {P:Program}:∀ (c:Code),CodeSound P c
 | .skip,E,ro,hP,hJ,hY,hok,hn,Φ,s,a,w=>⟨fun h hr=>wpIn_skip ⟨s,h,hr⟩,fun l rest h=>by cases h⟩
 | .label l',E,ro,hP,hJ,hY,hok,hn,Φ,s,a,w=>⟨fun h hr=>wpIn_label ⟨s,h,hr⟩,fun l rest h=>by
   unfold findLabel at h
   split at h
   ·rename_i e
    cases h
    have e:l' = l:=by simpa using e
    subst e
    exact ⟨fun Φ s=>Φ .normal s,by show lookP [(l',_)] l' = _; simp [lookP],fun h hr=>wpIn_skip ⟨s,h,hr⟩⟩
   ·cases h⟩
 | .region id ops false,E,ro,hP,hJ,hY,hok,hn,Φ,s,a,w=>⟨fun h hr=>by
   subst hP
   refine wpIn_region (awpIdx_sound hJ hY hok (fun s a w hk hr=>⟨s,hk,hr⟩) _ s a w ?_ hr)
   have:=awpOps_idx ops.toList 0 s (Φ .normal) rfl h
   rwa [Nat.sub_zero,← List.range_eq_range'] at this,fun l rest h=>by cases h⟩
 | .region id ops true,E,ro,hP,hJ,hY,hok,hn,Φ,s,a,w=>⟨fun h hr=>by
   subst hP
   have h:awpDrawX E.P ops s (Φ .normal):=h
   refine wpIn_region_draw fun t=>awpIdx_sound hJ hY hok (fun s a w hk hr=>⟨s,hk,hr⟩) _ s a _ (awpDX_sound h _ t) ?_
   obtain ⟨S,own,C,D,Ds,hr⟩:=hr
   have hg:Grows w { w with drawn:=w.drawn + 1 } fun _=>False:=⟨rfl,rfl,rfl,Nat.le_refl _,fun _ _ _=>rfl⟩
   have:=hr.quiet hJ hg (fun _=>False) (fun _ hb=>hb.elim) (τ':=s.τ) (a':=a) rfl rfl fun hle i=>(hr.tmps i).mono hle
   exact ⟨_,own,C,D,Ds,this⟩,fun l rest h=>by cases h⟩
 | .seq x y,E,ro,hP,hJ,hY,hok,hn,Φ,s,a,w=>by
  simp only [codeOk,Bool.and_eq_true] at hok
  have hnx:(E.fixed = false ∧ ro = none) ∨ codeOk.noRange x = true:=hn.imp id fun h=>by simp only [codeOk.noRange,Bool.and_eq_true] at h; exact h.1
  have hny:(E.fixed = false ∧ ro = none) ∨ codeOk.noRange y = true:=hn.imp id fun h=>by simp only [codeOk.noRange,Bool.and_eq_true] at h; exact h.2
  have then_ok:∀ (z:Code) a w,z.wpIn (FW ro) 0 E.P (post E (thenK (awp P y Φ) Φ)) a w → (Code.seq z y).wpIn (FW ro) 0 E.P (post E Φ) a w:=fun z a w hz=>by
   refine wpIn_seq (wpIn_mono hz ?_)
   rintro e a' w' ⟨s',h',hr'⟩
   cases e with
   | normal=>exact (code_sound y E ro hP hJ hY hok.2 hny Φ s' a' w').1 h' hr'
   | _=>exact ⟨s',h',hr'⟩
  refine ⟨fun h hr=>then_ok x a w ((code_sound x E ro hP hJ hY hok.1 hnx _ s a w).1 h hr),fun l rest h=>?_⟩
  unfold findLabel at h
  show ∃ k,lookP (((awp2 P x).2.map fun p=>(p.1,fun Φ s=>p.2 (thenK ((awp2 P y).1 Φ) Φ) s)) ++ (awp2 P y).2) l = some k ∧ _
  rw [lookP_append,lookP_map (fun k Φ s=>k (thenK ((awp2 P y).1 Φ) Φ) s)]
  cases hx:findLabel x l with
  | some r=>
   rw [hx] at h
   cases h
   obtain ⟨k,hk,hs⟩:=(code_sound x E ro hP hJ hY hok.1 hnx (thenK (awp P y Φ) Φ) s a w).2 l r hx
   exact ⟨_,by rw [hk]; rfl,fun h hr=>then_ok r a w (hs h hr)⟩
  | none=>
   rw [hx] at h
   rw [labels_none x l hx]
   obtain ⟨k,hk,hs⟩:=(code_sound y E ro hP hJ hY hok.2 hny Φ s a w).2 l rest h
   exact ⟨k,by rw [hk]; rfl,hs⟩
 | .cond c x y,E,ro,hP,hJ,hY,hok,hn,Φ,s,a,w=>⟨fun h hr=>by
   simp only [codeOk,Bool.and_eq_true] at hok
   have hnx:(E.fixed = false ∧ ro = none) ∨ codeOk.noRange x = true:=hn.imp id fun h=>by simp only [codeOk.noRange,Bool.and_eq_true] at h; exact h.1
   have hny:(E.fixed = false ∧ ro = none) ∨ codeOk.noRange y = true:=hn.imp id fun h=>by simp only [codeOk.noRange,Bool.and_eq_true] at h; exact h.2
   have hev:∀ b,ev s.τ c = .bool b → a.eval c = .bool b:=fun b hb=>by
    obtain ⟨S,own,C,D,Ds,hr⟩:=hr
    have h1:=R_ev hr.tmps c
    rw [hb] at h1
    generalize a.eval c = z at h1
    cases h1; rfl
   rcases condW_inv h with ⟨hc,h⟩ | ⟨hc,h⟩
   ·exact wpIn_cond_true (hev _ hc) ((code_sound x E ro hP hJ hY hok.1 hnx Φ s a w).1 h hr)
   ·exact wpIn_cond_false (hev _ hc) ((code_sound y E ro hP hJ hY hok.2 hny Φ s a w).1 h hr),fun l rest h=>by cases h⟩
 | .block id c,E,ro,hP,hJ,hY,hok,hn,Φ,s,a,w=>⟨fun h hr=>by
   refine wpIn_block (wpIn_mono ((code_sound c E ro hP hJ hY hok hn _ s a w).1 h hr) ?_)
   rintro e a' w' ⟨s',h',hr'⟩
   cases e with
   | exit id'=>
    unfold blkK at h'
    unfold Exit.inBlock
    dsimp only at h' ⊢
    split
    ·rename_i e
     rw [if_pos e] at h'
     exact ⟨s',h',hr'⟩
    ·rename_i e
     rw [if_neg e] at h'
     exact ⟨s',h',hr'⟩
   | _=>exact ⟨s',h',hr'⟩,fun l rest h=>by cases h⟩
 | .loop c,E,ro,hP,hJ,hY,hok,hn,Φ,s,a,w=>⟨fun h hr=>by
   obtain ⟨I,k,s0,hle,hI,hbody⟩:=h
   have hex:∀ a w,(∃ k s,I k s ∧ Rel E s a w) → ∃ k,(∃ s,I k s ∧ Rel E s a w) ∧ ∀ k',(∃ s,I k' s ∧ Rel E s a w) → k ≤ k':=fun a w ⟨k,hk⟩=>by
    induction k using Nat.strongRecOn with
    | _ k ih=>
     by_cases hm:∃ k',k' < k ∧ ∃ s,I k' s ∧ Rel E s a w
     ·obtain ⟨k',h1,h2⟩:=hm
      exact ih k' h1 h2
     ·exact ⟨k,hk,fun k' hk'=>Nat.le_of_not_lt fun hlt=>hm ⟨k',hlt,hk'⟩⟩
   classical
   let μ:Act → World → Nat:=fun a w=>if h:∃ k s,I k s ∧ Rel E s a w then Classical.choose (hex a w h) else 0
   have hμ:∀ a w (h:∃ k s,I k s ∧ Rel E s a w),(∃ s,I (μ a w) s ∧ Rel E s a w) ∧ ∀ k',(∃ s,I k' s ∧ Rel E s a w) → μ a w ≤ k':=fun a w h=>by
    have:μ a w = Classical.choose (hex a w h):=dif_pos h
    rw [this]
    exact Classical.choose_spec (hex a w h)
   refine wpIn_loop (fun a w=>∃ k s,I k s ∧ Rel E s a w) μ ⟨k,s0,hI,hr.weaken hle⟩ fun a w hI=>?_
   obtain ⟨⟨s1,hI1,hr1⟩,hmin⟩:=hμ a w hI
   refine wpIn_mono ((code_sound c E ro hP hJ hY hok hn _ s1 a w).1 (hbody _ s1 hI1) hr1) ?_
   rintro e a' w' ⟨s',h',hr'⟩
   cases e with
   | normal=>
    obtain ⟨k',s'',hlt,hle',hI'⟩:=h'
    have hI2:∃ k s,I k s ∧ Rel E s a' w':=⟨k',s'',hI',hr'.weaken hle'⟩
    exact ⟨hI2,Nat.lt_of_le_of_lt ((hμ a' w' hI2).2 k' ⟨s'',hI',hr'.weaken hle'⟩) hlt⟩
   | _=>exact ⟨s',h',hr'⟩,fun l rest h=>by cases h⟩
 | .exit id,E,ro,hP,hJ,hY,hok,hn,Φ,s,a,w=>⟨fun h hr=>wpIn_exit ⟨s,h,hr⟩,fun l rest h=>by cases h⟩
 | .goto l',E,ro,hP,hJ,hY,hok,hn,Φ,s,a,w=>⟨fun h hr=>wpIn_goto ⟨s,h,hr⟩,fun l rest h=>by cases h⟩
 | .ret,E,ro,hP,hJ,hY,hok,hn,Φ,s,a,w=>⟨fun h hr=>wpIn_ret ⟨s,h,hr⟩,fun l rest h=>by cases h⟩
 | .refuse _,E,ro,hP,hJ,hY,hok,hn,Φ,s,a,w=>⟨fun h _=>h.elim,fun l rest h=>by cases h⟩
 | .scope c,E,ro,hP,hJ,hY,hok,hn,Φ,s,a,w=>⟨fun h hr=>by
   obtain ⟨I,hfirst,hpass⟩:=h
   refine wpIn_scope (fun l m a w=>∃ s,I l m s ∧ Rel E s a w) (wpIn_mono ((code_sound c E ro hP hJ hY hok hn _ s a w).1 hfirst hr) ?_) ?_
   ·rintro e a' w' ⟨s',h',hr'⟩
    cases e with
    | goto l=>
     obtain ⟨m,s'',hle,hI⟩:=h'
     exact ⟨m,s'',hI,hr'.weaken hle⟩
    | _=>exact ⟨s',h',hr'⟩
   ·rintro l m a w ⟨s,hI,hr⟩
    have h1:=hpass l m s hI
    obtain ⟨k,hk,h2⟩:=lookR_map (fun k J s=>k (gotoK J Φ) s) _ h1
    cases hf:findLabel c l with
    | none=>rw [labels_none c l hf] at hk; cases hk
    | some rest=>
     refine ⟨rest,rfl,?_⟩
     obtain ⟨k',hk',hs⟩:=(code_sound c E ro hP hJ hY hok hn (gotoK (fun l' s'=>∃ m' s'',m' < m ∧ s'.le s'' ∧ I l' m' s'') Φ) s a w).2 l rest hf
     rw [hk] at hk'
     cases hk'
     refine wpIn_mono (hs h2 hr) ?_
     rintro e a' w' ⟨s',h',hr'⟩
     cases e with
     | goto l'=>
      obtain ⟨m',s'',hlt,hle,hI'⟩:=h'
      exact ⟨m',hlt,s'',hI',hr'.weaken hle⟩
     | _=>exact ⟨s',h',hr'⟩,fun l rest h=>by cases h⟩
 | .rangeFunc f ps x y,E,ro,hP,hJ,hY,hok,hn,Φ,s,a,w=>⟨fun h hr=>by
   simp only [codeOk,Bool.and_eq_true] at hok
   obtain ⟨hps,⟨hx,hy⟩,hnx,hny⟩:=hok
   rcases hn with ⟨hE,rfl⟩ | hn
   case inr=>cases hn
   subst hP
   have hsx:∀ l,Sound E.P E.n E.J E.l (some l) x (awp E.P x):=fun l E' Φ s a w e1 e2 e3 e4 hY' h hr=>by
    rw [← e1] at h
    exact (code_sound x E' (some l) rfl (by rw [e3]; exact hJ) hY' (by rw [e2]; exact hx) (.inr hnx) Φ s a w).1 h hr
   have hsy:∀ l,Sound E.P E.n E.J E.l (some l) y (awp E.P y):=fun l E' Φ s a w e1 e2 e3 e4 hY' h hr=>by
    rw [← e1] at h
    exact (code_sound y E' (some l) rfl (by rw [e3]; exact hJ) hY' (by rw [e2]; exact hy) (.inr hny) Φ s a w).1 h hr
   exact rangeFunc_sound hJ hY hE hsx hsy (fun p hp=>by simpa using List.all_eq_true.1 hps p hp) h hr,fun l rest h=>by cases h⟩
theorem awp_sound {E:Env} (hJ:JOk E.J) (hY:YOk E.P E.J E.l E.T) (hE:E.fixed = false) (c:Code) (Φ:Exit → St → Prop) (s:St) (a:Act) (w:World) (hok:codeOk E.n c = true) (h:awp E.P c Φ s) (hr:Rel E s a w):c.wpIn (FW none) 0 E.P (post E Φ) a w:=
 (code_sound c E none rfl hJ hY hok (.inl ⟨hE,rfl⟩) Φ s a w).1 h hr
end Go.Am
namespace Go.Am
open Go.RowKit
def resOne (P:Program) (τ:Nat → AV) (H:Heap):ResultVar → Option AV
 | .tmp t=>some (τ t)
 | .cell a t=>ob (szOf P t) fun n=>ob (aggOf P t) fun ag=>rdV H n ag (τ a)
def resAll (P:Program) (τ:Nat → AV) (H:Heap):List ResultVar → Option (List AV)
 | []=>some []
 | r :: rs=>ob (resOne P τ H r) fun v=>ob (resAll P τ H rs) fun vs=>some (v :: vs)
def resV (P:Program) (τ:Nat → AV) (H:Heap):List ResultVar → Option AV
 | [r]=>resOne P τ H r
 | rs=>ob (resAll P τ H rs) fun vs=>some (.tup vs)
def retW (P:Program) (rs:List ResultVar) (r:AV) (s:St):Prop:=bindO (resV P s.τ s.H rs) fun v=>closed (pur (frz s.H v) v) = true ∧ pur (frz s.H v) v = r
@[congr] theorem retW_congr {P:Program} {rs:List ResultVar} {r:AV} {s s':St} (h:s = s'):retW P rs r s = retW P rs r s':=by rw [h]
def retK (P:Program) (rs:List ResultVar) (r:AV):Exit → St → Prop
 | .normal,s=>retW P rs r s
 | .ret,s=>retW P rs r s
 | _,_=>False
section
variable {E : Env} {s : St} {a : Act} {w : World} {S : Nat → Prop} {own : Nat → Option Nat} {C D : Nat → Prop} {Ds : List Nat}
def resS (tmps:Array Value):ResultVar → Sem Value
 | .tmp t=>pure (tmps.getD t undef)
 | .cell a t=>do loadVar t (← asAddr (tmps.getD a undef))
theorem results_eq (fn:Func) (tmps:Array Value):results fn tmps = (do let vs ← fn.results.mapM (resS tmps); pure (if h:vs.size = 1 then vs[0] else .tuple vs)):=by
 have e:(fun (r:ResultVar)=>(match r with
  | .tmp t=>pure (tmps.getD t undef)
  | .cell a t=>do loadVar t (← asAddr (tmps.getD a undef)):Sem Value)) = resS tmps:=by
  funext r
  cases r <;> rfl
 rw [← e]
 rfl
theorem RelAt.resOne (h:RelAt E s a w S own C D Ds) {rv:ResultVar} {v:AV} (hr:resOne E.P s.τ s.H rv = some v) :
  ∃ u,(resS a.tmps rv).run E.P w = .ok u w ∧ R (ctx E s w S own) v u:=by
 cases rv with
 | tmp t=>cases hr; exact ⟨_,rfl,h.tmps t⟩
 | cell p t=>
  obtain ⟨n,hn,hr⟩:=ob_eq_some hr
  obtain ⟨ag,ha,hr⟩:=ob_eq_some hr
  obtain ⟨u,h1,h2⟩:=h.rdV (h.tmps p) hn ha hr
  refine ⟨u,?_,h2⟩
  unfold Instr.loadAt Instr.sureAddr at h1
  show (do loadVar t (← asAddr (a.tmps.getD p undef)):Sem Value).run E.P w = _
  obtain ⟨z,hz⟩:∃ z,a.tmps.getD p undef = z:=⟨_,rfl⟩
  rw [hz] at h1 ⊢
  clear hz
  cases z with
  | pointer q=>
   cases q with
   | some q=>
    simp only [Sem.run_bind,Sem.run_pure,Result.andThen_ok] at h1
    simp only [asAddr,Sem.run_bind,Sem.run_pure,Result.andThen_ok,h1]
   | none=>simp at h1
  | _=>simp at h1
theorem RelAt.resAll (h:RelAt E s a w S own C D Ds):∀ {rs:List ResultVar} {vs:List AV},resAll E.P s.τ s.H rs = some vs →
  ∃ us:List Value,(rs.mapM (resS a.tmps)).run E.P w = .ok us w ∧ us.length = vs.length ∧ ∀ (i:Nat) (x:AV),vs[i]? = some x → R (ctx E s w S own) x (us.getD i undef)
 | [],vs,hr=>by cases hr; exact ⟨[],rfl,rfl,fun i x hx=>by simp at hx⟩
 | rv :: rs,vs,hr=>by
  unfold Am.resAll at hr
  obtain ⟨v,hv,hr⟩:=ob_eq_some hr
  obtain ⟨ws,hws,hr⟩:=ob_eq_some hr
  cases hr
  obtain ⟨u,h1,h2⟩:=h.resOne hv
  obtain ⟨us,h3,h4,h5⟩:=h.resAll hws
  refine ⟨u :: us,?_,by simp [h4],fun i x hx=>?_⟩
  ·rw [List.mapM_cons]
   simp only [Sem.run_bind,h1,Result.andThen_ok,h3,Sem.run_pure]
  ·cases i with
   | zero=>simp at hx; subst hx; simpa using h2
   | succ i=>simpa using h5 i x (by simpa using hx)
theorem resAll_length {P:Program} {τ:Nat → AV} {H:Heap}:∀ {rs:List ResultVar} {vs:List AV},Am.resAll P τ H rs = some vs → vs.length = rs.length
 | [],vs,h=>by cases h; rfl
 | r :: rs,vs,h=>by
  unfold Am.resAll at h
  obtain ⟨v,hv,h⟩:=ob_eq_some h
  obtain ⟨ws,hws,h⟩:=ob_eq_some h
  cases h
  simp [resAll_length hws]
theorem RelAt.resV (h:RelAt E s a w S own C D Ds) {fn:Func} {v:AV} (hr:resV E.P s.τ s.H fn.results.toList = some v):∃ u,(results fn a.tmps).run E.P w = .ok u w ∧ R (ctx E s w S own) v u:=by
 obtain ⟨rs,hrs⟩:∃ rs:List ResultVar,fn.results = rs.toArray:=⟨fn.results.toList,by simp⟩
 rw [results_eq,hrs]
 rw [hrs] at hr
 simp only [List.toList_toArray] at hr
 rw [List.mapM_toArray]
 by_cases h1:∃ rv,rs = [rv]
 ·obtain ⟨rv,rfl⟩:=h1
  obtain ⟨u,h2,h3⟩:=h.resOne hr
  refine ⟨u,?_,h3⟩
  simp only [Sem.run_bind,Sem.run_map,List.mapM_cons,List.mapM_nil,h2,Result.andThen_ok,Sem.run_pure]
  rfl
 ·have e:Am.resV E.P s.τ s.H rs = ob (Am.resAll E.P s.τ s.H rs) fun vs=>some (.tup vs):=by
   cases rs with
   | nil=>rfl
   | cons r rs=>cases rs with
    | nil=>exact (h1 ⟨r,rfl⟩).elim
    | cons r' rs=>rfl
  rw [e] at hr
  obtain ⟨vs,hvs,hr⟩:=ob_eq_some hr
  cases hr
  obtain ⟨us,h2,h3,h4⟩:=h.resAll hvs
  refine ⟨.tuple us.toArray,?_,.tup vs us h3 h4⟩
  simp only [Sem.run_bind,Sem.run_map,h2,Result.andThen_ok,Sem.run_pure]
  have hl:us.toArray.size ≠ 1:=by
   intro h5
   have h5:us.length = 1:=h5
   have:=resAll_length hvs
   apply h1
   match rs,this with
   | [r],_=>exact ⟨r,rfl⟩
   | [],h=>simp only [List.length_nil] at h; omega
   | _ :: _ :: _,h=>simp only [List.length_cons] at h; omega
  rw [dif_neg hl]
theorem RelAt.mark {d:Nat} (h:RelAt E s a w S own C D (d :: Ds)) (hJ:JOk E.J) (hE:E.fixed = false):RelAt E s { a with defers:=Ds.map fun d=>{ target:=.collected d,args:=#[] } } (w.putObj d (.deferred none)) S own C D Ds:=by
 obtain ⟨g1,g2,g3,g4⟩:=h.hDs d (by simp)
 have hnd:=List.nodup_cons.1 h.nodup
 have hne:∀ b,b ≠ d → (w.putObj d (.deferred none)).heap[b]? = w.heap[b]?:=fun b hb=>World.putObj_heap_other hb
 have hsz:(w.putObj d (.deferred none)).heap.size = w.heap.size:=World.putObj_size
 have hSd:∀ b,S b → b ≠ d:=fun b hb e=>g3 (e ▸ hb)
 have hDd:∀ b,D b → b ≠ d:=fun b hb e=>g4 (e ▸ hb)
 have hod:∀ k blk g,s.H k = some blk → blk.live = true → own k = some g → g ≠ d:=fun k blk g hk hl e hgd=>by
  subst hgd
  have hh:=h.heap k blk hk
  rw [e] at hh
  cases blk with
  | row ver t sz rows=>obtain ⟨cs,cap',g1',_⟩:=hh; rw [g1] at g1'; cases g1'
  | box ver t cells=>obtain ⟨cs,g1',_⟩:=hh; rw [g1] at g1'; cases g1'
  | obj ver ob=>obtain ⟨o,g1',ho⟩:=hh; rw [g1] at g1'; cases g1'; exact ho.not.2.1 _ rfl
  | _=>cases hl
 have hle:(ctx E s w S own).le (ctx E s (w.putObj d (.deferred none)) S own):=⟨fun b hb=>⟨hb,hne b (hSd b hb)⟩,
  fun k blk hk=>⟨blk,hk,Nat.le_refl _,fun _ r v hr=>hr.same fun g e hl=>hne g (hod k blk g hk hl e)⟩,rfl⟩
 exact {
  fr:=⟨h.fr.os,h.fr.tape,h.fr.output,by rw [hsz]; exact h.fr.size,fun b hb hx=>(hne b (by omega)).trans (h.fr.block b hb hx)⟩
  hS:=fun b hb=>by rw [hsz]; exact h.hS b hb
  hS0:=h.hS0
  hC:=h.hC
  hD:=fun b hb=>by rw [hsz]; exact h.hD b hb
  j:=hJ _ _ _ _ _ h.j (fun b hb=>hne b (hDd b hb)) (Nat.le_of_eq hsz.symm) rfl rfl rfl
  hown:=fun k blk g hk hl e=>by rw [hsz]; exact h.hown k blk g hk hl e
  inj:=h.inj
  heap:=fun k blk hk=>(h.heap k blk hk).mono hle fun g e hl=>hne g (hod k blk g hk hl e)
  tmps:=fun i=>(h.tmps i).mono hle
  size:=h.size
  defers:=rfl
  hDs:=fun d' hd'=>by
   obtain ⟨q1,q2⟩:=h.hDs d' (by simp [hd'])
   exact ⟨(hne d' (fun e=>hnd.1 (e ▸ hd'))).trans q1,q2⟩
  nodup:=hnd.2
  le:=h.le.trans hle
  cd:=h.cd
  fix:=fun e=>by rw [hE] at e; cases e }
theorem RelAt.leaves (hJ:JOk E.J) (hE:E.fixed = false) {fn:Func} {v:AV} {Q:Ending → World → Prop}:∀ {Ds:List Nat} {a:Act} {w:World},RelAt E s a w S own C D Ds → Am.resV E.P s.τ s.H fn.results.toList = some v →
  (∀ a w u,RelAt E s a w S own C D [] → R (ctx E s w S own) v u → Q (.returned u) w) → LeavesInM (FW none) 0 E.P fn a.tmps Q (Ds.map fun d=>{ target:=.collected d,args:=#[] }) .returning w
 | [],a,w,h,hr,hQ=>by
  obtain ⟨u,h1,h2⟩:=h.resV hr
  exact ⟨u,h1,hQ a w u h h2⟩
 | d :: Ds,a,w,h,hr,hQ=>by
  obtain ⟨g1,_⟩:=h.hDs d (by simp)
  exact ⟨by simp,.inl ⟨d,_,rfl,run_takeDeferred g1,(h.mark hJ hE).leaves hJ hE hr hQ⟩⟩
end
def argτ (args:List AV):Nat → AV:=fun i=>args.getD i (.tup [])
def noG:G:=⟨[],true⟩
def noJ:G → (Nat → Prop) → (Nat → Prop) → World → Prop:=fun g C D _=>g.stop = true ∧ (∀ b,¬ C b) ∧ ∀ b,¬ D b
theorem noJ_yok (P:Program) (l:Nat) (T:Nat → Prop):YOk P noJ l T:=fun args rest C D w S vs hj=>by cases hj.1
theorem noJ_ok:JOk noJ:=fun _ _ _ _ _ h _ _ _ _ _=>h
theorem Spec.of_awp {P : Program} {f : FuncId} {fn : Func} {c : Code} {args : List AV} {r : AV} {s0 : St} (hle : St.le ⟨argτ args, fun _ => none, noG⟩ s0) (hf : P.funcs[f]? = some fn) (hb : fn.body = some c) (hname : (fn.name == "runtime.NumGoroutine") = false) (hok : codeOk fn.ntmps c = true) (hn : args.length ≤ fn.ntmps)
  (h:awp P c (retK P fn.results.toList r) s0):Spec P f args r where
 enters:=fun as w=>by
  unfold callFunc
  simp only [Sem.run_bind,run_program,Result.andThen_ok,hf,hname,hb]
  simp
 calls:=fun w S l vs hS hvs=>by
  refine callsIn_of_wp_marks hf hb trivial ?_ rfl
  let E:Env:=⟨P,fn.ntmps,w,S,fun _=>False,noJ,l,⟨fun _=>none,fun _=>none,S,w,l⟩,fun _=>False,fun _=>False,false⟩
  have hrel:RelAt E ⟨argτ args,fun _=>none,noG⟩ { tmps:=vs.toArray ++ Array.replicate (fn.ntmps - vs.toArray.size) undef,defers:=[] } w S (fun _=>none) (fun _=>False) (fun _=>False) []:={
   fr:=⟨rfl,rfl,rfl,Nat.le_refl _,fun _ _ _=>rfl⟩
   hS:=fun b hb=>⟨hS b hb,id,.inl hb⟩
   hS0:=fun b hb=>hb
   hC:=fun b hb=>hb.elim
   hD:=fun b hb=>hb.elim
   j:=⟨rfl,fun _ h=>h,fun _ h=>h⟩
   hown:=fun k blk g hk=>by cases hk
   inj:=fun k k' b b' g hk=>by cases hk
   heap:=fun k blk hk=>by cases hk
   tmps:=fun i=>by
    have hlen:=hvs.1
    show R (bare S w l) (args.getD i (.tup [])) _
    rw [Array.getD_eq_getD_getElem?,Array.getElem?_append]
    simp only [List.size_toArray]
    by_cases hi:i < vs.length
    ·rw [if_pos hi,List.getD_eq_getElem?_getD,List.getElem?_eq_getElem (by omega)]
     have:=hvs.2 i args[i] (List.getElem?_eq_getElem (by omega))
     rw [List.getD_eq_getElem?_getD,List.getElem?_eq_getElem hi] at this
     simpa [hi] using this
    ·rw [if_neg hi,List.getD_eq_getElem?_getD,List.getElem?_eq_none (by omega)]
     have hu:((Array.replicate (fn.ntmps - vs.length) undef)[i - vs.length]?).getD undef = undef:=by
      rw [Array.getElem?_replicate]
      split <;> rfl
     rw [hu]
     exact .tup [] [] rfl fun i a hi=>by simp at hi
   size:=by
    have:=hvs.1
    show (vs.toArray ++ Array.replicate (fn.ntmps - vs.toArray.size) undef).size = fn.ntmps
    simp
    omega
   defers:=rfl
   hDs:=fun d hd=>by simp at hd
   nodup:=List.nodup_nil
   le:=.refl _
   cd:=⟨fun _ h=>h,fun _ h=>h.elim,fun _ h=>h,fun _ h=>h.elim⟩
   fix:=fun e=>by cases e }
  refine wpIn_mono (awp_sound (E:=E) noJ_ok (noJ_yok P l _) rfl c _ _ _ w hok h (Rel.weaken ⟨S,_,_,_,[],hrel⟩ hle)) ?_
  have key:∀ s a' w',retW P fn.results.toList r s → Rel E s a' w' →
    LeavesInM (FW none) 0 P fn a'.tmps (fun e w'=>∃ v,e = .returned v ∧ Below w.heap.size w w' ∧ R (bare (fun b=>S b ∨ (w.heap.size ≤ b ∧ b < w'.heap.size)) w' l) r v) a'.defers .returning w':=by
   rintro s a' w' hret hr
   unfold retW at hret
   cases hres:resV P s.τ s.H fn.results.toList with
   | none=>rw [hres] at hret; exact hret.elim
   | some v=>
    rw [hres] at hret
    obtain ⟨hcl,rfl⟩:=hret
    obtain ⟨S',own,C,D,Ds,hr⟩:=hr
    rw [hr.defers]
    refine hr.leaves noJ_ok rfl hres fun a2 w2 u hr3 hu=>⟨u,rfl,?_,?_⟩
    ·exact ⟨hr3.fr.os,hr3.fr.tape,hr3.fr.output,hr3.fr.size,fun k hk=>hr3.fr.block k hk id⟩
    ·obtain ⟨S2,hr4,hle⟩:=frz_ok E s a2 w2 S' own C D [] v hr3
     have h1:=(R.pur (C:=ctx E { s with H:=frz s.H v } w2 S2 own) hr4.heap (hu.mono hle)).bare l hcl
     refine R.mono (C:=bare S2 w2 l) (C':=bare (fun b=>S b ∨ (w.heap.size ≤ b ∧ b < w2.heap.size)) w2 l) ⟨fun b hb=>⟨?_,rfl⟩,fun k blk hk=>(by cases hk),rfl⟩ h1
     show S b ∨ (w.heap.size ≤ b ∧ b < w2.heap.size)
     obtain ⟨q1,_,q2⟩:=hr4.hS b hb
     rcases q2 with q2 | q2 | q2
     ·exact .inl q2
     ·exact q2.elim
     ·exact .inr ⟨q2,q1⟩
  rintro e a' w' ⟨s,hΦ,hr⟩
  cases e with
  | normal=>exact key s a' w' hΦ hr
  | ret=>exact key s a' w' hΦ hr
  | _=>exact hΦ.elim
def retRW (P:Program) (rs:List ResultVar) (t:TypeId) (sz:Nat) (rows:List (List AV)) (s:St):Prop:=(∃ k ver,resV P s.τ s.H rs = some (.ref k ver .o) ∧ s.H k = some (.row ver t sz rows)) ∨ resV P s.τ s.H rs = some .nils ∧ rows = [] ∧ 0 < sz
def retRK (P:Program) (rs:List ResultVar) (t:TypeId) (sz:Nat) (rows:List (List AV)):Exit → St → Prop
 | .normal,s=>retRW P rs t sz rows s
 | .ret,s=>retRW P rs t sz rows s
 | _,_=>False
theorem RowSpec.of_awp {P : Program} {f : FuncId} {fn : Func} {c : Code} {args : List AV} {t : TypeId} {sz : Nat} {rows : List (List AV)} {s0 : St} (hflat : closedLL rows = true) (hle : St.le ⟨argτ args, fun _ => none, noG⟩ s0) (hf : P.funcs[f]? = some fn) (hb : fn.body = some c) (hname : (fn.name == "runtime.NumGoroutine") = false) (hok : codeOk fn.ntmps c = true) (hn : args.length ≤ fn.ntmps)
  (h:awp P c (retRK P fn.results.toList t sz rows) s0):RowSpec P f args t sz rows where
 shut:=hflat
 enters:=fun as w=>by
  unfold callFunc
  simp only [Sem.run_bind,run_program,Result.andThen_ok,hf,hname,hb]
  simp
 calls:=fun w S l vs hS hvs=>by
  refine callsIn_of_wp_marks hf hb trivial ?_ rfl
  let E:Env:=⟨P,fn.ntmps,w,S,fun _=>False,noJ,l,⟨fun _=>none,fun _=>none,S,w,l⟩,fun _=>False,fun _=>False,false⟩
  have hrel:RelAt E ⟨argτ args,fun _=>none,noG⟩ { tmps:=vs.toArray ++ Array.replicate (fn.ntmps - vs.toArray.size) undef,defers:=[] } w S (fun _=>none) (fun _=>False) (fun _=>False) []:={
   fr:=⟨rfl,rfl,rfl,Nat.le_refl _,fun _ _ _=>rfl⟩
   hS:=fun b hb=>⟨hS b hb,id,.inl hb⟩
   hS0:=fun b hb=>hb
   hC:=fun b hb=>hb.elim
   hD:=fun b hb=>hb.elim
   j:=⟨rfl,fun _ h=>h,fun _ h=>h⟩
   hown:=fun k blk g hk=>by cases hk
   inj:=fun k k' b b' g hk=>by cases hk
   heap:=fun k blk hk=>by cases hk
   tmps:=fun i=>by
    have hlen:=hvs.1
    show R (bare S w l) (args.getD i (.tup [])) _
    rw [Array.getD_eq_getD_getElem?,Array.getElem?_append]
    simp only [List.size_toArray]
    by_cases hi:i < vs.length
    ·rw [if_pos hi,List.getD_eq_getElem?_getD,List.getElem?_eq_getElem (by omega)]
     have:=hvs.2 i args[i] (List.getElem?_eq_getElem (by omega))
     rw [List.getD_eq_getElem?_getD,List.getElem?_eq_getElem hi] at this
     simpa [hi] using this
    ·rw [if_neg hi,List.getD_eq_getElem?_getD,List.getElem?_eq_none (by omega)]
     have hu:((Array.replicate (fn.ntmps - vs.length) undef)[i - vs.length]?).getD undef = undef:=by
      rw [Array.getElem?_replicate]
      split <;> rfl
     rw [hu]
     exact .tup [] [] rfl fun i a hi=>by simp at hi
   size:=by
    have:=hvs.1
    show (vs.toArray ++ Array.replicate (fn.ntmps - vs.toArray.size) undef).size = fn.ntmps
    simp
    omega
   defers:=rfl
   hDs:=fun d hd=>by simp at hd
   nodup:=List.nodup_nil
   le:=.refl _
   cd:=⟨fun _ h=>h,fun _ h=>h.elim,fun _ h=>h,fun _ h=>h.elim⟩
   fix:=fun e=>by cases e }
  refine wpIn_mono (awp_sound (E:=E) noJ_ok (noJ_yok P l _) rfl c _ _ _ w hok h (Rel.weaken ⟨S,_,_,_,[],hrel⟩ hle)) ?_
  have key:∀ s a' w',retRW P fn.results.toList t sz rows s → Rel E s a' w' →
    LeavesInM (FW none) 0 P fn a'.tmps (fun e w'=>∃ v og S',e = .returned v ∧ Below w.heap.size w w' ∧ (∀ g,og = some g → w.heap.size ≤ g ∧ g < w'.heap.size) ∧ HRel (bare S' w' l) og (.row 0 t sz rows) ∧ RefVal w' og (.row 0 t sz rows) .o v ∧ v.oneCell' = true ∧ (∀ b,S' b → S b ∨ (w.heap.size ≤ b ∧ b < w'.heap.size)) ∧ ∀ g,og = some g → ¬ S' g) a'.defers .returning w':=by
   rintro s a' w' (⟨key,ver,hres,hkey⟩ | ⟨hres,hrows,hsz⟩) hr
   ·obtain ⟨S',own,C,D,Ds,hr⟩:=hr
    rw [hr.defers]
    refine hr.leaves noJ_ok rfl hres fun a2 w2 u hr3 hu=>⟨u,own key,S',rfl,?_,fun g eg=>?_,?_,?_⟩
    ·exact ⟨hr3.fr.os,hr3.fr.tape,hr3.fr.output,hr3.fr.size,fun k hk=>hr3.fr.block k hk id⟩
    ·obtain ⟨q1,_,_,q2 | q2⟩:=hr3.hown key _ g hkey rfl eg
     ·exact q2.elim
     ·exact ⟨q2,q1⟩
    ·exact (hr3.heap key _ hkey).shutRow hflat (fun _ h=>h) rfl rfl
    ·cases hu with
     | ref _ _ _ blk _ hb hv hone h=>
      have e:blk = .row ver t sz rows:=by rw [show (ctx E s w2 S' own).H key = some (.row ver t sz rows) from hkey] at hb; exact (Option.some.inj hb).symm
      subst e
      have h:=h rfl
      refine ⟨?_,hone,fun b hb=>?_,fun g eg=>(hr3.hown key _ g hkey rfl eg).2.1⟩
      ·change RefVal w2 (own key) _ _ _ at h
       revert h
       cases own key <;> exact id
      ·obtain ⟨q1,_,q2⟩:=hr3.hS b hb
       rcases q2 with q2 | q2 | q2
       ·exact .inl q2
       ·exact q2.elim
       ·exact .inr ⟨q2,q1⟩
   ·obtain ⟨S',own,C,D,Ds,hr⟩:=hr
    rw [hr.defers]
    refine hr.leaves noJ_ok rfl hres fun a2 w2 u hr3 hu=>⟨u,none,S',rfl,?_,(fun g eg=>by cases eg),⟨hrows,hsz⟩,?_⟩
    ·exact ⟨hr3.fr.os,hr3.fr.tape,hr3.fr.output,hr3.fr.size,fun k hk=>hr3.fr.block k hk id⟩
    ·cases hu
     refine ⟨rfl,rfl,fun b hb=>?_,fun g eg=>by cases eg⟩
     obtain ⟨q1,_,q2⟩:=hr3.hS b hb
     rcases q2 with q2 | q2 | q2
     ·exact .inl q2
     ·exact q2.elim
     ·exact .inr ⟨q2,q1⟩
  rintro e a' w' ⟨s,hΦ,hr⟩
  cases e with
  | normal=>exact key s a' w' hΦ hr
  | ret=>exact key s a' w' hΦ hr
  | _=>exact hΦ.elim
def subA (h:List (Nat × Blk)):List (Nat × Blk) → Prop
 | []=>True
 | (k,b) :: r=>lookB h k = some b ∧ subA h r
theorem lookB_of_subA {h:List (Nat × Blk)}:∀ {h':List (Nat × Blk)} {k:Nat} {b:Blk},subA h h' → lookB h' k = some b → lookB h k = some b
 | [],k,b,_,hk=>by cases hk
 | (j,c) :: r,k,b,hs,hk=>by
  unfold lookB at hk
  by_cases e:j = k
  ·subst e; rw [if_pos rfl] at hk; cases hk; exact hs.1
  ·rw [if_neg e] at hk; exact lookB_of_subA hs.2 hk
theorem hls_le {h h':List (Nat × Blk)} (hs:subA h h') (vs:Nat → Nat) (k:Nat) :
  hls h' (fun k=>ver0 (hls h vs) k) k = hls h vs k ∨ ∃ v,hls h' (fun k=>ver0 (hls h vs) k) k = some (.dead v) ∧ ∀ b,hls h vs k = some b → b.ver ≤ v:=by
 cases e:lookB h' k with
 | some b=>left; rw [hls_some e,hls_some (lookB_of_subA hs e)]
 | none=>
  right
  refine ⟨_,hls_none e,fun b hb=>?_⟩
  unfold ver0
  rw [hb]
  exact Nat.le_refl _
def retHW (P:Program) (rs:List ResultVar) (Q:AV → List (Nat × Blk) → Prop) (s:St):Prop:=
 ∃ (fz:Bool) (v:AV) (L:List (Nat × Blk)) (VS:Nat → Nat) (l':List (Nat × Blk)),resV P s.τ s.H rs = some v ∧ (if fz then frz s.H v else s.H) = hls L VS ∧ subA L l' ∧ Q (if fz then pur (frz s.H v) v else v) l'
def retHK (P:Program) (rs:List ResultVar) (Q:AV → List (Nat × Blk) → Prop):Exit → St → Prop
 | .normal,s=>retHW P rs Q s
 | .ret,s=>retHW P rs Q s
 | _,_=>False
theorem HSpecL.of_awp {P : Program} {f : FuncId} {fn : Func} {c : Code} {args : List AV} {l : List (Nat × Blk)} {Q : AV → List (Nat × Blk) → Prop} (hf : P.funcs[f]? = some fn) (hb : fn.body = some c) (hname : (fn.name == "runtime.NumGoroutine") = false) (hok : codeOk fn.ntmps c = true) (hn : args.length ≤ fn.ntmps)
  (h:∀ vs,∃ s0,St.le ⟨argτ args,hls l vs,noG⟩ s0 ∧ awp P c (retHK P fn.results.toList Q) s0):HSpecL P f args l Q:=fun vs=>{
 enters:=fun as w=>by
  unfold callFunc
  simp only [Sem.run_bind,run_program,Result.andThen_ok,hf,hname,hb]
  simp
 calls:=fun C0 vs0 hH hC hvs=>by
  obtain ⟨s0,hle,h⟩:=h vs
  refine callsIn_of_wp_marks hf hb trivial ?_ rfl
  let E:Env:=⟨P,fn.ntmps,C0.w,C0.S,LiveC C0,noJ,C0.l,C0,fun _=>False,fun _=>False,false⟩
  have hrel:RelAt E ⟨argτ args,hls l vs,noG⟩ { tmps:=vs0.toArray ++ Array.replicate (fn.ntmps - vs0.toArray.size) undef,defers:=[] } C0.w C0.S C0.own (fun _=>False) (fun _=>False) []:={
   fr:=⟨rfl,rfl,rfl,Nat.le_refl _,fun _ _ _=>rfl⟩
   hS:=fun b hb=>⟨hC.hS b hb,id,.inl hb⟩
   hS0:=fun b hb=>hb
   hC:=fun b hb=>hb.elim
   hD:=fun b hb=>hb.elim
   j:=⟨rfl,fun _ h=>h,fun _ h=>h⟩
   hown:=fun k blk g hk hl e=>by
    rw [← hH] at hk
    obtain ⟨q1,q2⟩:=hC.hown k blk g hk hl e
    exact ⟨q1,q2,id,.inl ⟨k,blk,hk,hl,e⟩⟩
   inj:=fun k k' b b' g hk hk'=>by
    rw [← hH] at hk hk'
    exact hC.inj k k' b b' g hk hk'
   heap:=fun k blk hk=>by
    rw [← hH] at hk
    have:=hC.heap k blk hk
    rw [← hH]
    exact this
   tmps:=fun i=>by
    have hlen:=hvs.1
    show R ⟨hls l vs,C0.own,C0.S,C0.w,C0.l⟩ (args.getD i (.tup [])) _
    rw [← hH]
    rw [Array.getD_eq_getD_getElem?,Array.getElem?_append]
    simp only [List.size_toArray]
    by_cases hi:i < vs0.length
    ·rw [if_pos hi,List.getD_eq_getElem?_getD,List.getElem?_eq_getElem (by omega)]
     have:=hvs.2 i args[i] (List.getElem?_eq_getElem (by omega))
     rw [List.getD_eq_getElem?_getD,List.getElem?_eq_getElem hi] at this
     simpa [hi] using this
    ·rw [if_neg hi,List.getD_eq_getElem?_getD,List.getElem?_eq_none (by omega)]
     have hu:((Array.replicate (fn.ntmps - vs0.length) undef)[i - vs0.length]?).getD undef = undef:=by
      rw [Array.getElem?_replicate]
      split <;> rfl
     rw [hu]
     exact .tup [] [] rfl fun i a hi=>by simp at hi
   size:=by
    have:=hvs.1
    show (vs0.toArray ++ Array.replicate (fn.ntmps - vs0.toArray.size) undef).size = fn.ntmps
    simp
    omega
   defers:=rfl
   hDs:=fun d hd=>by simp at hd
   nodup:=List.nodup_nil
   le:=by rw [← hH]; exact .refl _
   cd:=⟨fun _ h=>h,fun _ h=>h.elim,fun _ h=>h,fun _ h=>h.elim⟩
   fix:=fun e=>by cases e }
  refine wpIn_mono (awp_sound (E:=E) noJ_ok (noJ_yok P C0.l _) rfl c _ _ _ C0.w hok h (Rel.weaken ⟨C0.S,_,_,_,[],hrel⟩ hle)) ?_
  have key:∀ s a' w',retHW P fn.results.toList Q s → Rel E s a' w' →
    LeavesInM (FW none) 0 P fn a'.tmps (fun e w'=>∃ v r C',e = .returned v ∧ C'.w = w' ∧ HOk C' ∧ HTr C0 C' ∧ R C' r v ∧ ∃ l' vs',C'.H = hls l' vs' ∧ Q r l') a'.defers .returning w':=by
   rintro s a' w' ⟨fz,v,L,VS,l',hres,hHL,hsub,hQ⟩ hr
   obtain ⟨S',own,C,D,Ds,hr⟩:=hr
   rw [hr.defers]
   refine hr.leaves noJ_ok rfl hres fun a2 w2 u hr3 hu=>?_
   have fin:∀ (s2:St) (S2:Nat → Prop) (r:AV),s2.H = hls L VS → RelAt E s2 a2 w2 S2 own C D [] → R (ctx E s2 w2 S2 own) r u → Q r l' →
     ∃ v r C',Ending.returned u = .returned v ∧ C'.w = w2 ∧ HOk C' ∧ HTr C0 C' ∧ R C' r v ∧ ∃ l' vs',C'.H = hls l' vs' ∧ Q r l':=fun s2 S2 r hH2 hr4 hu4 hq=>by
    have hw:=Rel.weakenAt hr4 (s':={ s2 with H:=hls l' (fun k=>ver0 (hls L VS) k) }) ⟨fun _=>.inl rfl,fun k=>by show hls l' _ k = s2.H k ∨ _; rw [hH2]; exact hls_le hsub VS k,rfl⟩
    obtain ⟨hr5,hc5⟩:=hw
    refine ⟨u,r,⟨hls l' (fun k=>ver0 (hls L VS) k),own,S2,w2,C0.l⟩,rfl,rfl,?_,?_,hu4.mono hc5,l',_,rfl,hq⟩
    ·exact ⟨fun b hb=>(hr5.hS b hb).1,fun k blk g hk hl e=>⟨(hr5.hown k blk g hk hl e).1,(hr5.hown k blk g hk hl e).2.1⟩,hr5.inj,hr5.heap⟩
    ·refine ⟨hr5.le,⟨hr5.fr.os,hr5.fr.tape,hr5.fr.output,hr5.fr.size,hr5.fr.block⟩,fun b hb=>(hr5.hS b hb).2.2,fun k blk g hk hl e=>(hr5.hown k blk g hk hl e).2.2.2⟩
   cases fz with
   | false=>exact fin s S' v hHL hr3 hu hQ
   | true=>
    obtain ⟨S2,hr4,hle⟩:=frz_ok E s a2 w2 S' own C D [] v hr3
    exact fin { s with H:=frz s.H v } S2 _ hHL hr4 (R.pur (C:=ctx E { s with H:=frz s.H v } w2 S2 own) hr4.heap (hu.mono hle)) hQ
  rintro e a' w' ⟨s,hΦ,hr⟩
  cases e with
  | normal=>exact key s a' w' hΦ hr
  | ret=>exact key s a' w' hΦ hr
  | _=>exact hΦ.elim }
def retYW (P:Program) (rs:List ResultVar) (rt rf:AV) (rest:List (List AV)) (s:St):Prop:=
 bindO (resV P s.τ s.H rs) fun v=>(s.g = ⟨rest,false⟩ ∧ v = rt) ∨ (s.g.stop = true ∧ v = rf)
def retYK (P:Program) (rs:List ResultVar) (rt rf:AV) (rest:List (List AV)):Exit → St → Prop
 | .normal,s=>retYW P rs rt rf rest s
 | .ret,s=>retYW P rs rt rf rest s
 | _,_=>False
theorem SpecY.of_awp {P : Program} {f : FuncId} {fn : Func} {c : Code} {args : List AV} {xs : List (List AV)} {rt rf : AV} (hft : flat rt = true) (hff : flat rf = true) (hf : P.funcs[f]? = some fn) (hb : fn.body = some c) (hname : (fn.name == "runtime.NumGoroutine") = false)
  (hok:codeOk fn.ntmps c = true) (hn:args.length ≤ fn.ntmps) (h:∀ rest,∃ s0,St.le ⟨argτ args,fun _=>none,⟨xs ++ rest,false⟩⟩ s0 ∧ awp P c (retYK P fn.results.toList rt rf rest) s0):SpecY P f args xs rt rf where
 enters:=fun as w=>by
  unfold callFunc
  simp only [Sem.run_bind,run_program,Result.andThen_ok,hf,hname,hb]
  simp
 ft:=hft
 ff:=hff
 calls:=fun J l rest C D w S vs hJ hY hj hCD hD hS hvs=>by
  obtain ⟨s0,hle,h⟩:=h rest
  refine callsIn_of_wp_marks hf hb trivial ?_ rfl
  let E:Env:=⟨P,fn.ntmps,w,S,C,J,l,⟨fun _=>none,fun _=>none,S,w,l⟩,C,D,false⟩
  have hrel:RelAt E ⟨argτ args,fun _=>none,⟨xs ++ rest,false⟩⟩ { tmps:=vs.toArray ++ Array.replicate (fn.ntmps - vs.toArray.size) undef,defers:=[] } w S (fun _=>none) C D []:={
   fr:=⟨rfl,rfl,rfl,Nat.le_refl _,fun _ _ _=>rfl⟩
   hS:=fun b hb=>⟨(hS b hb).1,(hS b hb).2,.inl hb⟩
   hS0:=fun b hb=>hb
   hC:=fun b hb=>⟨hCD b hb,.inl hb⟩
   hD:=hD
   j:=hj
   hown:=fun k blk g hk=>by cases hk
   inj:=fun k k' b b' g hk=>by cases hk
   heap:=fun k blk hk=>by cases hk
   tmps:=fun i=>by
    have hlen:=hvs.1
    show R (bare S w l) (args.getD i (.tup [])) _
    rw [Array.getD_eq_getD_getElem?,Array.getElem?_append]
    simp only [List.size_toArray]
    by_cases hi:i < vs.length
    ·rw [if_pos hi,List.getD_eq_getElem?_getD,List.getElem?_eq_getElem (by omega)]
     have:=hvs.2 i args[i] (List.getElem?_eq_getElem (by omega))
     rw [List.getD_eq_getElem?_getD,List.getElem?_eq_getElem hi] at this
     simpa [hi] using this
    ·rw [if_neg hi,List.getD_eq_getElem?_getD,List.getElem?_eq_none (by omega)]
     have hu:((Array.replicate (fn.ntmps - vs.length) undef)[i - vs.length]?).getD undef = undef:=by
      rw [Array.getElem?_replicate]
      split <;> rfl
     rw [hu]
     exact .tup [] [] rfl fun i a hi=>by simp at hi
   size:=by
    have:=hvs.1
    show (vs.toArray ++ Array.replicate (fn.ntmps - vs.toArray.size) undef).size = fn.ntmps
    simp
    omega
   defers:=rfl
   hDs:=fun d hd=>by simp at hd
   nodup:=List.nodup_nil
   le:=.refl _
   cd:=⟨fun _ h=>h,fun _ h=>.inl h,fun _ h=>h,fun _ h=>.inl h⟩
   fix:=fun e=>by cases e }
  refine wpIn_mono (awp_sound (E:=E) hJ hY rfl c _ _ _ w hok h (Rel.weaken ⟨S,_,_,_,[],hrel⟩ hle)) ?_
  have key:∀ s a' w',retYW P fn.results.toList rt rf rest s → Rel E s a' w' →
    LeavesInM (FW none) 0 P fn a'.tmps (fun e w'=>∃ v C' D',e = .returned v ∧ Turned w w' S C D C' D' ∧
     ((J ⟨rest,false⟩ C' D' w' ∧ R (bare S w' l) rt v) ∨ ∃ t,J ⟨t,true⟩ C' D' w' ∧ R (bare S w' l) rf v)) a'.defers .returning w':=by
   rintro s a' w' hret hr
   unfold retYW at hret
   cases hres:resV P s.τ s.H fn.results.toList with
   | none=>rw [hres] at hret; exact hret.elim
   | some v=>
    rw [hres] at hret
    obtain ⟨S',own,C',D',Ds,hr⟩:=hr
    rw [hr.defers]
    refine hr.leaves hJ rfl hres fun a2 w2 u hr3 hu=>⟨u,C',D',rfl,?_,?_⟩
    ·refine ⟨⟨hr3.fr.os,hr3.fr.tape,hr3.fr.output,hr3.fr.size,hr3.fr.block⟩,hr3.cd.c0,hr3.cd.c1,hr3.cd.d0,fun b hb=>?_,fun b hb=>(hr3.hC b hb).1,hr3.hD⟩
     rcases hr3.cd.d1 b hb with q | q | q | q
     ·exact .inl q
     ·exact .inr (.inl q)
     ·exact .inl (hCD b q)
     ·exact .inr (.inr q)
    ·have hj3:J s.g C' D' w2:=hr3.j
     rcases hret with ⟨hg,rfl⟩ | ⟨hg,rfl⟩
     ·exact .inl ⟨hg ▸ hj3,hu.flat hft⟩
     ·refine .inr ⟨s.g.todo,?_,hu.flat hff⟩
      have:(⟨s.g.todo,true⟩:G) = s.g:=by rw [← hg]
      rw [this]
      exact hj3
  rintro e a' w' ⟨s,hΦ,hr⟩
  cases e with
  | normal=>exact key s a' w' hΦ hr
  | ret=>exact key s a' w' hΦ hr
  | _=>exact hΦ.elim
end Go.Am
