import Derived.Test.YtahchfkmpcfefaaGK10
import Derived.Test.YtahchfkmpcfefaaGQ11
set_option linter.unusedVariables false
set_option linter.unusedSimpArgs false
namespace Go.Proofs.Ytahchfkmpcfefaa
open Go Go.Am Go.RowKit
attribute [local simp] W38 W38_rs W38_b1 W38_b2 W41 W41_rs W41_b1 W41_b2 W34 W34_rs W34_b1 W34_b2 W14 W14_rs W37 W37_rs W39 W39_rs W24 W24_rs
structure Evt where
 name:ByteArray
 key:Int
 val:Int
deriving DecidableEq
structure Msg where
 back:Bool
 e:Evt
deriving DecidableEq
structure Opn where
 name:ByteArray
 time:Int
 wait:Int
structure Wi where
 V:List Int
 clock:Int
 O:List (Int × Opn)
 F:List Msg
 A:List Evt
def encV (e:Evt):List AV:=[.str e.name,.int .i64 e.key,.int .i64 e.val]
def encM (m:Msg):List AV:=[.bool m.back,.str m.e.name,.int .i64 m.e.key,.int .i64 m.e.val]
def encO (o:Opn):AV:=.agg [.str o.name,.int .i64 o.time,.int .i64 o.wait]
def mpO (l:List (Int × Opn)):List (AV × AV):=mpI (l.map fun p=>(p.1,encO p.2))
def encW (w:Wi) (vm va:Nat):List AV:=[.sl (Am.encI w.V),.int .i64 w.clock,.ref 101 vm .o,.sl (w.F.map encM),.ref 102 va .o]
def wireL (w:Wi) (v0 vm va:Nat):List (Nat × Blk):=[(100,.box v0 57 (encW w vm va)),(101,.obj vm (.mp .i (mpO w.O))),(102,.row va 30 3 (w.A.map encV))]
@[simp] theorem encV_cell (e:Evt):∀ c ∈ encV e,c.cell = true:=by simp [encV]
@[simp] theorem encM_cell (m:Msg):∀ c ∈ encM m,c.cell = true:=by simp [encM]
@[simp] theorem encV_len (e:Evt):(encV e).length = 3:=rfl
@[simp] theorem encM_len (m:Msg):(encM m).length = 4:=rfl
@[simp] theorem encV_closed (e:Evt):closedL (encV e) = true:=rfl
@[simp] theorem encM_closed (m:Msg):closedL (encM m) = true:=rfl
@[simp] theorem closed_Fs (l:List Msg):closedLL (l.map encM) = true:=closedLL_map encM_closed l
@[simp] theorem closed_As (l:List Evt):closedLL (l.map encV) = true:=closedLL_map encV_closed l
@[simp] theorem okk_M (K:Nat → Bool) (m:Msg):okkL K (encM m) = true:=rfl
@[simp] theorem okk_V (K:Nat → Bool) (e:Evt):okkL K (encV e) = true:=rfl
@[simp] theorem okk_Fs (K:Nat → Bool) (l:List Msg):okkLL K (l.map encM) = true:=okkLL_off K (by simp)
@[simp] theorem okk_As (K:Nat → Bool) (l:List Evt):okkLL K (l.map encV) = true:=okkLL_off K (by simp)
@[simp] theorem okkLL_app (K:Nat → Bool):∀ a b:List (List AV),okkLL K (a ++ b) = (okkLL K a && okkLL K b)
 | [],_=>by simp [okkLL]
 | x :: a,b=>by simp only [List.cons_append,okkLL,okkLL_app K a b,Bool.and_assoc]
@[simp] theorem ren_M (σ:Nat → Nat) (m:Msg):renL σ (encM m) = encM m:=rfl
@[simp] theorem ren_V (σ:Nat → Nat) (e:Evt):renL σ (encV e) = encV e:=rfl
@[simp] theorem renLL_app (σ:Nat → Nat):∀ a b:List (List AV),renLL σ (a ++ b) = renLL σ a ++ renLL σ b
 | [],_=>by simp [renLL]
 | x :: a,b=>by simp only [List.cons_append,renLL,renLL_app σ a b]
theorem rw_clm (l:List Msg) (hl:l.length ≤ 1000000):Am.RowSpec Try.prog 38 [.sl (l.map encM)] 42 4 (l.map encM):=by
 refine Am.RowSpec.of_W (W:=W38) Try.func38 (by kernel_rfl) (by kernel_rfl) (by kernel_rfl) Try.ntmps38 W38_eq (rs:=[.tmp 2]) (by kernel_rfl) (by simp) (by simp) ?_
 intro vs
 simp
 refine sNil_sl _ _ _ _ _ _ ?_ fun e=>?_
 ·simp
  rw [if_pos fun x _=>encM_cell x]
  simp
  rw [decide_eq_true (by omega)]
  simp
  refine retRW_of _ _ _ _ _ _ 5 (vs 5 + 1 + 1) (by simp [resV,resOne]) (by simp)
 ·have e:l = []:=by simpa using e
  subst e
  simp
  exact retRW_nil _ _ _ _ _ (by simp [resV,resOne]) (by omega)
theorem rw_cli (l:List Int) (hl:l.length ≤ 1000000):Am.RowSpec Try.prog 34 [.sl (Am.encI l)] 3 1 (Am.encI l):=by
 refine Am.RowSpec.of_W (W:=W34) Try.func34 (by kernel_rfl) (by kernel_rfl) (by kernel_rfl) Try.ntmps34 W34_eq (rs:=[.tmp 2]) (by kernel_rfl) (by simp) (by simp) ?_
 intro vs
 simp
 refine sNil_sl _ _ _ _ _ _ ?_ fun e=>?_
 ·simp
  rw [if_pos (by simpa using encI_cell l)]
  simp
  rw [decide_eq_true (by omega)]
  simp
  refine retRW_of _ _ _ _ _ _ 5 (vs 5 + 1 + 1) (by simp [resV,resOne]) (by simp)
 ·rw [e]
  simp
  exact retRW_nil _ _ _ _ _ (by simp [resV,resOne]) (by omega)
theorem sp_cli (rows:List (List AV)) (h:∀ x ∈ rows,x.length = 1 ∧ ∀ c ∈ x,c.cell = true) (hc:closedLL rows = true) (hl:rows.length ≤ 1000000):Am.Spec Try.prog 34 [.sl rows] (.sl rows):=by
 refine W34_S (by simp) ?_
 intro vs
 simp
 refine sNil_sl _ _ _ _ _ _ ?_ fun e=>?_
 ·simp
  rw [if_pos h]
  simp
  rw [decide_eq_true (by omega)]
  simp [retW_eq,hc]
 ·subst e
  simp [retW_eq]
theorem hs_new0 (V:List Int) (hV:V.length ≤ 1000000) :
  Am.HSpecL Try.prog 14 [.sl (Am.encI V)] [] fun r l'=>∃ v0 vm,r = .ref 7 v0 (.p 0) ∧ l' = [(5,.obj vm (.mp .i [])),(7,.box v0 57 [.sl (Am.encI V),.int .i64 0,.ref 5 vm .o,.nils,.nils])]:=by
 have h1:=sp_cli (Am.encI V) (encI_cell _) (by simp) (by simpa using hV)
 refine Am.HSpecL.of_W (W:=W14) Try.func14 (by kernel_rfl) (by kernel_rfl) (by kernel_rfl) Try.ntmps14 W14_eq (rs:=[.tmp 2]) (by kernel_rfl) (by simp) ?_
 intro vs
 simp
 refine scall_pure h1 (by simp) (by simp) ?_
 simp
 refine retHW_to [(5,.obj (vs 5 + 1) (.mp .i [])),(7,.box (vs 7 + 1) 57 [.sl (Am.encI V),.int .i64 0,.ref 5 (vs 5 + 1) .o,.nils,.nils])] ?_
 simp
def wireR (w:Wi) (v0 vm va k v:Nat):List (Nat × Blk):=[(100,.box v0 57 [.sl (Am.encI w.V),.int .i64 w.clock,.ref 101 vm .o,.ref k v .o,.ref 102 va .o]),(101,.obj vm (.mp .i (mpO w.O))),(102,.row va 30 3 (w.A.map encV)),(k,.row v 42 4 (w.F.map encM))]
theorem HSpecL.wireF {P:Program} {f:FuncId} {args:List AV} {l:List (Nat × Blk)} {r0:AV} {w:Wi} {v0 vm va k:Nat} (hk:200 ≤ k ∨ k < 100) (h:Am.HSpecL P f args l fun r l'=>∃ v,r = r0 ∧ l' = wireR w v0 vm va k v):Am.HSpecL P f args l fun r l'=>r = r0 ∧ l' = wireL w v0 vm va:=
 Am.HSpecL.looseF h fun r l0 ⟨v,hr,hl⟩=>by
  subst hl
  refine ⟨100,v0,57,_,3,k,v,42,4,w.F.map encM,rfl,rfl,?_,hr,?_⟩
  ·simp [wireR,lookB,show ¬ 100 = k by omega,show ¬ 101 = k by omega,show ¬ 102 = k by omega]
  ·simp [wireR,wireL,encW,insH,dropK,inK,show ¬ 100 = k by omega,show ¬ 101 = k by omega,show ¬ 102 = k by omega]
theorem hs_fly (w:Wi) (b:Bool) (e:Evt) (v0 vm va:Nat) (hF:w.F.length ≤ 100000) :
  Am.HSpecL Try.prog 37 [.ref 100 v0 (.p 0),.bool b,.agg (encV e)] (wireL w v0 vm va) fun r l'=>r = .tup [] ∧ l' = wireL { w with F:=w.F ++ [⟨b,e⟩] } v0 vm va:=by
 refine HSpecL.wireF (k:=11) (by omega) ?_
 have h1:=rw_clm w.F (by omega)
 refine Am.HSpecL.of_W (W:=W37) Try.func37 (by kernel_rfl) (by kernel_rfl) (by kernel_rfl) Try.ntmps37 W37_eq (rs:=[]) (by kernel_rfl) (by simp) ?_
 intro vs
 simp [wireL,encW,encV]
 refine scall0_row h1 (by simp) (by simp) ?_
 simp
 rw [decide_eq_true (by omega)]
 simp
 refine retHW_to (wireR { w with F:=w.F ++ [⟨b,e⟩] } v0 vm va 11 (vs 11 + 1 + 1)) ?_
 simp [wireR,encM]
theorem hs_is (w:Wi) (at_:Int) (v0 vm va:Nat) :
  Am.HSpecL Try.prog 39 [.ref 100 v0 (.p 0),.int .i64 at_] (wireL w v0 vm va) fun r l'=>r = .bool (decide (0 ≤ at_ ∧ at_ < w.F.length)) ∧ l' = wireL w v0 vm va:=by
 refine Am.HSpecL.of_W (W:=W39) Try.func39 (by kernel_rfl) (by kernel_rfl) (by kernel_rfl) Try.ntmps39 W39_eq (rs:=[.tmp 4]) (by kernel_rfl) (by simp) ?_
 intro vs
 by_cases h0:0 ≤ at_
 ·simp [wireL,encW,h0]
  refine retHW_to (wireL w v0 vm va) ?_
  simp [wireL,encW]
 ·simp [wireL,encW,h0]
  refine retHW_to (wireL w v0 vm va) ?_
  simp [wireL,encW]
theorem getM_mpO (l:List (Int × Opn)) (k:Int):getM (.int .i64 k) (mpO l) = (l.find? fun p=>p.1 = k).map fun p=>encO p.2:=by
 induction l with
 | nil=>rfl
 | cons p l ih=>
  simp only [mpO,mpI,List.map_cons,getM,eqK,List.find?_cons] at ih ⊢
  by_cases h:p.1 = k
  ·simp [h]
  ·simp [h]
   simpa using ih
def setO (k:Int) (o:Opn):List (Int × Opn) → List (Int × Opn)
 | []=>[(k,o)]
 | p :: l=>if p.1 = k then (p.1,o) :: l else p :: setO k o l
def delO (k:Int):List (Int × Opn) → List (Int × Opn)
 | []=>[]
 | p :: l=>if p.1 = k then l else p :: delO k l
theorem setM_mpO (k:Int) (o:Opn):∀ l:List (Int × Opn),setM (.int .i64 k) (encO o) (mpO l) = mpO (setO k o l)
 | []=>rfl
 | p :: l=>by
  have ih:=setM_mpO k o l
  simp only [mpO,mpI,List.map_cons,setM,eqK,setO] at ih ⊢
  by_cases h:p.1 = k
  ·simp [h]
  ·simp [h]
   simpa using ih
theorem delM_mpO (k:Int):∀ l:List (Int × Opn),delM (.int .i64 k) (mpO l) = mpO (delO k l)
 | []=>rfl
 | p :: l=>by
  have ih:=delM_mpO k l
  simp only [mpO,mpI,List.map_cons,delM,eqK,delO] at ih ⊢
  by_cases h:p.1 = k
  ·simp [h]
  ·simp [h]
   simpa using ih
theorem hs_fgt (w:Wi) (k:Int) (v0 vm va:Nat) :
  Am.HSpecL Try.prog 24 [.ref 100 v0 (.p 0),.int .i64 k] (wireL w v0 vm va) fun r l'=>r = .tup [] ∧ l' = wireL { w with O:=delO k w.O } v0 vm va:=by
 have hd:=delM_mpO k w.O
 refine Am.HSpecL.of_W (W:=W24) Try.func24 (by kernel_rfl) (by kernel_rfl) (by kernel_rfl) Try.ntmps24 W24_eq (rs:=[]) (by kernel_rfl) (by simp) ?_
 intro vs
 simp [wireL,encW,hd]
 refine retHW_to (wireL { w with O:=delO k w.O } v0 vm va) ?_
 simp [wireL,encW]
end Go.Proofs.Ytahchfkmpcfefaa
namespace Go.Proofs.Ytahchfkmpcfefaa
open Go Go.Am Go.RowKit
attribute [local simp] W17 W17_rs W17_b2 W40 W40_rs W40_k1 W40_k3 W40_b2 W40_b4 W40_b5 W40_b6 W40_l7 W22 W22_rs W22_b1 W22_b4 W23 W23_rs W23_b1 W23_b3 W18 W18_rs
def isO (w:Wi) (k:Int):Bool:=w.O.any fun p=>p.1 = k
def askM (w:Wi) (e:Evt):Wi:=if isO w e.key then w else { w with O:=setO e.key ⟨e.name,w.clock + 1,1⟩ w.O,F:=w.F ++ [⟨false,⟨e.name,e.key,0⟩⟩] }
theorem find_isO (w:Wi) (k:Int):(w.O.find? fun p=>p.1 = k).isSome = isO w k:=by
 rw [isO]
 induction w.O with
 | nil=>rfl
 | cons p l ih=>by_cases h:p.1 = k <;> simp [h] <;> simpa using ih
theorem hs_ask (w:Wi) (e:Evt) (v0 vm va:Nat) (hF:w.F.length ≤ 100000) (hc:-1000000 ≤ w.clock ∧ w.clock ≤ 1000000) :
  Am.HSpecL Try.prog 17 [.ref 100 v0 (.p 0),.agg (encV e)] (wireL w v0 vm va) fun r l'=>r = .tup [] ∧ l' = wireL (askM w e) v0 vm va:=by
 have hg:=getM_mpO w.O e.key
 have hi:=find_isO w e.key
 have hset:=setM_mpO e.key ⟨e.name,w.clock + 1,1⟩ w.O
 have hfl:=fun w':Wi=>fun hF=>hs_fly w' false ⟨e.name,e.key,0⟩ v0 vm va hF
 unfold askM
 cases hb:isO w e.key
 ·rw [hb] at hi
  have hn:(w.O.find? fun p=>p.1 = e.key) = none:=by simpa using hi
  rw [hn] at hg
  have hg:getM (.int .i64 e.key) (mpO w.O) = none:=hg
  have hwr:IntKind.wrap .i64 (w.clock + 1) = w.clock + 1:=wrap64 (by omega) (by omega)
  have hf:=hfl { w with O:=setO e.key ⟨e.name,w.clock + 1,1⟩ w.O } hF
  simp only [encV,wireL,encW] at hf
  simp only [encO] at hset
  refine Am.HSpecL.of_W (W:=W17) Try.func17 (by kernel_rfl) (by kernel_rfl) (by kernel_rfl) Try.ntmps17 W17_eq (rs:=[]) (by kernel_rfl) (by simp) ?_
  intro vs
  simp [wireL,encW,encV,hg,hwr,hset]
  refine scall_heap [(100,100),(101,101),(102,102)] [] hf (by simp) (by simp) (by simp) ?_
  rintro r l' VS' ⟨rfl,rfl⟩
  refine ⟨by simp,?_⟩
  simp
  refine retHW_to (wireL { w with O:=setO e.key ⟨e.name,w.clock + 1,1⟩ w.O,F:=w.F ++ [⟨false,⟨e.name,e.key,0⟩⟩] } v0 vm va) ?_
  simp [wireL,encW]
 ·rw [hb] at hi
  obtain ⟨p,hn⟩:=Option.isSome_iff_exists.1 hi
  rw [hn] at hg
  have hg:getM (.int .i64 e.key) (mpO w.O) = some (encO p.2):=hg
  simp only [encO] at hg
  refine Am.HSpecL.of_W (W:=W17) Try.func17 (by kernel_rfl) (by kernel_rfl) (by kernel_rfl) Try.ntmps17 W17_eq (rs:=[]) (by kernel_rfl) (by simp) ?_
  intro vs
  simp [wireL,encW,encV,hg]
  refine retHW_to (wireL w v0 vm va) ?_
  simp [wireL,encW]
def valM (w:Wi) (e:Evt):Int:=match w.A.find? fun a=>a.key = e.key with
 | some a=>a.val
 | none=>(w.V[w.A.length]?).getD 0
def valW (w:Wi) (e:Evt):Wi:=match w.A.find? fun a=>a.key = e.key with
 | some _=>w
 | none=>{ w with A:=w.A ++ [⟨e.name,e.key,(w.V[w.A.length]?).getD 0⟩] }
def valV (w:Wi) (e:Evt) (va:Nat):Nat:=match w.A.find? fun a=>a.key = e.key with
 | some _=>va
 | none=>va + 1
theorem hs_val (w:Wi) (e:Evt) (v0 vm va:Nat) (hA:w.A.length ≤ 100000) (hV:w.V.length ≤ 100000) :
  Am.HSpecL Try.prog 40 [.ref 100 v0 (.p 0),.agg (encV e)] (wireL w v0 vm va) fun r l'=>r = .int .i64 (valM w e) ∧ l' = wireL (valW w e) v0 vm (valV w e va):=by
 refine Am.HSpecL.of_W (W:=W40) Try.func40 (by kernel_rfl) (by kernel_rfl) (by kernel_rfl) Try.ntmps40 W40_eq (rs:=[.tmp 4]) (by kernel_rfl) (by simp) ?_
 intro vs
 simp [-W40_l7,wireL,encW,encV]
 refine sLoop_intro (fun i=>i ≤ w.A.length ∧ w.A.find? (fun a=>a.key = e.key) = (w.A.drop i).find? fun a=>a.key = e.key) (fun i=>w.A.length - i)
  (fun i=>[(0,.ref 100 v0 (.p 0)),(3,.ref 3 (vs 3 + 1) (.p 0)),(12,.ref 102 va .o),(13,.int .i64 w.A.length),(14,.int .i64 (i:Nat))]) (fun _=>wireL w v0 vm va ++ [(3,.box (vs 3 + 1) 30 (encV e))]) 0 (by simp) (by simp) (by simp [wireL,encW,encV]) ?_
 rintro L i vt ⟨hi,hj⟩ hL
 simp only [wireL,encW,List.cons_append,List.nil_append] at hL ⊢
 by_cases h:i < w.A.length
 ·have h':(i:Int) < w.A.length:=by omega
  rw [List.drop_eq_getElem_cons h,List.find?_cons] at hj
  by_cases hk:w.A[i].key = e.key
  ·simp only [hk,decide_true] at hj
   rw [show valM w e = w.A[i].val by simp [valM,hj],show valW w e = w by simp [valW,hj],show valV w e va = va by simp [valV,hj]]
   simp [-W40_k3,h,h',hk,encV]
   refine retHW_to (wireL w v0 vm va) ?_
   simp [wireL,encW]
  ·simp only [hk,decide_false] at hj
   simp [-W40_k3,h,h',hk,encV]
   rw [wrap64 (by omega) (by omega)]
   exact hL _ _ _ (i + 1) ⟨h,hj⟩ (by omega) (by simp) (by simp [encV])
 ·have h':¬ (i:Int) < w.A.length:=by omega
  have hn:w.A.find? (fun a=>a.key = e.key) = none:=by rw [hj,List.drop_of_length_le (by omega)]; rfl
  by_cases hl:w.A.length < w.V.length
  ·have hl':(w.A.length:Int) < w.V.length:=by omega
   have q0:(w.V[w.A.length]?).getD 0 = w.V[w.A.length]:=by rw [List.getElem?_eq_getElem hl]; rfl
   rw [show valM w e = w.V[w.A.length] by simp [valM,hn,q0],show valW w e = { w with A:=w.A ++ [⟨e.name,e.key,w.V[w.A.length]⟩] } by simp [valW,hn,q0],show valV w e va = va + 1 by simp [valV,hn]]
   simp [-W40_k1,h,h',hl,hl']
   simp [encV]
   rw [decide_eq_true (by omega)]
   simp
   refine retHW_to (wireL { w with A:=w.A ++ [⟨e.name,e.key,w.V[w.A.length]⟩] } v0 vm (va + 1)) ?_
   simp [wireL,encW,encV]
  ·have hl':¬ (w.A.length:Int) < w.V.length:=by omega
   have q0:(w.V[w.A.length]?).getD 0 = 0:=by rw [List.getElem?_eq_none (by omega)]; rfl
   rw [show valM w e = 0 by simp [valM,hn,q0],show valW w e = { w with A:=w.A ++ [⟨e.name,e.key,0⟩] } by simp [valW,hn,q0],show valV w e va = va + 1 by simp [valV,hn]]
   simp [-W40_k1,h,h',hl,hl']
   simp [encV]
   rw [decide_eq_true (by omega)]
   simp
   refine retHW_to (wireL { w with A:=w.A ++ [⟨e.name,e.key,0⟩] } v0 vm (va + 1)) ?_
   simp [wireL,encW,encV]
theorem eraseIdx_map' {α β:Type} (f:α → β):∀ (l:List α) (i:Nat),(l.map f).eraseIdx i = (l.eraseIdx i).map f
 | [],_=>by simp
 | x :: l,0=>by simp
 | x :: l,i + 1=>by simp [eraseIdx_map' f l i]
theorem drp_in (w:Wi) (i:Nat) (v0 vm va:Nat) (h:i < w.F.length) (hF:w.F.length ≤ 100000) :
  Am.HSpecL Try.prog 22 [.ref 100 v0 (.p 0),.int .i64 i] (wireL w v0 vm va) fun r l'=>r = .bool true ∧ l' = wireL { w with F:=w.F.eraseIdx i } v0 vm va:=by
 refine HSpecL.wireF (k:=14) (by omega) ?_
 have h1:=rw_clm w.F (by omega)
 have h2:=hs_is w i v0 vm va
 rw [decide_eq_true (by omega)] at h2
 have h3:=fun v=>hs_del v i (w.F.map encM) (by simpa using h)
 have hwr:IntKind.wrap .i64 ((i:Int) + 1) = (i:Int) + 1:=wrap64 (by omega) (by omega)
 simp only [Int.natCast_add,Int.natCast_one,eraseIdx_map'] at h3
 simp only [wireL,encW] at h2
 refine Am.HSpecL.of_W (W:=W22) Try.func22 (by kernel_rfl) (by kernel_rfl) (by kernel_rfl) Try.ntmps22 W22_eq (rs:=[.tmp 4]) (by kernel_rfl) (by simp) ?_
 intro vs
 simp [wireL,encW]
 refine scall_heap [(100,100),(101,101),(102,102)] [] h2 (by simp) (by simp) (by simp) ?_
 rintro r l' VS' ⟨rfl,rfl⟩
 refine ⟨by simp,?_⟩
 simp
 refine scall_row h1 (by simp) (by simp) ?_
 simp [hwr]
 refine scall_heap [(14,0)] [] (h3 (VS' 14 + 1)) (by simp) (by simp) (by simp) ?_
 rintro r l' VS2 ⟨rfl,rfl⟩
 refine ⟨by simp,?_⟩
 simp
 refine retHW_to (wireR { w with F:=w.F.eraseIdx i } v0 vm va 14 (VS' 14 + 1 + 1)) ?_
 simp [wireR]
theorem hs_drp (w:Wi) (at_:Int) (v0 vm va:Nat) (hF:w.F.length ≤ 100000) :
  Am.HSpecL Try.prog 22 [.ref 100 v0 (.p 0),.int .i64 at_] (wireL w v0 vm va) fun r l'=>r = .bool (decide (0 ≤ at_ ∧ at_ < w.F.length)) ∧ l' = wireL (if 0 ≤ at_ ∧ at_ < w.F.length then { w with F:=w.F.eraseIdx at_.toNat } else w) v0 vm va:=by
 by_cases h:0 ≤ at_ ∧ at_ < w.F.length
 ·obtain ⟨i,rfl⟩:∃ i:Nat,at_ = i:=⟨at_.toNat,by omega⟩
  rw [if_pos h,decide_eq_true h]
  exact drp_in w i v0 vm va (by omega) hF
 ·have h2:=hs_is w at_ v0 vm va
  rw [decide_eq_false h] at h2 ⊢
  rw [if_neg h]
  simp only [wireL,encW] at h2
  refine Am.HSpecL.of_W (W:=W22) Try.func22 (by kernel_rfl) (by kernel_rfl) (by kernel_rfl) Try.ntmps22 W22_eq (rs:=[.tmp 4]) (by kernel_rfl) (by simp) ?_
  intro vs
  simp [wireL,encW]
  refine scall_heap [(100,100),(101,101),(102,102)] [] h2 (by simp) (by simp) (by simp) ?_
  rintro r l' VS' ⟨rfl,rfl⟩
  refine ⟨by simp,?_⟩
  simp
  refine retHW_to (wireL w v0 vm va) ?_
  simp [wireL,encW]
theorem hs_twc (w:Wi) (at_:Int) (v0 vm va:Nat) (hF:w.F.length ≤ 100000) :
  Am.HSpecL Try.prog 23 [.ref 100 v0 (.p 0),.int .i64 at_] (wireL w v0 vm va) fun r l'=>r = .bool (decide (0 ≤ at_ ∧ at_ < w.F.length)) ∧ l' = wireL (match w.F[at_.toNat]? with | some m=>if 0 ≤ at_ then { w with F:=w.F ++ [m] } else w | none=>w) v0 vm va:=by
 have h2:=hs_is w at_ v0 vm va
 by_cases h:0 ≤ at_ ∧ at_ < w.F.length
 ·obtain ⟨i,rfl⟩:∃ i:Nat,at_ = i:=⟨at_.toNat,by omega⟩
  have hi:i < w.F.length:=by omega
  have hi':(i:Int) < w.F.length:=by omega
  rw [decide_eq_true h] at h2 ⊢
  rw [Int.toNat_natCast,List.getElem?_eq_getElem hi]
  simp only [if_pos h.1]
  have h3:=hs_fly w w.F[i].back w.F[i].e v0 vm va hF
  simp only [wireL,encW,encV] at h2 h3
  refine Am.HSpecL.of_W (W:=W23) Try.func23 (by kernel_rfl) (by kernel_rfl) (by kernel_rfl) Try.ntmps23 W23_eq (rs:=[.tmp 4]) (by kernel_rfl) (by simp) ?_
  intro vs
  simp [wireL,encW]
  refine scall_heap [(100,100),(101,101),(102,102)] [] h2 (by simp) (by simp) (by simp) ?_
  rintro r l' VS' ⟨rfl,rfl⟩
  refine ⟨by simp,?_⟩
  simp [hi,hi',encM]
  refine scall_heap [(100,100),(101,101),(102,102)] [] h3 (by simp) (by simp) (by simp) ?_
  rintro r l' VS2 ⟨rfl,rfl⟩
  refine ⟨by simp,?_⟩
  simp
  refine retHW_to (wireL { w with F:=w.F ++ [w.F[i]] } v0 vm va) ?_
  simp [wireL,encW]
 ·have hn:(match w.F[at_.toNat]? with | some m=>if 0 ≤ at_ then { w with F:=w.F ++ [m] } else w | none=>w) = w:=by
   split
   ·rename_i e
    have:=(List.getElem?_eq_some_iff.1 e).1
    rw [if_neg (by omega)]
   ·rfl
  rw [hn]
  rw [decide_eq_false h] at h2 ⊢
  simp only [wireL,encW] at h2
  refine Am.HSpecL.of_W (W:=W23) Try.func23 (by kernel_rfl) (by kernel_rfl) (by kernel_rfl) Try.ntmps23 W23_eq (rs:=[.tmp 4]) (by kernel_rfl) (by simp) ?_
  intro vs
  simp [wireL,encW]
  refine scall_heap [(100,100),(101,101),(102,102)] [] h2 (by simp) (by simp) (by simp) ?_
  rintro r l' VS' ⟨rfl,rfl⟩
  refine ⟨by simp,?_⟩
  simp
  refine retHW_to (wireL w v0 vm va) ?_
  simp [wireL,encW]
theorem hs_flt (w:Wi) (v0 vm va:Nat) (hF:w.F.length ≤ 100000) :
  Am.HSpecL Try.prog 18 [.ref 100 v0 (.p 0)] (wireL w v0 vm va) fun r l'=>∃ v,r = .ref 7 v .o ∧ l' = wireL w v0 vm va ++ [(7,.row v 42 4 (w.F.map encM))]:=by
 have h1:=rw_clm w.F (by omega)
 refine Am.HSpecL.of_W (W:=W18) Try.func18 (by kernel_rfl) (by kernel_rfl) (by kernel_rfl) Try.ntmps18 W18_eq (rs:=[.tmp 2]) (by kernel_rfl) (by simp) ?_
 intro vs
 simp [wireL,encW]
 refine scall_row h1 (by simp) (by simp) ?_
 simp
 refine retHW_to (wireL w v0 vm va ++ [(7,.row (vs 7 + 1) 42 4 (w.F.map encM))]) ?_
 simp [wireL,encW]
end Go.Proofs.Ytahchfkmpcfefaa
namespace Go.Proofs.Ytahchfkmpcfefaa
open Go Go.Am Go.RowKit
attribute [local simp] W41 W41_rs W41_b1 W41_b2 W20 W20_rs W36 W36_rs W16 W16_rs W19 W19_rs W19_b1 W19_b4 W19_b5 W19_b7 W19_b8 W19_b10
theorem hs_clvR (v0:Nat) (l:List Evt) (hl:l.length ≤ 1000000) :
  Am.HSpecL Try.prog 41 [.ref 0 v0 .o] [(0,.row v0 30 3 (l.map encV))] fun r l'=>∃ w,r = .ref 5 w .o ∧ l' = [(0,.row v0 30 3 (l.map encV)),(5,.row w 30 3 (l.map encV))]:=by
 refine Am.HSpecL.nilR (Q:=fun r l'=>(∃ w,r = .ref 5 w .o ∧ l' = [(0,.row v0 30 3 (l.map encV)),(5,.row w 30 3 (l.map encV))]) ∨ (l = [] ∧ r = .nils ∧ l' = [(0,.row v0 30 3 (l.map encV))])) ?_ fun r l0 hq=>?_
 ·refine Am.HSpecL.of_W (W:=W41) Try.func41 (by kernel_rfl) (by kernel_rfl) (by kernel_rfl) Try.ntmps41 W41_eq (rs:=[.tmp 2]) (by kernel_rfl) (by simp) ?_
  intro vs
  simp
  refine sNil_ref _ _ _ _ _ _ _ (hls_some rfl) ?_ fun e=>?_
  ·simp
   rw [decide_eq_true (by omega)]
   simp
   refine retHW_to [(0,.row v0 30 3 (l.map encV)),(5,.row (vs 5 + 1 + 1) 30 3 (l.map encV))] ?_
   simp [resV,resOne]
  ·have e:l = []:=by simpa using e
   subst e
   simp
   refine retHW_to [(0,.row v0 30 3 [])] ?_
   simp [resV,resOne]
 ·rcases hq with hq | ⟨rfl,rfl,rfl⟩
  ·exact .inl hq
  ·exact .inr ⟨rfl,5,30,3,rfl,by decide,fun v=>⟨v,rfl,rfl⟩⟩
theorem hs_app (w:Wi) (v0 vm va:Nat) (hA:w.A.length ≤ 100000) :
  Am.HSpecL Try.prog 20 [.ref 100 v0 (.p 0)] (wireL w v0 vm va) fun r l'=>∃ v,r = .ref 7 v .o ∧ l' = wireL w v0 vm va ++ [(7,.row v 30 3 (w.A.map encV))]:=by
 have h1:=hs_clvR va w.A (by omega)
 refine Am.HSpecL.of_W (W:=W20) Try.func20 (by kernel_rfl) (by kernel_rfl) (by kernel_rfl) Try.ntmps20 W20_eq (rs:=[.tmp 2]) (by kernel_rfl) (by simp) ?_
 intro vs
 simp [wireL,encW]
 refine scall_heap [(102,0)] [(7,5)] h1 (by simp) (by simp) (by simp) ?_
 rintro r l' VS' ⟨v,rfl,rfl⟩
 refine ⟨by simp,?_⟩
 simp
 refine retHW_to (wireL w v0 vm va ++ [(7,.row v 30 3 (w.A.map encV))]) ?_
 simp [wireL,encW]
def opnM (w:Wi):List Int:=srtI (w.O.map (·.1))
theorem hs_kys (vm:Nat) (es:List (AV × AV)) :
  Am.HSpecL Try.prog 36 [.ref 0 vm .o] [(0,.obj vm (.mp .i es))] fun r l'=>∃ v,r = .func 54 [.ref 1 v (.p 0)] ∧ l' = [(0,.obj vm (.mp .i es)),(1,.box v 55 [.ref 0 vm .o])]:=by
 refine Am.HSpecL.of_W (W:=W36) Try.func36 (by kernel_rfl) (by kernel_rfl) (by kernel_rfl) Try.ntmps36 W36_eq (rs:=[.tmp 2]) (by kernel_rfl) (by simp) ?_
 intro vs
 simp
 refine retHW_to [(0,.obj vm (.mp .i es)),(1,.box (vs 1 + 1) 55 [.ref 0 vm .o])] ?_
 simp [resV,resOne]
theorem hs_opn (w:Wi) (v0 vm va:Nat) (hO:w.O.length ≤ 100000) (hw:∀ p ∈ w.O,(Lit.int .i64 p.1).wf = true) :
  Am.HSpecL Try.prog 16 [.ref 100 v0 (.p 0)] (wireL w v0 vm va) fun r l'=>∃ v,r = .ref 9 v .o ∧ l' = wireL w v0 vm va ++ [(9,.row v 3 1 (Am.encI (opnM w)))]:=by
 have hlen:(opnM w).length = w.O.length:=by rw [opnM,srtI,List.length_mergeSort,List.length_map]
 have h1:=hs_kys vm (mpO w.O)
 have h2:=fun kb vb km vm hne=>hs_srt (w.O.map fun p=>(p.1,encO p.2)) (by rw [List.length_map]; omega) (fun q hq=>by obtain ⟨p,hp,rfl⟩:=List.mem_map.1 hq; exact hw p hp) kb vb km vm hne
 have h3:=rw_cli (opnM w) (by omega)
 have e2:((w.O.map fun p=>(p.1,encO p.2)).map (·.1)) = w.O.map (·.1):=by rw [List.map_map]; rfl
 simp only [e2,show mpI (w.O.map fun p=>(p.1,encO p.2)) = mpO w.O from rfl,show (srtI (w.O.map fun x=>x.1)).map (fun x=>[AV.int .i64 x]) = Am.encI (opnM w) from rfl] at h2
 refine Am.HSpecL.of_W (W:=W16) Try.func16 (by kernel_rfl) (by kernel_rfl) (by kernel_rfl) Try.ntmps16 W16_eq (rs:=[.tmp 2]) (by kernel_rfl) (by simp) ?_
 intro vs
 simp [wireL,encW]
 refine scall_heap [(101,0)] [(7,1)] h1 (by simp) (by simp) (by simp) ?_
 rintro r l' VS' ⟨v,rfl,rfl⟩
 refine ⟨by simp,?_⟩
 simp
 refine scall_heap [(7,1),(101,0)] [] (h2 1 v 0 vm (by decide)) (by simp) (by simp [mpO]) (by simp) ?_
 rintro r l' VS2 ⟨rfl,rfl⟩
 refine ⟨by simp,?_⟩
 simp
 refine scall_row h3 (by simp) (by simp) ?_
 simp
 refine retHW_to (wireL w v0 vm va ++ [(9,.row (VS2 9 + 1) 3 1 (Am.encI (opnM w)))]) ?_
 simp [wireL,encW]
structure Dlv where
 w:Wi
 va:Nat
 told:Evt
 is:Bool
def dlvM (w:Wi) (at_:Int) (va:Nat):Dlv:=match if 0 ≤ at_ then w.F[at_.toNat]? else none with
 | none=>⟨w,va,⟨⟨#[]⟩,0,0⟩,false⟩
 | some m=>
  let w1:={ w with F:=w.F.eraseIdx at_.toNat }
  if m.back then (if isO w m.e.key then ⟨{ w1 with O:=delO m.e.key w.O },va,m.e,true⟩ else ⟨w1,va,⟨⟨#[]⟩,0,0⟩,false⟩)
  else ⟨{ valW w1 m.e with F:=w1.F ++ [⟨true,⟨m.e.name,m.e.key,valM w1 m.e⟩⟩] },valV w1 m.e va,⟨⟨#[]⟩,0,0⟩,false⟩
theorem hs_dlv (w:Wi) (at_:Int) (v0 vm va:Nat) (hF:w.F.length ≤ 100000) (hA:w.A.length ≤ 100000) (hV:w.V.length ≤ 100000) :
  Am.HSpecL Try.prog 19 [.ref 100 v0 (.p 0),.int .i64 at_] (wireL w v0 vm va) fun r l'=>r = .tup [.agg (encV (dlvM w at_ va).told),.bool (dlvM w at_ va).is] ∧ l' = wireL (dlvM w at_ va).w v0 vm (dlvM w at_ va).va:=by
 have h2:=hs_is w at_ v0 vm va
 by_cases h:0 ≤ at_ ∧ at_ < w.F.length
 ·obtain ⟨i,rfl⟩:∃ i:Nat,at_ = i:=⟨at_.toNat,by omega⟩
  have hi:i < w.F.length:=by omega
  have hi':(i:Int) < w.F.length:=by omega
  rw [decide_eq_true h] at h2
  have h3:=drp_in w i v0 vm va hi hF
  have hd:dlvM w i va = if w.F[i].back then (if isO w w.F[i].e.key then ⟨{ w with F:=w.F.eraseIdx i,O:=delO w.F[i].e.key w.O },va,w.F[i].e,true⟩ else ⟨{ w with F:=w.F.eraseIdx i },va,⟨⟨#[]⟩,0,0⟩,false⟩)
    else ⟨{ valW { w with F:=w.F.eraseIdx i } w.F[i].e with F:=w.F.eraseIdx i ++ [⟨true,⟨w.F[i].e.name,w.F[i].e.key,valM { w with F:=w.F.eraseIdx i } w.F[i].e⟩⟩] },valV { w with F:=w.F.eraseIdx i } w.F[i].e va,⟨⟨#[]⟩,0,0⟩,false⟩:=by
   simp only [dlvM,if_pos h.1,Int.toNat_natCast,List.getElem?_eq_getElem hi]
  rw [hd]
  clear hd
  have hm:encM w.F[i] = [.bool w.F[i].back,.str w.F[i].e.name,.int .i64 w.F[i].e.key,.int .i64 w.F[i].e.val]:=rfl
  have hl1:(w.F.eraseIdx i).length ≤ 100000:=by rw [List.length_eraseIdx_of_lt hi]; omega
  have hvl:=hs_val { w with F:=w.F.eraseIdx i } w.F[i].e v0 vm va hA hV
  cases hb:w.F[i].back
  ·have hfl:=hs_fly (valW { w with F:=w.F.eraseIdx i } w.F[i].e) true ⟨w.F[i].e.name,w.F[i].e.key,valM { w with F:=w.F.eraseIdx i } w.F[i].e⟩ v0 vm (valV { w with F:=w.F.eraseIdx i } w.F[i].e va) (by unfold valW; split <;> exact hl1)
   have hvF:(valW { w with F:=w.F.eraseIdx i } w.F[i].e).F = w.F.eraseIdx i:=by unfold valW; split <;> rfl
   rw [if_neg (show ¬ false = true by decide)]
   generalize valW { w with F:=w.F.eraseIdx i } w.F[i].e = w2 at *
   generalize valM { w with F:=w.F.eraseIdx i } w.F[i].e = x2 at *
   generalize valV { w with F:=w.F.eraseIdx i } w.F[i].e va = va2 at *
   rw [← hvF]
   simp only [wireL,encW,encV] at h2 h3 hvl hfl
   refine Am.HSpecL.of_W (W:=W19) Try.func19 (by kernel_rfl) (by kernel_rfl) (by kernel_rfl) Try.ntmps19 W19_eq (rs:=[.cell 4 30,.tmp 5]) (by kernel_rfl) (by simp) ?_
   intro vs
   simp [-W19_b4,-W19_b8,wireL,encW]
   refine scall_heap [(100,100),(101,101),(102,102)] [] h2 (by simp) (by simp) (by simp) ?_
   rintro r l' VS' ⟨rfl,rfl⟩
   refine ⟨by simp,?_⟩
   simp [-W19_b4,-W19_b8,hi,hi',hm,hb]
   refine scall_heap [(100,100),(101,101),(102,102)] [] h3 (by simp) (by simp) (by simp) ?_
   rintro r l' VS2 ⟨rfl,rfl⟩
   refine ⟨by simp,?_⟩
   simp [-W19_b4,-W19_b8,hb]
   simp
   refine scall0_heap [(100,100),(101,101),(102,102)] hvl (by simp) (by simp) (by simp) (by simp) (by simp) (by simp) ?_
   simp
   refine scall_heap [(100,100),(101,101),(102,102)] [] hfl (by simp) (by simp) (by simp) ?_
   rintro r l' VS3 ⟨rfl,rfl⟩
   refine ⟨by simp,?_⟩
   simp
   refine retHW_to (wireL { w2 with F:=w2.F ++ [⟨true,⟨w.F[i].e.name,w.F[i].e.key,x2⟩⟩] } v0 vm va2) ?_
   simp [wireL,encW,encV]
  ·have hg:=getM_mpO w.O w.F[i].e.key
   have hio:=find_isO w w.F[i].e.key
   rw [if_pos rfl]
   cases ho:isO w w.F[i].e.key
   ·rw [ho] at hio
    have hn:(w.O.find? fun p=>p.1 = w.F[i].e.key) = none:=by simpa using hio
    rw [hn] at hg
    have hg:getM (.int .i64 w.F[i].e.key) (mpO w.O) = none:=hg
    rw [if_neg (by decide)]
    simp only [wireL,encW,encV] at h2 h3
    refine Am.HSpecL.of_W (W:=W19) Try.func19 (by kernel_rfl) (by kernel_rfl) (by kernel_rfl) Try.ntmps19 W19_eq (rs:=[.cell 4 30,.tmp 5]) (by kernel_rfl) (by simp) ?_
    intro vs
    simp [-W19_b4,-W19_b8,wireL,encW]
    refine scall_heap [(100,100),(101,101),(102,102)] [] h2 (by simp) (by simp) (by simp) ?_
    rintro r l' VS' ⟨rfl,rfl⟩
    refine ⟨by simp,?_⟩
    simp [-W19_b4,-W19_b8,hi,hi',hm,hb]
    refine scall_heap [(100,100),(101,101),(102,102)] [] h3 (by simp) (by simp) (by simp) ?_
    rintro r l' VS2 ⟨rfl,rfl⟩
    refine ⟨by simp,?_⟩
    simp [-W19_b4,-W19_b8,hb]
    simp [hg]
    refine retHW_to (wireL { w with F:=w.F.eraseIdx i } v0 vm va) ?_
    simp [wireL,encW,encV]
   ·rw [ho] at hio
    obtain ⟨p,hn⟩:=Option.isSome_iff_exists.1 hio
    rw [hn] at hg
    have hg:getM (.int .i64 w.F[i].e.key) (mpO w.O) = some (encO p.2):=hg
    simp only [encO] at hg
    have h4:=hs_fgt { w with F:=w.F.eraseIdx i } w.F[i].e.key v0 vm va
    rw [if_pos rfl]
    simp only [wireL,encW,encV] at h2 h3 h4
    refine Am.HSpecL.of_W (W:=W19) Try.func19 (by kernel_rfl) (by kernel_rfl) (by kernel_rfl) Try.ntmps19 W19_eq (rs:=[.cell 4 30,.tmp 5]) (by kernel_rfl) (by simp) ?_
    intro vs
    simp [-W19_b4,-W19_b8,wireL,encW]
    refine scall_heap [(100,100),(101,101),(102,102)] [] h2 (by simp) (by simp) (by simp) ?_
    rintro r l' VS' ⟨rfl,rfl⟩
    refine ⟨by simp,?_⟩
    simp [-W19_b4,-W19_b8,hi,hi',hm,hb]
    refine scall_heap [(100,100),(101,101),(102,102)] [] h3 (by simp) (by simp) (by simp) ?_
    rintro r l' VS2 ⟨rfl,rfl⟩
    refine ⟨by simp,?_⟩
    simp [-W19_b4,-W19_b8,hb]
    simp [hg]
    refine scall_heap [(100,100),(101,101),(102,102)] [] h4 (by simp) (by simp) (by simp) ?_
    rintro r l' VS3 ⟨rfl,rfl⟩
    refine ⟨by simp,?_⟩
    simp
    refine retHW_to (wireL { w with F:=w.F.eraseIdx i,O:=delO w.F[i].e.key w.O } v0 vm va) ?_
    simp [wireL,encW,encV]
 ·have hd:dlvM w at_ va = ⟨w,va,⟨⟨#[]⟩,0,0⟩,false⟩:=by
   unfold dlvM
   by_cases h0:0 ≤ at_
   ·rw [if_pos h0,List.getElem?_eq_none (by omega)]
   ·rw [if_neg h0]
  rw [decide_eq_false h] at h2
  rw [hd]
  simp only [wireL,encW] at h2
  refine Am.HSpecL.of_W (W:=W19) Try.func19 (by kernel_rfl) (by kernel_rfl) (by kernel_rfl) Try.ntmps19 W19_eq (rs:=[.cell 4 30,.tmp 5]) (by kernel_rfl) (by simp) ?_
  intro vs
  simp [-W19_b10,wireL,encW]
  refine scall_heap [(100,100),(101,101),(102,102)] [] h2 (by simp) (by simp) (by simp) ?_
  rintro r l' VS' ⟨rfl,rfl⟩
  refine ⟨by simp,?_⟩
  simp [-W19_b10]
  refine retHW_to (wireL w v0 vm va) ?_
  simp [wireL,encW,encV]
def newM (V:List Int):Wi:=⟨V,0,[],[],[]⟩
theorem hs_new (V:List Int) (hV:V.length ≤ 1000000) :
  Am.HSpecL Try.prog 14 [.sl (Am.encI V)] [] fun r l'=>∃ v0 vm va,r = .ref 7 v0 (.p 0) ∧ l' = [(5,.obj vm (.mp .i [])),(7,.box v0 57 [.sl (Am.encI V),.int .i64 0,.ref 5 vm .o,.sl [],.ref 9 va .o]),(9,.row va 30 3 [])]:=by
 refine Am.HSpecL.looseR (Q:=fun r l'=>∃ v0 vm,r = .ref 7 v0 (.p 0) ∧ l' = [(5,.obj vm (.mp .i [])),(7,.box v0 57 [.sl (Am.encI V),.int .i64 0,.ref 5 vm .o,.sl [],.nils])])
  (Am.HSpecL.looseC (hs_new0 V hV) ?_) ?_
 ·rintro r l0 ⟨v0,vm,rfl,rfl⟩
  exact ⟨7,v0,_,_,3,rfl,rfl,v0,vm,rfl,rfl⟩
 ·rintro r l0 ⟨v0,vm,rfl,rfl⟩
  exact ⟨7,v0,_,_,4,9,30,3,rfl,rfl,rfl,by decide,fun va=>⟨v0,vm,va,rfl,rfl⟩⟩
theorem R_slt {C:Ctx} {rows:List (List AV)} {v:Value} (h:R C (.slt rows) v):R C (.sl rows) v:=by
 cases h with
 | slt _ g off sz f hA hmax hsz hc hone h=>exact .sl rows (some ⟨g,off,none⟩) rows.length g off sz f (fun _=>⟨rfl,hA⟩) (Nat.le_refl _) hmax hsz hc hone h
theorem HSpecL_arg {P:Program} {f:FuncId} {a b:AV} {l:List (Nat × Blk)} {Q:AV → List (Nat × Blk) → Prop} (hab:∀ C v,R C a v → R C b v) (h:Am.HSpecL P f [b] l Q):Am.HSpecL P f [a] l Q:=fun vs=>
 ⟨(h vs).enters,fun C us hH hC hR=>(h vs).calls C us hH hC ⟨hR.1,fun i x hx=>by
  cases i with
  | zero=>cases hx; exact hab C _ (hR.2 0 a rfl)
  | succ i=>simp at hx⟩⟩
end Go.Proofs.Ytahchfkmpcfefaa
namespace Go.Proofs.Ytahchfkmpcfefaa
open Go Go.Am Go.RowKit
attribute [local simp] W15 W15_rs W15_k1 W15_b2 W13 W13_rs W13_b1 W13_b20
def within (a n:Int):Int:=if a.tmod n < 0 then a.tmod n + n else a.tmod n
theorem within_ge (a n:Int) (hn:0 < n):0 ≤ within a n:=by
 have h3:-n < a.tmod n:=by have:=Int.lt_tmod_of_pos a hn; omega
 unfold within; split <;> omega
theorem within_lt (a n:Int) (hn:0 < n):within a n < n:=by
 have h1:=Int.tmod_lt_of_pos a hn
 unfold within; split <;> omega
theorem sp_wit (a n:Int) (hn:0 < n) (h2:n < 4611686018427387904):Am.Spec Try.prog 15 [.int .i64 a,.int .i64 n] (.int .i64 (within a n)):=by
 have h1:=Int.tmod_lt_of_pos a hn
 have h3:-n < a.tmod n:=by have:=Int.lt_tmod_of_pos a hn; omega
 have hn0:¬ n = 0:=by omega
 by_cases h:a.tmod n < 0
 ·rw [within,if_pos h]
  refine W15_S (by simp) ?_
  intro vs
  simp [hn0,h]
  rw [wrap64 (by omega) (by omega)]
  simp [retW_eq]
 ·rw [within,if_neg h]
  refine W15_S (by simp) ?_
  intro vs
  simp [hn0,h,retW_eq]
def nPay:ByteArray:=⟨#[112,97,121]⟩
def blkW (km ka:Nat) (w:Wi) (v0 vm va:Nat):Blk:=.box v0 57 [.sl (Am.encI w.V),.int .i64 w.clock,.ref km vm .o,.sl (w.F.map encM),.ref ka va .o]
def blkO (w:Wi) (vm:Nat):Blk:=.obj vm (.mp .i (mpO w.O))
def blkA (w:Wi) (va:Nat):Blk:=.row va 30 3 (w.A.map encV)
@[simp] theorem ren_blkW (σ:Nat → Nat) (km ka:Nat) (w:Wi) (v0 vm va:Nat):renB σ (blkW km ka w v0 vm va) = blkW (σ km) (σ ka) w v0 vm va:=by simp [blkW,renB]
@[simp] theorem ren_blkO (σ:Nat → Nat) (w:Wi) (vm:Nat):renB σ (blkO w vm) = blkO w vm:=rfl
@[simp] theorem ren_blkA (σ:Nat → Nat) (w:Wi) (va:Nat):renB σ (blkA w va) = blkA w va:=by simp [blkA,renB]
@[simp] theorem okB_blkW (K:Nat → Bool) (km ka:Nat) (w:Wi) (v0 vm va:Nat):okB K (blkW km ka w v0 vm va) = (K km && K ka):=by simp [blkW,okB]
@[simp] theorem okB_blkO (K:Nat → Bool) (w:Wi) (vm:Nat):okB K (blkO w vm) = true:=rfl
@[simp] theorem okB_blkA (K:Nat → Bool) (w:Wi) (va:Nat):okB K (blkA w va) = true:=by simp [blkA,okB]
@[simp] theorem live_blkW (km ka:Nat) (w:Wi) (v0 vm va:Nat):(blkW km ka w v0 vm va).live = true:=rfl
@[simp] theorem live_blkO (w:Wi) (vm:Nat):(blkO w vm).live = true:=rfl
@[simp] theorem live_blkA (w:Wi) (va:Nat):(blkA w va).live = true:=rfl
@[simp] theorem npB_blkW (K:Prop) (km ka:Nat) (w:Wi) (v0 vm va:Nat):npB v0 K (some (blkW km ka w v0 vm va)) = K:=by simp [blkW,npB]
def wireB (w:Wi) (v0 vm va:Nat):List (Nat × Blk):=[(100,blkW 101 102 w v0 vm va),(101,blkO w vm),(102,blkA w va)]
theorem hb_new (V:List Int) (hV:V.length ≤ 1000000) :
  Am.HSpecL Try.prog 14 [.sl (Am.encI V)] [] fun r l'=>∃ v0 vm va,r = .ref 7 v0 (.p 0) ∧ l' = [(5,blkO (newM V) vm),(7,blkW 5 9 (newM V) v0 vm va),(9,blkA (newM V) va)]:=hs_new V hV
theorem hb_ask (w:Wi) (e:Evt) (v0 vm va:Nat) (hF:w.F.length ≤ 100000) (hc:-1000000 ≤ w.clock ∧ w.clock ≤ 1000000) :
  Am.HSpecL Try.prog 17 [.ref 100 v0 (.p 0),.agg (encV e)] [(100,blkW 101 102 w v0 vm va),(101,blkO w vm),(102,blkA w va)] fun r l'=>r = .tup [] ∧ l' = wireB (askM w e) v0 vm va:=hs_ask w e v0 vm va hF hc
theorem hb_dlv (w:Wi) (at_:Int) (v0 vm va:Nat) (hF:w.F.length ≤ 100000) (hA:w.A.length ≤ 100000) (hV:w.V.length ≤ 100000) :
  Am.HSpecL Try.prog 19 [.ref 100 v0 (.p 0),.int .i64 at_] [(100,blkW 101 102 w v0 vm va),(101,blkO w vm),(102,blkA w va)] fun r l'=>r = .tup [.agg (encV (dlvM w at_ va).told),.bool (dlvM w at_ va).is] ∧ l' = wireB (dlvM w at_ va).w v0 vm (dlvM w at_ va).va:=hs_dlv w at_ v0 vm va hF hA hV
theorem hb_flt (w:Wi) (v0 vm va:Nat) (hF:w.F.length ≤ 100000) :
  Am.HSpecL Try.prog 18 [.ref 100 v0 (.p 0)] [(100,blkW 101 102 w v0 vm va),(101,blkO w vm),(102,blkA w va)] fun r l'=>∃ v,r = .ref 7 v .o ∧ l' = [(100,blkW 101 102 w v0 vm va),(101,blkO w vm),(102,blkA w va),(7,.row v 42 4 (w.F.map encM))]:=hs_flt w v0 vm va hF
theorem hb_app (w:Wi) (v0 vm va:Nat) (hA:w.A.length ≤ 100000) :
  Am.HSpecL Try.prog 20 [.ref 100 v0 (.p 0)] [(100,blkW 101 102 w v0 vm va),(101,blkO w vm),(102,blkA w va)] fun r l'=>∃ v,r = .ref 7 v .o ∧ l' = [(100,blkW 101 102 w v0 vm va),(101,blkO w vm),(102,blkA w va),(7,.row v 30 3 (w.A.map encV))]:=hs_app w v0 vm va hA
theorem hb_opn (w:Wi) (v0 vm va:Nat) (hO:w.O.length ≤ 100000) (hw:∀ p ∈ w.O,(Lit.int .i64 p.1).wf = true) :
  Am.HSpecL Try.prog 16 [.ref 100 v0 (.p 0)] [(100,blkW 101 102 w v0 vm va),(101,blkO w vm),(102,blkA w va)] fun r l'=>∃ v,r = .ref 9 v .o ∧ l' = [(100,blkW 101 102 w v0 vm va),(101,blkO w vm),(102,blkA w va),(9,.row v 3 1 (Am.encI (opnM w)))]:=hs_opn w v0 vm va hO hw
theorem sp_kno:Am.Spec Try.prog 13 [] (.bool true):=by
 have hn:=HSpecL_arg (a:=.slt [[.int .i64 7]]) (fun C v=>R_slt) (hb_new [7] (by decide))
 have e1:askM (newM [7]) ⟨nPay,3,0⟩ = ⟨[7],0,[(3,⟨nPay,1,1⟩)],[⟨false,⟨nPay,3,0⟩⟩],[]⟩:=rfl
 have e2:∀ va,dlvM ⟨[7],0,[(3,⟨nPay,1,1⟩)],[⟨false,⟨nPay,3,0⟩⟩],[]⟩ 0 va = ⟨⟨[7],0,[(3,⟨nPay,1,1⟩)],[⟨true,⟨nPay,3,7⟩⟩],[⟨nPay,3,7⟩]⟩,va + 1,⟨⟨#[]⟩,0,0⟩,false⟩:=fun va=>rfl
 have e3:∀ va,dlvM ⟨[7],0,[(3,⟨nPay,1,1⟩)],[⟨true,⟨nPay,3,7⟩⟩],[⟨nPay,3,7⟩]⟩ 0 va = ⟨⟨[7],0,[],[],[⟨nPay,3,7⟩]⟩,va,⟨nPay,3,7⟩,true⟩:=fun va=>rfl
 refine W13_S (by simp) ?_
 intro vs
 simp [-W13_b20]
 refine scall_heap [] [(100,7),(101,5),(102,9)] hn (by simp) (by simp) (by simp) ?_
 rintro r l' VS ⟨v0,vm,va,rfl,rfl⟩
 refine ⟨by simp,?_⟩
 simp [-W13_b20]
 refine scall_heap [(100,100),(101,101),(102,102)] [(12,7)] (hb_flt (newM [7]) v0 vm va (by decide)) (by simp) (by simp) (by simp) ?_
 rintro r l' VS ⟨v,rfl,rfl⟩
 refine ⟨by simp,?_⟩
 simp [-W13_b20,newM]
 simp
 have q:=hb_ask (newM [7]) ⟨nPay,3,0⟩ v0 vm va (by decide) (by decide)
 rw [e1] at q
 refine scall_heap [(100,100),(101,101),(102,102)] [] q (by simp [nPay,encV]) (by simp [newM]) (by simp) ?_
 rintro r l' VS ⟨rfl,rfl⟩
 refine ⟨by simp [wireB],?_⟩
 simp [wireB]
 have q:=hb_dlv ⟨[7],0,[(3,⟨nPay,1,1⟩)],[⟨false,⟨nPay,3,0⟩⟩],[]⟩ 0 v0 vm va (by decide) (by decide) (by decide)
 rw [e2] at q
 refine scall_heap [(100,100),(101,101),(102,102)] [] q (by simp) (by simp) (by simp) ?_
 rintro r l' VS ⟨rfl,rfl⟩
 refine ⟨by simp [wireB],?_⟩
 simp [wireB,encV]
 have q:=hb_dlv ⟨[7],0,[(3,⟨nPay,1,1⟩)],[⟨true,⟨nPay,3,7⟩⟩],[⟨nPay,3,7⟩]⟩ 0 v0 vm (va + 1) (by decide) (by decide) (by decide)
 rw [e3] at q
 refine scall_heap [(100,100),(101,101),(102,102)] [] q (by simp) (by simp) (by simp) ?_
 rintro r l' VS ⟨rfl,rfl⟩
 refine ⟨by simp [wireB],?_⟩
 simp [wireB,encV]
 have q:=hb_app ⟨[7],0,[],[],[⟨nPay,3,7⟩]⟩ v0 vm (va + 1) (by decide)
 refine scall_heap [(100,100),(101,101),(102,102)] [(46,7)] q (by simp) (by simp) (by simp) ?_
 rintro r l' VS ⟨v,rfl,rfl⟩
 refine ⟨by simp,?_⟩
 simp
 have q:=hb_opn ⟨[7],0,[],[],[⟨nPay,3,7⟩]⟩ v0 vm (va + 1) (by decide) (by simp)
 refine scall_heap [(100,100),(101,101),(102,102)] [(52,9)] q (by simp) (by simp) (by simp) ?_
 rintro r l' VS ⟨v2,rfl,rfl⟩
 refine ⟨by simp,?_⟩
 simp [opnM,srtI,retW_eq]
end Go.Proofs.Ytahchfkmpcfefaa
namespace Go.Proofs.Ytahchfkmpcfefaa
open Go Go.Am Go.RowKit
theorem wf_of {a:Int} (h:-9223372036854775808 ≤ a ∧ a < 9223372036854775808):(Lit.int .i64 a).wf = true:=by
 have h1:IntKind.min .i64 = -9223372036854775808:=by decide +kernel
 have h2:IntKind.max .i64 = 9223372036854775807:=by decide +kernel
 simp only [Lit.wf,Bool.and_eq_true,decide_eq_true_eq,h1,h2]
 omega
structure OpI (w:Wi) (n:Nat):Prop where
 cl:w.clock = 0
 oF:w.F.length = n
 oO:w.O.length = n
 nd:(w.O.map (·.1)).Nodup
 rg:∀ p ∈ w.O,0 ≤ p.1 ∧ p.1 < 12
theorem isO_mem (w:Wi) (k:Int):isO w k = true ↔ k ∈ w.O.map (·.1):=by
 rw [isO,List.any_eq_true,List.mem_map]
 exact ⟨fun ⟨p,hp,e⟩=>⟨p,hp,of_decide_eq_true e⟩,fun ⟨p,hp,e⟩=>⟨p,hp,decide_eq_true e⟩⟩
theorem setO_new (k:Int) (o:Opn):∀ l:List (Int × Opn),k ∉ l.map (·.1) → setO k o l = l ++ [(k,o)]
 | [],_=>rfl
 | p :: l,h=>by
  simp only [List.map_cons,List.mem_cons,not_or] at h
  rw [setO,if_neg (Ne.symm h.1),setO_new k o l h.2]; rfl
theorem OpI.ask {w:Wi} {n:Nat} (h:OpI w n) (s:ByteArray) (k v:Int) (hk:0 ≤ k ∧ k < 12):∃ m,n ≤ m ∧ m ≤ n + 1 ∧ OpI (askM w ⟨s,k,v⟩) m:=by
 unfold askM
 cases ho:isO w k
 ·have hn:k ∉ w.O.map (·.1):=fun hm=>by rw [(isO_mem w k).2 hm] at ho; cases ho
  have e:=setO_new k ⟨s,w.clock + 1,1⟩ w.O hn
  refine ⟨n + 1,by omega,by omega,?_⟩
  rw [if_neg (by simp [ho])]
  refine ⟨h.cl,by simp [h.oF],by simp only [e,List.length_append,h.oO,List.length_singleton],?_,fun p hp=>?_⟩
  ·simp only [e,List.map_append,List.map_cons,List.map_nil]
   exact List.nodup_append.2 ⟨h.nd,by simp,fun a ha b hb=>by simp at hb; subst hb; exact fun e=>hn (e ▸ ha)⟩
  ·simp only [e,List.mem_append,List.mem_singleton] at hp
   rcases hp with hp | rfl
   ·exact h.rg p hp
   ·exact hk
 ·rw [if_pos (by simp [ho])]
  exact ⟨n,by omega,by omega,h⟩
theorem OpI.sorted {w:Wi} {n:Nat} (h:OpI w n):(opnM w).Pairwise (· < ·):=by
 have hp:=List.mergeSort_perm (w.O.map (·.1)) fun x y=>decide (x ≤ y)
 have hs:(opnM w).Pairwise fun x y=>decide (x ≤ y) = true:=List.pairwise_mergeSort (fun a b c h1 h2=>by simp only [decide_eq_true_eq] at *; omega) (fun a b=>by simp only [Bool.or_eq_true,decide_eq_true_eq]; omega) _
 have hn:(opnM w).Nodup:=hp.nodup_iff.2 h.nd
 refine (hs.and hn).imp fun {a b} hab=>?_
 have h1:=of_decide_eq_true hab.1
 have h2:=hab.2
 omega
theorem OpI.len {w:Wi} {n:Nat} (h:OpI w n):(opnM w).length = n:=by
 rw [opnM,srtI,List.length_mergeSort,List.length_map,h.oO]
theorem OpI.wf {w:Wi} {n:Nat} (h:OpI w n):∀ p ∈ w.O,(Lit.int .i64 p.1).wf = true:=fun p hp=>wf_of (by have:=h.rg p hp; omega)
end Go.Proofs.Ytahchfkmpcfefaa
namespace Go.Proofs.Ytahchfkmpcfefaa
open Go Go.Am Go.RowKit
theorem hb_drp (w:Wi) (at_:Int) (v0 vm va:Nat) (hF:w.F.length ≤ 100000) :
  Am.HSpecL Try.prog 22 [.ref 100 v0 (.p 0),.int .i64 at_] [(100,blkW 101 102 w v0 vm va),(101,blkO w vm),(102,blkA w va)] fun r l'=>r = .bool (decide (0 ≤ at_ ∧ at_ < w.F.length)) ∧ l' = wireB (if 0 ≤ at_ ∧ at_ < w.F.length then { w with F:=w.F.eraseIdx at_.toNat } else w) v0 vm va:=hs_drp w at_ v0 vm va hF
end Go.Proofs.Ytahchfkmpcfefaa
namespace Go.Proofs.Ytahchfkmpcfefaa
open Go Go.Am Go.RowKit
attribute [local simp] W6 W6_rs W6_b1 W6_b2 W6_b3 W6_b16 W6_b17 W6_b19 W6_b28 W6_b30 W6_b45 W6_b49 W6_b50 W6_b52 W6_b56 W6_b59 W6_k14 W6_k15 W6_k43 W6_k48 W6_l29 W6_l46 W6_l54
theorem hb_twc (w:Wi) (at_:Int) (v0 vm va:Nat) (hF:w.F.length ≤ 100000) :
  Am.HSpecL Try.prog 23 [.ref 100 v0 (.p 0),.int .i64 at_] [(100,blkW 101 102 w v0 vm va),(101,blkO w vm),(102,blkA w va)] fun r l'=>r = .bool (decide (0 ≤ at_ ∧ at_ < w.F.length)) ∧ l' = wireB (match w.F[at_.toNat]? with | some m=>if 0 ≤ at_ then { w with F:=w.F ++ [m] } else w | none=>w) v0 vm va:=hs_twc w at_ v0 vm va hF
@[simp] theorem okk_rep (K:Nat → Bool) (n:Nat) (m:Msg):okkLL K (List.replicate n (encM m)) = true:=by rw [← List.map_replicate]; exact okk_Fs K _
@[simp] theorem ren_rep (σ:Nat → Nat) (n:Nat) (m:Msg):renLL σ (List.replicate n (encM m)) = List.replicate n (encM m):=by rw [← List.map_replicate]; exact renLL_off σ (closed_Fs _)
def m0 (k:Int):Msg:=⟨false,⟨nPay,k,0⟩⟩
def m1 (k v:Int):Msg:=⟨true,⟨nPay,k,v⟩⟩
def wiL (k v u:Int) (n i:Nat):Wi:=⟨[v,u],0,[(k,⟨nPay,1,1⟩)],List.replicate (n - i) (m0 k) ++ List.replicate i (m1 k v),if i = 0 then [] else [⟨nPay,k,v⟩]⟩
theorem wiL_tw (k v u:Int) (n:Nat) (hn:0 < n):(match (wiL k v u n 0).F[(0:Int).toNat]? with | some m=>if (0:Int) ≤ 0 then { wiL k v u n 0 with F:=(wiL k v u n 0).F ++ [m] } else wiL k v u n 0 | none=>wiL k v u n 0) = wiL k v u (n + 1) 0:=by
 obtain ⟨n,rfl⟩:∃ m,n = m + 1:=⟨n - 1,by omega⟩
 have h:(wiL k v u (n + 1) 0).F[(0:Int).toNat]? = some (m0 k):=by simp [wiL,List.replicate_succ]
 rw [h]
 simp only [wiL,if_pos (Int.le_refl 0),List.replicate_zero,List.append_nil,Nat.sub_zero,if_true]
 rw [show List.replicate (n + 1) (m0 k) ++ [m0 k] = List.replicate (n + 1 + 1) (m0 k) from List.replicate_succ'.symm]
theorem wiL_dl (k v u:Int) (n i va:Nat) (hi:i < n):dlvM (wiL k v u n i) 0 (if i = 0 then va else va + 1) = ⟨wiL k v u n (i + 1),va + 1,⟨⟨#[]⟩,0,0⟩,false⟩:=by
 obtain ⟨m,hm⟩:∃ m,n - i = m + 1:=⟨n - i - 1,by omega⟩
 have hm2:n - (i + 1) = m:=by omega
 have e1:List.replicate m (m0 k) ++ (List.replicate i (m1 k v) ++ [m1 k v]) = List.replicate m (m0 k) ++ List.replicate (i + 1) (m1 k v):=by rw [List.replicate_succ']
 cases i with
 | zero=>simp [dlvM,wiL,hm,hm2,List.replicate_succ,m0,m1,valW,valM,valV]
 | succ i=>
  simp [dlvM,wiL,hm,hm2,List.replicate_succ,m0,valW,valM,valV]
  exact List.replicate_succ'.symm.trans List.replicate_succ
def wiT (k v u:Int) (n i:Nat):Wi:=⟨[v,u],0,if i = 0 then [(k,⟨nPay,1,1⟩)] else [],List.replicate (n - i) (m1 k v),[⟨nPay,k,v⟩]⟩
theorem wiT_dl (k v u:Int) (n i va:Nat) (hi:i < n):dlvM (wiT k v u n i) 0 va = ⟨wiT k v u n (i + 1),va,if i = 0 then ⟨nPay,k,v⟩ else ⟨⟨#[]⟩,0,0⟩,decide (i = 0)⟩:=by
 obtain ⟨m,hm⟩:∃ m,n - i = m + 1:=⟨n - i - 1,by omega⟩
 have hm2:n - (i + 1) = m:=by omega
 cases i with
 | zero=>simp [dlvM,wiT,hm,hm2,List.replicate_succ,m1,isO,delO]
 | succ i=>simp [dlvM,wiT,hm,hm2,List.replicate_succ,m1,isO]
theorem wiL_T (k v u:Int) (n:Nat) (hn:0 < n):wiL k v u n n = wiT k v u n 0:=by
 simp [wiL,wiT,show ¬ n = 0 by omega]
theorem los_k14 (k v u:Int) (n:Nat) (v0 vm va:Nat) (b49:Blk) (T:List (Nat × AV)) (VS:Nat → Nat) (h7:Am.look T 7 = .ref 100 v0 (.p 0)) (h12:Am.look T 12 = .int .i64 1) (hn:0 < n) (H:List (Nat × Blk)) (hH:H = [(49,b49),(100,blkW 101 102 (wiT k v u n n) v0 vm va),(101,blkO (wiT k v u n n) vm),(102,blkA (wiT k v u n n) va)]) :
  W6_k14 (retK Try.prog [.tmp 6] (.bool true)) ⟨Am.look T,hls H VS,noG⟩:=by
 subst hH
 have e:(wiT k v u n n).F = []:=by simp [wiT]
 have q1:=hb_flt (wiT k v u n n) v0 vm va (by rw [e]; decide)
 have q2:=hb_drp (wiT k v u n n) 0 v0 vm va (by rw [e]; decide)
 have q3:=hb_twc (wiT k v u n n) 0 v0 vm va (by rw [e]; decide)
 rw [e] at q1 q2 q3
 simp at q2 q3
 simp [h7,h12]
 refine scall_heap [(100,100),(101,101),(102,102)] [(200,7)] q1 (by simp) (by simp) (by simp) ?_
 rintro r l' VS ⟨v,rfl,rfl⟩
 refine ⟨by simp,?_⟩
 simp [h7,h12]
 refine scall_heap [(100,100),(101,101),(102,102)] [] q2 (by simp) (by simp) (by simp) ?_
 rintro r l' VS ⟨rfl,rfl⟩
 refine ⟨by simp [wireB],?_⟩
 simp [wireB,h7]
 refine scall_heap [(100,100),(101,101),(102,102)] [] q3 (by simp) (by simp) (by simp) ?_
 rintro r l' VS ⟨rfl,rfl⟩
 refine ⟨by simp [wireB],?_⟩
 simp [wireB,retW_eq]
theorem los_b30 (k v u:Int) (n:Nat) (hn:0 < n) (hn7:n ≤ 6) (v0 vm va v49:Nat) (T:List (Nat × AV)) (VS:Nat → Nat) (h1:Am.look T 1 = .int .i64 v) (h7:Am.look T 7 = .ref 100 v0 (.p 0)) (h9:Am.look T 9 = .int .i64 (n:Nat)) (h11:Am.look T 11 = .ref 49 v49 .o) (H:List (Nat × Blk))
  (hH:subA H [(49,.row v49 42 4 ((List.replicate n (m1 k v)).map encM)),(100,blkW 101 102 (wiT k v u n 0) v0 vm va),(101,blkO (wiT k v u n 0) vm),(102,blkA (wiT k v u n 0) va)]) :
  W6_b30 (retK Try.prog [.tmp 6] (.bool true)) ⟨Am.look T,hls H VS,noG⟩:=by
 simp [-W6_l29]
 refine sLoop_intro (fun i:Nat=>i ≤ n) (fun i=>n - i) (fun i=>[(1,.int .i64 v),(7,.ref 100 v0 (.p 0)),(9,.int .i64 (n:Nat)),(11,.ref 49 v49 .o),(12,.int .i64 (if i = 0 then 0 else 1)),(13,.int .i64 (i:Nat))])
  (fun i=>[(49,.row v49 42 4 ((List.replicate n (m1 k v)).map encM)),(100,blkW 101 102 (wiT k v u n i) v0 vm va),(101,blkO (wiT k v u n i) vm),(102,blkA (wiT k v u n i) va)]) 0 (by simp) (by simp [h1,h7,h9,h11]) hH ?_
 rintro L i vt hi hL
 by_cases h:i < n
 ·have h':(i:Int) < n:=by omega
  have q:=hb_dlv (wiT k v u n i) 0 v0 vm va (by simp [wiT]; omega) (by simp [wiT]) (by simp [wiT])
  rw [wiT_dl k v u n i va h] at q
  have hx:encM (m1 k v) = [.bool true,.str nPay,.int .i64 k,.int .i64 v]:=rfl
  have hwr:IntKind.wrap .i64 ((i:Int) + 1) = ((i + 1:Nat):Int):=by rw [wrap64 (by omega) (by omega)]; rfl
  simp only at hL ⊢
  simp [-W6_k14,-W6_b19,h,h',hx]
  simp [-W6_k14,-W6_k15]
  refine scall_heap [(100,100),(101,101),(102,102)] [] q (by simp) (by simp) (by simp) ?_
  rintro r l' VS ⟨rfl,rfl⟩
  refine ⟨by simp [wireB],?_⟩
  by_cases h0:i = 0
  ·subst h0
   simp [-W6_k14,-W6_k15,wireB,encV]
   simp [-W6_k14]
   exact hL _ _ _ 1 (by omega) (by omega) (by simp [show IntKind.wrap .i64 1 = 1 from by decide +kernel]) (by simp [hx])
  ·simp [-W6_k14,-W6_k15,wireB,encV,h0]
   simp [-W6_k14,hwr]
   exact hL _ _ _ (i + 1) (by omega) (by omega) (by simp [h0]) (by simp [hx])
 ·have hin:i = n:=by omega
  subst hin
  have h':¬ (i:Int) < i:=by omega
  simp only at hL ⊢
  simp [-W6_k14,h']
  exact los_k14 k v u i v0 vm va _ _ vt (by simp) (by simp [show ¬ i = 0 by omega]) hn _ rfl
theorem los_k43 (k v u:Int) (n:Nat) (hn:0 < n) (hn7:n ≤ 6) (v0 vm va:Nat) (T:List (Nat × AV)) (VS:Nat → Nat) (h1:Am.look T 1 = .int .i64 v) (h7:Am.look T 7 = .ref 100 v0 (.p 0)) (h9:Am.look T 9 = .int .i64 (n:Nat)) :
  W6_k43 (retK Try.prog [.tmp 6] (.bool true)) ⟨Am.look T,hls [(100,blkW 101 102 (wiT k v u n 0) v0 vm va),(101,blkO (wiT k v u n 0) vm),(102,blkA (wiT k v u n 0) va)] VS,noG⟩:=by
 have q1:=hb_flt (wiT k v u n 0) v0 vm va (by simp [wiT]; omega)
 have q2:=hb_app (wiT k v u n 0) v0 vm va (by simp [wiT])
 have e1:(wiT k v u n 0).F = List.replicate n (m1 k v):=by simp [wiT]
 have e2:(wiT k v u n 0).A = [⟨nPay,k,v⟩]:=rfl
 rw [e1] at q1
 rw [e2] at q2
 simp [-W6_b30,h7]
 refine scall_heap [(100,100),(101,101),(102,102)] [(49,7)] q1 (by simp) (by simp) (by simp) ?_
 rintro r l' VS ⟨v49,rfl,rfl⟩
 refine ⟨by simp,?_⟩
 simp [-W6_b30,h7,h9]
 refine scall_heap [(100,100),(101,101),(102,102)] [(56,7)] q2 (by simp) (by simp) (by simp) ?_
 rintro r l' VS ⟨v56,rfl,rfl⟩
 refine ⟨by simp,?_⟩
 simp [-W6_b30,h7,h9]
 refine scall_heap [(100,100),(101,101),(102,102)] [(62,7)] q2 (by simp) (by simp) (by simp) ?_
 rintro r l' VS ⟨v62,rfl,rfl⟩
 refine ⟨by simp,?_⟩
 simp [-W6_b30,h1,encV]
 exact los_b30 k v u n hn hn7 v0 vm va v49 _ VS (by simp [h1]) (by simp [h7]) (by simp [h9]) (by simp) _ (by simp)
theorem los_k48 (k v u t:Int) (n:Nat) (hn:0 < n) (hn7:n ≤ 6) (ht:within t 6 + 1 = n) (v0 vm va:Nat) (T:List (Nat × AV)) (VS:Nat → Nat) (h1:Am.look T 1 = .int .i64 v) (h2:Am.look T 2 = .int .i64 t) (h7:Am.look T 7 = .ref 100 v0 (.p 0)) :
  W6_k48 (retK Try.prog [.tmp 6] (.bool true)) ⟨Am.look T,hls [(100,blkW 101 102 (wiL k v u n 0) v0 vm va),(101,blkO (wiL k v u n 0) vm),(102,blkA (wiL k v u n 0) va)] VS,noG⟩:=by
 have hw:=sp_wit t 6 (by omega) (by omega)
 have g0:=within_ge t 6 (by omega)
 have hwr0:IntKind.wrap .i64 (within t 6 + 1) = n:=by rw [wrap64 (by omega) (by omega)]; exact ht
 simp [-W6_l46,h2]
 refine scall_pure hw (by simp) (by simp) ?_
 simp [-W6_l46,hwr0]
 refine sLoop_intro (fun i:Nat=>i ≤ n) (fun i=>n - i) (fun i=>[(1,.int .i64 v),(7,.ref 100 v0 (.p 0)),(9,.int .i64 (n:Nat)),(10,.int .i64 (i:Nat))])
  (fun i=>[(100,blkW 101 102 (wiL k v u n i) v0 vm (if i = 0 then va else va + 1)),(101,blkO (wiL k v u n i) vm),(102,blkA (wiL k v u n i) (if i = 0 then va else va + 1))]) 0 (by simp) (by simp [h1,h7]) (by simp) ?_
 rintro L i vt hi hL
 by_cases h:i < n
 ·have h':(i:Int) < n:=by omega
  have q:=hb_dlv (wiL k v u n i) 0 v0 vm (if i = 0 then va else va + 1) (by simp [wiL]; omega) (by simp only [wiL]; split <;> simp) (by simp [wiL])
  rw [wiL_dl k v u n i va h] at q
  have hwr:IntKind.wrap .i64 ((i:Int) + 1) = ((i + 1:Nat):Int):=by rw [wrap64 (by omega) (by omega)]; rfl
  generalize (if i = 0 then va else va + 1) = va2 at *
  simp only at hL ⊢
  simp [-W6_k43,h,h']
  refine scall_heap [(100,100),(101,101),(102,102)] [] q (by simp) (by simp) (by simp) ?_
  rintro r l' VS ⟨rfl,rfl⟩
  refine ⟨by simp [wireB],?_⟩
  simp [-W6_k43,wireB,hwr]
  exact hL _ _ _ (i + 1) (by omega) (by omega) (by simp) (by simp)
 ·have hin:i = n:=by omega
  subst hin
  have h':¬ (i:Int) < i:=by omega
  have e:=wiL_T k v u i hn
  rw [e]
  simp only at hL ⊢
  simp [-W6_k43,h',show ¬ i = 0 by omega]
  exact los_k43 k v u i hn hn7 v0 vm (va + 1) _ vt (by simp) (by simp) (by simp)
theorem sp_los (k v t:Int):Am.Spec Try.prog 6 [.int .i64 k,.int .i64 v,.int .i64 t] (.bool true):=by
 have g0:=within_ge t 6 (by omega)
 have g1:=within_lt t 6 (by omega)
 have hw:=sp_wit t 6 (by omega) (by omega)
 obtain ⟨c,hc⟩:∃ c:Nat,within t 6 = c:=⟨(within t 6).toNat,by omega⟩
 have hk48:=los_k48
 obtain ⟨u,hu⟩:∃ u,IntKind.wrap .i64 (v + 1) = u:=⟨_,rfl⟩
 have hn:=HSpecL_arg (a:=.slt [[.int .i64 v],[.int .i64 u]]) (fun C v=>R_slt) (hb_new [v,u] (by simp))
 have q1:=fun v0 vm va=>hb_ask (newM [v,u]) ⟨nPay,k,0⟩ v0 vm va (by simp [newM]) (by simp [newM])
 have e1:askM (newM [v,u]) ⟨nPay,k,0⟩ = wiL k v u 1 0:=rfl
 simp only [e1] at q1
 refine W6_S (by simp) ?_
 intro vs
 simp [-W6_l54]
 refine scall_pure sp_kno (by simp) (by simp) ?_
 simp [-W6_l54,hu]
 refine scall_heap [] [(100,7),(101,5),(102,9)] hn (by simp) (by simp) (by simp) ?_
 rintro r l' VS ⟨v0,vm,va,rfl,rfl⟩
 refine ⟨by simp,?_⟩
 simp [-W6_l54]
 refine scall_heap [(100,100),(101,101),(102,102)] [] (q1 v0 vm va) (by simp [nPay,encV]) (by simp) (by simp) ?_
 rintro r l' VS ⟨rfl,rfl⟩
 refine ⟨by simp [wireB],?_⟩
 simp [-W6_l54,wireB]
 refine sLoop_intro (fun i:Nat=>i ≤ c) (fun i=>c - i) (fun i=>[(1,.int .i64 v),(2,.int .i64 t),(7,.ref 100 v0 (.p 0)),(8,.int .i64 (i:Nat))])
  (fun i=>[(100,blkW 101 102 (wiL k v u (i + 1) 0) v0 vm va),(101,blkO (wiL k v u (i + 1) 0) vm),(102,blkA (wiL k v u (i + 1) 0) va)]) 0 (by simp) (by simp) (by simp) ?_
 rintro L i vt hi hL
 simp only at hL ⊢
 rw [hc] at hw
 by_cases h:i < c
 ·have h':(i:Int) < c:=by omega
  have q:=hb_twc (wiL k v u (i + 1) 0) 0 v0 vm va (by simp [wiL]; omega)
  rw [wiL_tw k v u (i + 1) (by omega),decide_eq_true (by simp [wiL])] at q
  have hwr:IntKind.wrap .i64 ((i:Int) + 1) = ((i + 1:Nat):Int):=by rw [wrap64 (by omega) (by omega)]; rfl
  simp [-W6_k48]
  refine scall_pure hw (by simp) (by simp) ?_
  simp [-W6_k48,h,h']
  refine scall_heap [(100,100),(101,101),(102,102)] [] q (by simp) (by simp) (by simp) ?_
  rintro r l' VS ⟨rfl,rfl⟩
  refine ⟨by simp [wireB],?_⟩
  simp [-W6_k48,wireB,hwr]
  exact hL _ _ _ (i + 1) (by omega) (by omega) (by simp) (by simp)
 ·have hin:i = c:=by omega
  subst hin
  have h':¬ (i:Int) < i:=by omega
  simp [-W6_k48]
  refine scall_pure hw (by simp) (by simp) ?_
  simp [-W6_k48,h']
  exact los_k48 k v u t (i + 1) (by omega) (by omega) (by rw [hc]; rfl) v0 vm va _ vt (by simp) (by simp) (by simp)
end Go.Proofs.Ytahchfkmpcfefaa
