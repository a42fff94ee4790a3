import Derived.Test.YtnngddgaobhkiaaGreatGJ14
import Derived.Test.YtnngddgaobhkiaaGreatGQ11
import Derived.Test.YtnngddgaobhkiaaGreatGW8
import Derived.Test.YtnngddgaobhkiaaGreatGW9
set_option linter.unusedVariables false
set_option linter.unusedSimpArgs false
namespace Go.Proofs.YtnngddgaobhkiaaGreat
open Go Go.Am Go.RowKit
attribute [local simp] W63 W63_rs W63_b1 W63_b2 W63_b3 W63_b4 W63_b6 W63_k5 W26 W26_rs W26_b1 W26_b4 W26_b7 W26_k2 W26_l6
def aN (t:Tm):Nat:=if t.kind = 12 ∨ t.kind = 7 then 1 else if t.kind = 11 then 2 else 0
theorem sp_a5 (t:Tm):Am.Spec Tryz.prog 63 [.agg (encT t)] (.int .i64 (aN t:Nat)):=by
 by_cases k1:t.kind = 12
 ·refine W63_S (by simp) ?_
  intro vs
  simp [k1,aN,retW_eq]
 ·by_cases k2:t.kind = 7
  ·refine W63_S (by simp) ?_
   intro vs
   simp [k1,k2,aN,retW_eq]
  ·by_cases k3:t.kind = 11
   ·refine W63_S (by simp) ?_
    intro vs
    simp [k1,k2,k3,aN,retW_eq]
   ·refine W63_S (by simp) ?_
    intro vs
    simp [k1,k2,k3,aN,retW_eq]
theorem aN_le (t:Tm) (h:okN t = true):aN t ≤ t.l.length ∧ aN t ≤ 2:=by
 unfold aN
 split
 ·rename_i k
  rcases k with k | k
  ·obtain ⟨x,y,hl,-⟩:=okN_two h (.inl k); simp [hl]
  ·obtain ⟨x,hl,-⟩:=okN_one h k; simp [hl]
 ·split
  ·rename_i k
   obtain ⟨x,y,hl,-⟩:=okN_two h (.inr k); simp [hl]
  ·simp
theorem okN_mem {t:Tm} (h:okN t = true):∀ x ∈ t.l,okN x = true:=by
 rw [okN_eq] at h
 simp only [Bool.and_eq_true] at h
 exact okNs_mem h.2.2
def wk (t:Tm) (i:Nat):List Int:=(t.l.take i).flatMap Tm.waits
theorem acts_waits:∀ l:List Tm,((Tm.acts l).filterMap fun x=>if x.kind = 14 then some x.a else none) = l.flatMap Tm.waits
 | []=>rfl
 | x :: l=>by
  rw [Tm.acts_cons,List.filterMap_append,acts_waits l,List.flatMap_cons]
  rfl
theorem waits_eq (t:Tm) (h:okN t = true):t.waits = if t.kind = 14 then [t.a] else wk t (aN t):=by
 have e:t.waits = ((t :: Tm.acts t.kidsA).filterMap fun x=>if x.kind = 14 then some x.a else none):=by unfold Tm.waits; rw [Tm.act_eq]
 have e2:=acts_waits t.kidsA
 by_cases k14:t.kind = 14
 ·have hk:t.kidsA = []:=by simp [Tm.kidsA,k14]
  rw [e,hk,if_pos k14]
  simp [Tm.acts,k14]
 ·rw [e,List.filterMap_cons,if_neg k14,if_neg k14]
  simp only
  rw [e2]
  have hk:t.kidsA = t.l.take (aN t):=by
   unfold Tm.kidsA aN
   by_cases k12:t.kind = 12
   ·simp [k12]
   ·by_cases k7:t.kind = 7
    ·obtain ⟨x,hl,-⟩:=okN_one h k7; simp [k7,hl]
    ·by_cases k11:t.kind = 11
     ·obtain ⟨x,y,hl,-⟩:=okN_two h (.inr k11); simp [k11,hl]
     ·simp [k12,k7,k11]
  rw [hk,wk]
theorem wk_succ (t:Tm) (i:Nat) (h:i < t.l.length):wk t (i + 1) = wk t i ++ t.l[i].waits:=by
 unfold wk
 rw [List.take_succ_eq_append_getElem h]
 simp only [List.flatMap_append,List.flatMap_cons,List.flatMap_nil,List.append_nil]
theorem wk_len (t:Tm) (i:Nat):(wk t i).length ≤ Tm.wts t.l:=by
 unfold wk
 have:∀ l:List Tm,(l.flatMap Tm.waits).length ≤ Tm.wts l:=by
  intro l
  induction l with
  | nil=>simp [Tm.wts]
  | cons x l ih=>have:=x.waits_len; simp only [List.flatMap_cons,List.length_append,Tm.wts]; omega
 have h1:=this (t.l.take i)
 have h2:∀ (l:List Tm) (i:Nat),Tm.wts (l.take i) ≤ Tm.wts l:=by
  intro l
  induction l with
  | nil=>simp
  | cons x l ih=>intro i; cases i with
   | zero=>simp [Tm.wts]
   | succ i=>have:=ih i; simp only [List.take_succ_cons,Tm.wts]; omega
 exact Nat.le_trans h1 (h2 _ _)
@[simp] theorem encI_cells' (p:List Int):(∀ x ∈ encI p,x.length = 1 ∧ ∀ c ∈ x,c.cell = true) ↔ True:=⟨fun _=>trivial,fun _=>encI_cell p⟩
theorem sp_w5 (t:Tm) (h:okN t = true) (hw:t.wt ≤ 100000000):Am.Spec Tryz.prog 26 [.agg (encT t)] (.sl (encI t.waits)):=by
 have ih:∀ y ∈ t.l,Am.Spec Tryz.prog 26 [.agg (encT y)] (.sl (encI y.waits)):=fun y hy=>sp_w5 y (okN_mem h y hy) (by have:=Tm.wts_mem hy; have:=t.wt_eq; omega)
 have hwt:=t.wt_eq
 have ha:=aN_le t h
 have hac:=sp_a5 t
 rw [waits_eq t h]
 by_cases k14:t.kind = 14
 ·rw [if_pos k14]
  refine W26_S (by simp) ?_
  intro vs
  simp [k14,retW_eq,encI]
 ·rw [if_neg k14]
  refine W26_S (by simp) ?_
  intro vs
  simp [-W26_l6,k14]
  refine sLoop_intro (fun a:Nat × Nat=>a.1 ≤ aN t) (fun a=>aN t - a.1) (fun a=>[(1,.ref 1 (vs 1 + 1) (.p 0)),(3,if a.1 = 0 then .nils else .ref 24 a.2 .o),(4,.int .i64 (a.1:Nat))])
   (fun a=>(1,.box (vs 1 + 1) 35 (encT t)) :: if a.1 = 0 then [] else [(24,.row a.2 3 1 (encI (wk t a.1)))]) (0,0) (by simp) (by simp) (by simp) ?_
  rintro L ⟨i,w⟩ vt hi hL
  simp only at hi hL ⊢
  by_cases hc:i < aN t
  ·have hc':(i:Int) < aN t:=by omega
   have hil:i < t.l.length:=by omega
   have hil':(i:Int) < t.l.length:=by omega
   have hx:=ih _ (List.getElem_mem hil)
   have hs:=wk_succ t i hil
   have hlen:=wk_len t i
   have hlen2:=(t.l[i]).waits_len
   have hmem:=Tm.wts_mem (List.getElem_mem hil)
   by_cases h0:i = 0
   ·subst h0
    simp
    refine scall_pure hac (by simp) (by simp) ?_
    simp [hc,hil]
    refine scall_pure hx (by simp) (by simp) ?_
    simp
    rw [decide_eq_true (by omega)]
    simp
    rw [wrap64 (by omega) (by omega)]
    refine hL _ _ _ (1,vt 24 + 1) (by simp only; omega) (by simp only; omega) (by simp) ?_
    have:wk t 1 = t.l[0].waits:=by simpa [wk] using hs
    simp [this]
   ·simp [h0]
    refine scall_pure hac (by simp) (by simp) ?_
    simp [hc,hil]
    refine scall_pure hx (by simp) (by simp) ?_
    simp
    rw [decide_eq_true (by omega)]
    simp
    rw [wrap64 (by omega) (by omega)]
    refine hL _ _ _ (i + 1,w + 1) (by simp only; omega) (by simp only; omega) (by simp) ?_
    simp [hs,encI]
  ·obtain rfl:i = aN t:=by omega
   by_cases h0:aN t = 0
   ·simp [h0]
    refine scall_pure hac (by simp) (by simp) ?_
    simp [h0,retW_eq,wk,encI]
   ·simp [h0]
    refine scall_pure hac (by simp) (by simp) ?_
    simp [h0,retW_eq]
termination_by SizeOf.sizeOf t
decreasing_by exact Tm.lt_of_mem hy
end Go.Proofs.YtnngddgaobhkiaaGreat
namespace Go.Proofs.YtnngddgaobhkiaaGreat
open Go Go.Am Go.RowKit
attribute [local simp] W79 W79_rs W79_b1 W79_b3 W79_b4 W79_b6 W79_b8 W79_k2 W79_l7 W36 W36_rs W36_b1 W36_b3 W36_b4 W36_b6 W36_b8 W36_k2 W36_l7
theorem sp_s2_loop (x y:Ex) (hlm:x.l.length = y.l.length) (hw:x.l.length ≤ 137438953472) (ih:∀ z ∈ x.l,∀ y,Am.Spec Tryz.prog 79 [.agg (encE z),.agg (encE y)] (.bool (Ex.same z y)))
  (v2 v3:Nat) (T:List (Nat × AV)) (H:List (Nat × Blk)) (vs:Nat → Nat) (hT:Am.subT T [(2,.ref 2 v2 (.p 0)),(3,.ref 3 v3 (.p 0)),(5,.int .i64 0)]) (hH:subA H [(2,.box v2 33 (encE x)),(3,.box v3 33 (encE y))]) :
  @sLoop ⟨Am.look T,hls H vs,noG⟩ ⟨fun L0 s=>W79_l7 (retK Tryz.prog [.tmp 4] (.bool (eqL Ex.same x.l y.l))) L0 s⟩:=by
 refine sLoop_intro (fun i=>i ≤ y.l.length ∧ eqL Ex.same x.l y.l = eqL Ex.same (x.l.drop i) (y.l.drop i)) (fun i=>y.l.length - i) (fun i=>[(2,.ref 2 v2 (.p 0)),(3,.ref 3 v3 (.p 0)),(5,.int .i64 (i:Nat))])
  (fun _=>[(2,.box v2 33 (encE x)),(3,.box v3 33 (encE y))]) 0 (by simp) (by simpa using hT) (by simpa using hH) ?_
 rintro L i vt ⟨hi,hj⟩ hL
 by_cases h:i < y.l.length
 ·have hl2:i < x.l.length:=by omega
  have h':(i:Int) < x.l.length:=by omega
  have hd:=eqL_drop Ex.same x.l y.l i hl2 h
  have hx:=ih _ (List.getElem_mem hl2) y.l[i]
  generalize hb:Ex.same x.l[i] y.l[i] = b at *
  cases b
  ·rw [hj,hd]
   simp [h,h',hl2]
   refine scall0_pure hx (by simp) (by simp) ?_
   simp [retW_eq]
  ·simp [h,h',hl2]
   refine scall0_pure hx (by simp) (by simp) ?_
   simp
   rw [wrap64 (by omega) (by omega)]
   exact hL _ _ _ (i + 1) ⟨h,by rw [hj,hd]; simp⟩ (by omega) (by simp) (by simp)
 ·have e:=eqL_end Ex.same x.l y.l i (by omega) hlm
  have h2:¬ i < x.l.length:=by omega
  have h':¬ (i:Int) < x.l.length:=by omega
  rw [hj,e]
  simp [h,h',h2,retW_eq]
theorem sp_s2 (x y:Ex) (hw:x.lok):Am.Spec Tryz.prog 79 [.agg (encE x),.agg (encE y)] (.bool (Ex.same x y)):=by
 have hlen:=Ex.lok_len hw
 have ih:∀ z ∈ x.l,∀ y,Am.Spec Tryz.prog 79 [.agg (encE z),.agg (encE y)] (.bool (Ex.same z y)):=fun z hz y=>sp_s2 z y (Ex.lok_mem hw hz)
 rw [Ex.same_eq]
 by_cases c1:x.kind = y.kind
 ·by_cases c2:x.n = y.n
  ·by_cases c3:x.name = y.name
   ·by_cases c4:x.l.length = y.l.length
    ·have c4':(x.l.length:Int) = y.l.length:=by omega
     rw [decide_eq_true c1,decide_eq_true c2,decide_eq_true c3]
     simp only [Bool.true_and]
     refine W79_S (by simp) ?_
     intro vs
     simp [-W79_l7,c1,c2,c3,c4]
     exact sp_s2_loop x y c4 (by omega) ih (vs 2 + 1) (vs 3 + 1) _ _ _ (by simp) (by simp)
    ·have c4':¬ (x.l.length:Int) = y.l.length:=by omega
     rw [eqL_len _ _ _ c4]
     refine W79_S (by simp) ?_
     intro vs
     simp [c1,c2,c3,c4,c4',retW_eq]
   ·refine W79_S (by simp) ?_
    intro vs
    simp [c1,c2,c3,retW_eq]
  ·refine W79_S (by simp) ?_
   intro vs
   simp [c1,c2,retW_eq]
 ·refine W79_S (by simp) ?_
  intro vs
  simp [c1,retW_eq]
termination_by SizeOf.sizeOf x
decreasing_by exact Ex.lt_of_mem hz
theorem sp_s5_loop (x y:Tm) (hlm:x.l.length = y.l.length) (hw:x.l.length ≤ 137438953472) (ih:∀ z ∈ x.l,∀ y,Am.Spec Tryz.prog 36 [.agg (encT z),.agg (encT y)] (.bool (Tm.same z y)))
  (v2 v3:Nat) (T:List (Nat × AV)) (H:List (Nat × Blk)) (vs:Nat → Nat) (hT:Am.subT T [(2,.ref 2 v2 (.p 0)),(3,.ref 3 v3 (.p 0)),(5,.int .i64 0)]) (hH:subA H [(2,.box v2 35 (encT x)),(3,.box v3 35 (encT y))]) :
  @sLoop ⟨Am.look T,hls H vs,noG⟩ ⟨fun L0 s=>W36_l7 (retK Tryz.prog [.tmp 4] (.bool (eqL Tm.same x.l y.l))) L0 s⟩:=by
 refine sLoop_intro (fun i=>i ≤ y.l.length ∧ eqL Tm.same x.l y.l = eqL Tm.same (x.l.drop i) (y.l.drop i)) (fun i=>y.l.length - i) (fun i=>[(2,.ref 2 v2 (.p 0)),(3,.ref 3 v3 (.p 0)),(5,.int .i64 (i:Nat))])
  (fun _=>[(2,.box v2 35 (encT x)),(3,.box v3 35 (encT y))]) 0 (by simp) (by simpa using hT) (by simpa using hH) ?_
 rintro L i vt ⟨hi,hj⟩ hL
 by_cases h:i < y.l.length
 ·have hl2:i < x.l.length:=by omega
  have h':(i:Int) < x.l.length:=by omega
  have hd:=eqL_drop Tm.same x.l y.l i hl2 h
  have hx:=ih _ (List.getElem_mem hl2) y.l[i]
  generalize hb:Tm.same x.l[i] y.l[i] = b at *
  cases b
  ·rw [hj,hd]
   simp [h,h',hl2]
   refine scall0_pure hx (by simp) (by simp) ?_
   simp [retW_eq]
  ·simp [h,h',hl2]
   refine scall0_pure hx (by simp) (by simp) ?_
   simp
   rw [wrap64 (by omega) (by omega)]
   exact hL _ _ _ (i + 1) ⟨h,by rw [hj,hd]; simp⟩ (by omega) (by simp) (by simp)
 ·have e:=eqL_end Tm.same x.l y.l i (by omega) hlm
  have h2:¬ i < x.l.length:=by omega
  have h':¬ (i:Int) < x.l.length:=by omega
  rw [hj,e]
  simp [h,h',h2,retW_eq]
theorem sp_s5 (x y:Tm) (hw:x.lok):Am.Spec Tryz.prog 36 [.agg (encT x),.agg (encT y)] (.bool (Tm.same x y)):=by
 have hlen:=Tm.lok_len hw
 have ih:∀ z ∈ x.l,∀ y,Am.Spec Tryz.prog 36 [.agg (encT z),.agg (encT y)] (.bool (Tm.same z y)):=fun z hz y=>sp_s5 z y (Tm.lok_mem hw hz)
 have hse:=sp_s2 x.e y.e (Tm.lok_e hw)
 rw [Tm.same_eq]
 by_cases c1:x.kind = y.kind
 ·by_cases c2:x.a = y.a
  ·by_cases c3:x.b = y.b
   ·by_cases c4:x.name = y.name
    ·rw [decide_eq_true c1,decide_eq_true c2,decide_eq_true c3,decide_eq_true c4]
     generalize hb:Ex.same x.e y.e = b at *
     cases b
     ·refine W36_S (by simp) ?_
      intro vs
      simp [c1,c2,c3,c4]
      refine scall_pure hse (by simp) (by simp) ?_
      simp [retW_eq]
     ·by_cases c5:x.l.length = y.l.length
      ·have c5':(x.l.length:Int) = y.l.length:=by omega
       simp only [Bool.true_and]
       refine W36_S (by simp) ?_
       intro vs
       simp [-W36_l7,c1,c2,c3,c4]
       refine scall_pure hse (by simp) (by simp) ?_
       simp [-W36_l7,c5]
       exact sp_s5_loop x y c5 (by omega) ih (vs 2 + 1) (vs 3 + 1) _ _ _ (by simp) (by simp)
      ·have c5':¬ (x.l.length:Int) = y.l.length:=by omega
       rw [eqL_len _ _ _ c5]
       refine W36_S (by simp) ?_
       intro vs
       simp [c1,c2,c3,c4]
       refine scall_pure hse (by simp) (by simp) ?_
       simp [c5,c5',retW_eq]
    ·refine W36_S (by simp) ?_
     intro vs
     simp [c1,c2,c3,c4,retW_eq]
   ·refine W36_S (by simp) ?_
    intro vs
    simp [c1,c2,c3,retW_eq]
  ·refine W36_S (by simp) ?_
   intro vs
   simp [c1,c2,retW_eq]
 ·refine W36_S (by simp) ?_
  intro vs
  simp [c1,retW_eq]
termination_by SizeOf.sizeOf x
decreasing_by exact Tm.lt_of_mem hz
end Go.Proofs.YtnngddgaobhkiaaGreat
