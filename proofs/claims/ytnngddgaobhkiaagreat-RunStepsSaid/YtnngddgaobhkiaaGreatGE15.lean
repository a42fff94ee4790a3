import Derived.Test.YtnngddgaobhkiaaGreatGJ14
import Derived.Test.YtnngddgaobhkiaaGreatGQ11
import Derived.Test.YtnngddgaobhkiaaGreatGW8
import Derived.Test.YtnngddgaobhkiaaGreatGW9
set_option linter.unusedVariables false
set_option linter.unusedSimpArgs false
namespace Go.Proofs.YtnngddgaobhkiaaGreat
open Go Go.Am Go.RowKit
attribute [local simp] W63 W63_rs W63_b1 W63_b2 W63_b3 W63_b4 W63_b6 W63_k5 W26 W26_rs W26_b1 W26_b4 W26_b7 W26_k2 W26_l6
def aN (t:Tm):Nat:=if t.kind = 12 ∨ t.kind = 7 then 1 else if t.kind = 11 then 2 else 0
theorem sp_a5 (t:Tm):Am.Spec Tryz.prog 63 [.agg (encT t)] (.int .i64 (aN t:Nat)):=by
 by_cases k1:t.kind = 12
 ·refine W63_S (by simp) ?_
  intro vs
  simp [k1,aN,retW_eq]
 ·by_cases k2:t.kind = 7
  ·refine W63_S (by simp) ?_
   intro vs
   simp [k1,k2,aN,retW_eq]
  ·by_cases k3:t.kind = 11
   ·refine W63_S (by simp) ?_
    intro vs
    simp [k1,k2,k3,aN,retW_eq]
   ·refine W63_S (by simp) ?_
    intro vs
    simp [k1,k2,k3,aN,retW_eq]
theorem aN_le (t:Tm) (h:okN t = true):aN t ≤ t.l.length ∧ aN t ≤ 2:=by
 unfold aN
 split
 ·rename_i k
  rcases k with k | k
  ·obtain ⟨x,y,hl,-⟩:=okN_two h (.inl k); simp [hl]
  ·obtain ⟨x,hl,-⟩:=okN_one h k; simp [hl]
 ·split
  ·rename_i k
   obtain ⟨x,y,hl,-⟩:=okN_two h (.inr k); simp [hl]
  ·simp
theorem okN_mem {t:Tm} (h:okN t = true):∀ x ∈ t.l,okN x = true:=by
 rw [okN_eq] at h
 simp only [Bool.and_eq_true] at h
 exact okNs_mem h.2.2
def wk (t:Tm) (i:Nat):List Int:=(t.l.take i).flatMap Tm.waits
theorem acts_waits:∀ l:List Tm,((Tm.acts l).filterMap fun x=>if x.kind = 14 then some x.a else none) = l.flatMap Tm.waits
 | []=>rfl
 | x :: l=>by
  rw [Tm.acts_cons,List.filterMap_append,acts_waits l,List.flatMap_cons]
  rfl
theorem waits_eq (t:Tm) (h:okN t = true):t.waits = if t.kind = 14 then [t.a] else wk t (aN t):=by
 have e:t.waits = ((t :: Tm.acts t.kidsA).filterMap fun x=>if x.kind = 14 then some x.a else none):=by unfold Tm.waits; rw [Tm.act_eq]
 have e2:=acts_waits t.kidsA
 by_cases k14:t.kind = 14
 ·have hk:t.kidsA = []:=by simp [Tm.kidsA,k14]
  rw [e,hk,if_pos k14]
  simp [Tm.acts,k14]
 ·rw [e,List.filterMap_cons,if_neg k14,if_neg k14]
  simp only
  rw [e2]
  have hk:t.kidsA = t.l.take (aN t):=by
   unfold Tm.kidsA aN
   by_cases k12:t.kind = 12
   ·simp [k12]
   ·by_cases k7:t.kind = 7
    ·obtain ⟨x,hl,-⟩:=okN_one h k7; simp [k7,hl]
    ·by_cases k11:t.kind = 11
     ·obtain ⟨x,y,hl,-⟩:=okN_two h (.inr k11); simp [k11,hl]
     ·simp [k12,k7,k11]
  rw [hk,wk]
theorem wk_succ (t:Tm) (i:Nat) (h:i < t.l.length):wk t (i + 1) = wk t i ++ t.l[i].waits:=by
 unfold wk
 rw [List.take_succ_eq_append_getElem h]
 simp only [List.flatMap_append,List.flatMap_cons,List.flatMap_nil,List.append_nil]
theorem wk_len (t:Tm) (i:Nat):(wk t i).length ≤ Tm.wts t.l:=by
 unfold wk
 have:∀ l:List Tm,(l.flatMap Tm.waits).length ≤ Tm.wts l:=by
  intro l
  induction l with
  | nil=>simp [Tm.wts]
  | cons x l ih=>have:=x.waits_len; simp only [List.flatMap_cons,List.length_append,Tm.wts]; omega
 have h1:=this (t.l.take i)
 have h2:∀ (l:List Tm) (i:Nat),Tm.wts (l.take i) ≤ Tm.wts l:=by
  intro l
  induction l with
  | nil=>simp
  | cons x l ih=>intro i; cases i with
   | zero=>simp [Tm.wts]
   | succ i=>have:=ih i; simp only [List.take_succ_cons,Tm.wts]; omega
 exact Nat.le_trans h1 (h2 _ _)
@[simp] theorem encI_cells' (p:List Int):(∀ x ∈ encI p,x.length = 1 ∧ ∀ c ∈ x,c.cell = true) ↔ True:=⟨fun _=>trivial,fun _=>encI_cell p⟩
theorem sp_w5 (t:Tm) (h:okN t = true) (hw:t.wt ≤ 100000000):Am.Spec Tryz.prog 26 [.agg (encT t)] (.sl (encI t.waits)):=by
 have ih:∀ y ∈ t.l,Am.Spec Tryz.prog 26 [.agg (encT y)] (.sl (encI y.waits)):=fun y hy=>sp_w5 y (okN_mem h y hy) (by have:=Tm.wts_mem hy; have:=t.wt_eq; omega)
 have hwt:=t.wt_eq
 have ha:=aN_le t h
 have hac:=sp_a5 t
 rw [waits_eq t h]
 by_cases k14:t.kind = 14
 ·rw [if_pos k14]
  refine W26_S (by simp) ?_
  intro vs
  simp [k14,retW_eq,encI]
 ·rw [if_neg k14]
  refine W26_S (by simp) ?_
  intro vs
  simp [-W26_l6,k14]
  refine sLoop_intro (fun a:Nat × Nat=>a.1 ≤ aN t) (fun a=>aN t - a.1) (fun a=>[(1,.ref 1 (vs 1 + 1) (.p 0)),(3,if a.1 = 0 then .nils else .ref 24 a.2 .o),(4,.int .i64 (a.1:Nat))])
   (fun a=>(1,.box (vs 1 + 1) 35 (encT t)) :: if a.1 = 0 then [] else [(24,.row a.2 3 1 (encI (wk t a.1)))]) (0,0) (by simp) (by simp) (by simp) ?_
  rintro L ⟨i,w⟩ vt hi hL
  simp only at hi hL ⊢
  by_cases hc:i < aN t
  ·have hc':(i:Int) < aN t:=by omega
   have hil:i < t.l.length:=by omega
   have hil':(i:Int) < t.l.length:=by omega
   have hx:=ih _ (List.getElem_mem hil)
   have hs:=wk_succ t i hil
   have hlen:=wk_len t i
   have hlen2:=(t.l[i]).waits_len
   have hmem:=Tm.wts_mem (List.getElem_mem hil)
   by_cases h0:i = 0
   ·subst h0
    simp
    refine scall_pure hac (by simp) (by simp) ?_
    simp [hc,hil]
    refine scall_pure hx (by simp) (by simp) ?_
    simp
    rw [decide_eq_true (by omega)]
    simp
    rw [wrap64 (by omega) (by omega)]
    refine hL _ _ _ (1,vt 24 + 1) (by simp only; omega) (by simp only; omega) (by simp) ?_
    have:wk t 1 = t.l[0].waits:=by simpa [wk] using hs
    simp [this]
   ·simp [h0]
    refine scall_pure hac (by simp) (by simp) ?_
    simp [hc,hil]
    refine scall_pure hx (by simp) (by simp) ?_
    simp
    rw [decide_eq_true (by omega)]
    simp
    rw [wrap64 (by omega) (by omega)]
    refine hL _ _ _ (i + 1,w + 1) (by simp only; omega) (by simp only; omega) (by simp) ?_
    simp [hs,encI]
  ·obtain rfl:i = aN t:=by omega
   by_cases h0:aN t = 0
   ·simp [h0]
    refine scall_pure hac (by simp) (by simp) ?_
    simp [h0,retW_eq,wk,encI]
   ·simp [h0]
    refine scall_pure hac (by simp) (by simp) ?_
    simp [h0,retW_eq]
termination_by SizeOf.sizeOf t
decreasing_by exact Tm.lt_of_mem hy
end Go.Proofs.YtnngddgaobhkiaaGreat
set_option linter.unusedVariables false
set_option linter.unusedSimpArgs false
namespace Go.Proofs.YtnngddgaobhkiaaGreat
open Go Go.Am Go.RowKit
end Go.Proofs.YtnngddgaobhkiaaGreat
