import Derived.Test.YtnngddgaobhkiaaGreatGH16
import Derived.Test.YtnngddgaobhkiaaGreatGF25
import Derived.Test.YtnngddgaobhkiaaGreatGJ18
set_option linter.unusedVariables false
set_option linter.unusedSimpArgs false
namespace Go.Proofs.YtnngddgaobhkiaaGreat
open Go Go.Am Go.RowKit
attribute [local simp] W23 W23_rs W23_b1 W23_b3 W23_b4 W23_b19 W23_b21 W23_k2 W23_l20
theorem sp_ck8 (c:Cor) (hk:∀ t ∈ c.procs,t.lok ∧ t.wt ≤ 100000000):Am.Spec Tryz.prog 23 [.agg (encC c)] (.bool (chkM c)):=by
 by_cases c1:(20:Int) < c.vars.length
 ·have e:chkM c = false:=by simp only [chkM,decide_eq_false (show ¬ (c.vars.length:Int) ≤ 20 by omega),Bool.false_and]
  rw [e]
  refine W23_S (by simp) ?_
  intro vs
  simp [c1,retW_eq]
 by_cases c2:c.stacks < 0
 ·have e:chkM c = false:=by simp only [chkM,decide_eq_false (show ¬ 0 ≤ c.stacks by omega),Bool.false_and,Bool.and_false]
  rw [e]
  refine W23_S (by simp) ?_
  intro vs
  simp [c1,c2,retW_eq]
 by_cases c3:10 < c.stacks
 ·have e:chkM c = false:=by simp only [chkM,decide_eq_false (show ¬ c.stacks ≤ 10 by omega),Bool.false_and,Bool.and_false]
  rw [e]
  refine W23_S (by simp) ?_
  intro vs
  simp [c1,c2,c3,retW_eq]
 by_cases c4:(c.procs.length:Int) < 1
 ·have e:chkM c = false:=by simp only [chkM,decide_eq_false (show ¬ 1 ≤ (c.procs.length:Int) by omega),Bool.false_and,Bool.and_false]
  rw [e]
  refine W23_S (by simp) ?_
  intro vs
  simp [c1,c2,c3,c4,retW_eq]
 by_cases c5:20 < (c.procs.length:Int)
 ·have e:chkM c = false:=by simp only [chkM,decide_eq_false (show ¬ (c.procs.length:Int) ≤ 20 by omega),Bool.false_and,Bool.and_false]
  rw [e]
  refine W23_S (by simp) ?_
  intro vs
  simp [c1,c2,c3,c4,c5,retW_eq]
 by_cases c6:c.main < 0
 ·have e:chkM c = false:=by simp only [chkM,decide_eq_false (show ¬ 0 ≤ c.main by omega),Bool.false_and,Bool.and_false]
  rw [e]
  refine W23_S (by simp) ?_
  intro vs
  simp [c1,c2,c3,c4,c5,c6,retW_eq]
 by_cases c7:(c.procs.length:Int) ≤ c.main
 ·have e:chkM c = false:=by simp only [chkM,decide_eq_false (show ¬ c.main < (c.procs.length:Int) by omega),Bool.false_and,Bool.and_false]
  rw [e]
  refine W23_S (by simp) ?_
  intro vs
  simp [c1,c2,c3,c4,c5,c6,c7,retW_eq]
 have e:chkM c = c.procs.all (chkT c.vars.length c.stacks c.procs.length):=by
  simp only [chkM,decide_eq_true (show (c.vars.length:Int) ≤ 20 by omega),decide_eq_true (show 0 ≤ c.stacks by omega),decide_eq_true (show c.stacks ≤ 10 by omega),decide_eq_true (show 1 ≤ (c.procs.length:Int) by omega),decide_eq_true (show (c.procs.length:Int) ≤ 20 by omega),decide_eq_true (show 0 ≤ c.main by omega),decide_eq_true (show c.main < (c.procs.length:Int) by omega),Bool.true_and]
 rw [e]
 refine W23_S (by simp) ?_
 intro vs
 simp [-W23_l20,c1,c2,c3,c4,c5,c6,c7]
 refine sLoop_intro (fun i=>i ≤ c.procs.length ∧ c.procs.all (chkT c.vars.length c.stacks c.procs.length) = (c.procs.drop i).all (chkT c.vars.length c.stacks c.procs.length)) (fun i=>c.procs.length - i)
  (fun i=>[(1,.ref 1 (vs 1 + 1) (.p 0)),(3,.int .i64 (i:Nat))]) (fun _=>[(1,.box (vs 1 + 1) 29 (encC c))]) 0 (by simp) (by simp) (by simp) ?_
 rintro L i vt ⟨hi,hj⟩ hL
 by_cases h:i < c.procs.length
 ·have h':(i:Int) < c.procs.length:=by omega
  obtain ⟨hlok,hwt⟩:=hk _ (List.getElem_mem h)
  have hsz:=tsz_wt c.procs[i]
  have h1:=sp_r5z c.procs[i] (by omega)
  have h2:=sp_any c.procs[i] hlok
  have h3:=sp_rr c.procs[i] c.vars.length c.stacks c.procs.length hlok
  rw [all_drop _ _ i h] at hj
  have hT:chkT c.vars.length c.stacks c.procs.length c.procs[i] = (decide (c.procs[i].size ≤ 2000) && (!tmAny c.procs[i] && tmRight c.vars.length c.stacks c.procs.length c.procs[i] false)):=rfl
  rw [hT] at hj
  generalize tmAny c.procs[i] = b2 at *
  generalize tmRight c.vars.length c.stacks c.procs.length c.procs[i] false = b3 at *
  cases b3
  ·rw [Bool.and_false,Bool.and_false,Bool.false_and] at hj
   rw [hj]
   simp [h,h']
   refine scall0_pure h3 (by simp) (by simp) ?_
   simp [retW_eq]
  ·cases b2
   ·by_cases k1:2000 < c.procs[i].size
    ·rw [decide_eq_false (show ¬ c.procs[i].size ≤ 2000 by omega)] at hj
     rw [hj]
     simp [h,h']
     refine scall0_pure h3 (by simp) (by simp) ?_
     simp [h,h']
     refine scall0_pure h2 (by simp) (by simp) ?_
     simp [h,h']
     refine scall0_pure h1 (by simp) (by simp) ?_
     simp [k1,retW_eq]
    ·rw [decide_eq_true (show c.procs[i].size ≤ 2000 by omega)] at hj
     simp [h,h']
     refine scall0_pure h3 (by simp) (by simp) ?_
     simp [h,h']
     refine scall0_pure h2 (by simp) (by simp) ?_
     simp [h,h']
     refine scall0_pure h1 (by simp) (by simp) ?_
     simp [k1]
     rw [wrap64 (by omega) (by omega)]
     refine hL _ _ _ (i + 1) ⟨h,by rw [hj]; rfl⟩ (by omega) (by simp) (by simp)
   ·rw [Bool.not_true,Bool.false_and,Bool.and_false,Bool.false_and] at hj
    rw [hj]
    simp [h,h']
    refine scall0_pure h3 (by simp) (by simp) ?_
    simp [h,h']
    refine scall0_pure h2 (by simp) (by simp) ?_
    simp [retW_eq]
 ·have h':¬ (i:Int) < c.procs.length:=by omega
  rw [hj,all_end _ _ i (by omega)]
  simp [h,h',retW_eq]
end Go.Proofs.YtnngddgaobhkiaaGreat
