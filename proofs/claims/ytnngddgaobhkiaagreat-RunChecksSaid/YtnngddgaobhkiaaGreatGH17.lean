import Derived.Test.YtnngddgaobhkiaaGreatGF13
import Derived.Test.YtnngddgaobhkiaaGreatGH16
import Derived.Test.YtnngddgaobhkiaaGreatGQ7
import Derived.Test.YtnngddgaobhkiaaGreatGJ12
import Derived.Test.YtnngddgaobhkiaaGreatGD10
set_option linter.unusedVariables false
set_option linter.unusedSimpArgs false
namespace Go.Proofs.YtnngddgaobhkiaaGreat
open Go Go.Am Go.RowKit
attribute [local simp] W85 W85_rs W85_b1 W85_b2 W115 W115_rs W115_b1 W115_b2 W86 W86_rs W86_b1 W86_b2 W86_b3 W86_b6 W86_b7 W86_b8 W86_b9 W86_b12 W87 W87_rs W87_b2 W87_b4 W87_b5 W87_b6 W87_b7 W87_b9 W87_b10 W87_b11 W87_b12 W87_b14 W87_b15 W87_b16 W87_b17 W87_b18 W87_b21 W87_b22 W87_b24 W87_b26 W87_b28 W87_b30 W87_b32 W87_b34 W87_b35 W87_b36 W87_b37 W87_b38 W87_b39 W87_b41 W87_b42 W87_b43 W87_b44 W87_k40 W47 W47_rs W47_b1 W47_b2 W47_b3 W47_b9 W47_b10 W47_b11 W47_b13 W47_b15 W47_b16 W47_b17 W47_b18 W47_b19 W47_b21 W47_b23 W47_b27 W47_b29 W47_b30 W47_b33 W47_b36 W47_b37 W47_b38 W47_b40 W47_b41 W47_b42
def encR (x:Int × Int):AV:=.tup [.int .i64 x.1,.int .i64 x.2]
theorem fit_in {n:Int} (h:isI64 n = true):fit n = (n,0):=by rw [fit,if_pos h]
theorem fit_out {n:Int} (h:¬ isI64 n = true):fit n = (0,8):=by rw [fit,if_neg h]
theorem sp_tru (b:Bool):Am.Spec Tryz.prog 85 [.bool b] (.int .i64 (truthN b)):=by
 cases b
 ·refine W85_S (by simp) ?_
  intro vs
  simp [truthN,retW_eq]
 ·refine W85_S (by simp) ?_
  intro vs
  simp [truthN,retW_eq]
theorem sp_sum (a b:Int) (ha:isI64 a = true) (hb:isI64 b = true):Am.Spec Tryz.prog 115 [.int .i64 a,.int .i64 b] (encR (fit (a + b))):=by
 rw [isI64_iff] at ha hb
 have key:∀ c,fit (a + b) = c → Am.Spec Tryz.prog 115 [.int .i64 a,.int .i64 b] (encR c):=fun c hc=>by
  by_cases hf:isI64 (a + b) = true
  ·rw [fit_in hf] at hc
   subst hc
   rw [isI64_iff] at hf
   have w0:IntKind.wrap .i64 (a + b) = a + b:=wrap64 hf.1 hf.2
   by_cases h1:0 < b
   ·have w1:IntKind.wrap .i64 (9223372036854775807 - b) = 9223372036854775807 - b:=wrap64 (by omega) (by omega)
    have h2:¬ 9223372036854775807 - b < a:=by omega
    have h3:¬ b < 0:=by omega
    refine W115_S (by simp) ?_
    intro vs
    simp [h1,w0,w1,h2,h3,encR,retW_eq]
   ·by_cases h3:b < 0
    ·have w1:IntKind.wrap .i64 (-9223372036854775808 - b) = -9223372036854775808 - b:=wrap64 (by omega) (by omega)
     have h2:¬ a < -9223372036854775808 - b:=by omega
     refine W115_S (by simp) ?_
     intro vs
     simp [h1,w0,w1,h2,h3,encR,retW_eq]
    ·refine W115_S (by simp) ?_
     intro vs
     simp [h1,w0,h3,encR,retW_eq]
  ·rw [fit_out hf] at hc
   subst hc
   rw [isI64_iff] at hf
   by_cases h1:0 < b
   ·have w1:IntKind.wrap .i64 (9223372036854775807 - b) = 9223372036854775807 - b:=wrap64 (by omega) (by omega)
    have h2:9223372036854775807 - b < a:=by omega
    have h3:¬ b < 0:=by omega
    refine W115_S (by simp) ?_
    intro vs
    simp [h1,w1,h2,h3,encR,retW_eq]
   ·have h3:b < 0:=by omega
    have w1:IntKind.wrap .i64 (-9223372036854775808 - b) = -9223372036854775808 - b:=wrap64 (by omega) (by omega)
    have h2:a < -9223372036854775808 - b:=by omega
    refine W115_S (by simp) ?_
    intro vs
    simp [h1,w1,h2,h3,encR,retW_eq]
 exact key _ rfl
theorem sp_tms (a b:Int) (ha:isI64 a = true) (hb:isI64 b = true):Am.Spec Tryz.prog 86 [.int .i64 a,.int .i64 b] (encR (fit (a * b))):=by
 have hm:=mul_wrap a b ha hb
 have ha':=(isI64_iff a).1 ha
 have hb':=(isI64_iff b).1 hb
 by_cases h0:a = 0
 ·subst h0
  rw [Int.zero_mul,fit_in (by rfl)]
  refine W86_S (by simp) ?_
  intro vs
  simp [encR,retW_eq]
 by_cases h1:b = 0
 ·subst h1
  rw [Int.mul_zero,fit_in (by rfl)]
  refine W86_S (by simp) ?_
  intro vs
  simp [h0,encR,retW_eq]
 by_cases h2:a = -1
 ·subst h2
  by_cases h3:b = -9223372036854775808
  ·subst h3
   rw [fit_out (by decide)]
   refine W86_S (by simp) ?_
   intro vs
   simp [encR,retW_eq]
  ·have e:(-1:Int) * b = -b:=by omega
   have w:IntKind.wrap .i64 (-b) = -b:=wrap64 (by omega) (by omega)
   rw [e,fit_in ((isI64_iff _).2 (by omega))]
   refine W86_S (by simp) ?_
   intro vs
   simp [h1,h3,e,w,encR,retW_eq]
 by_cases h4:b = -1
 ·subst h4
  by_cases h3:a = -9223372036854775808
  ·subst h3
   rw [fit_out (by decide)]
   refine W86_S (by simp) ?_
   intro vs
   simp [encR,retW_eq]
  ·have e:a * (-1:Int) = -a:=by omega
   have w:IntKind.wrap .i64 (-a) = -a:=wrap64 (by omega) (by omega)
   rw [e,fit_in ((isI64_iff _).2 (by omega))]
   refine W86_S (by simp) ?_
   intro vs
   simp [h0,h2,h3,e,w,encR,retW_eq]
 have hm:=hm h1
 obtain ⟨c,hc⟩:∃ c,a * b = c:=⟨_,rfl⟩
 rw [hc] at hm ⊢
 have hq:IntKind.wrap .i64 ((IntKind.wrap .i64 c).tdiv b) = (IntKind.wrap .i64 c).tdiv b:=by
  have hw:-9223372036854775808 ≤ IntKind.wrap .i64 c ∧ IntKind.wrap .i64 c < 9223372036854775808:=by
   rw [IntKind.wrap_i64]; omega
  clear hm
  generalize IntKind.wrap .i64 c = w at hw ⊢
  have h8:(w.tdiv b).natAbs ≤ w.natAbs:=Int.natAbs_tdiv_le_natAbs w b
  by_cases hb1:b = 1
  ·rw [hb1,Int.tdiv_one]; exact wrap64 hw.1 hw.2
  obtain ⟨d,hd⟩:∃ d,w.tdiv b = d:=⟨_,rfl⟩
  by_cases hw0:w = -9223372036854775808
  ·have h5:2 ≤ b.natAbs:=by omega
   have h6:(w.tdiv b).natAbs = w.natAbs / b.natAbs:=Int.natAbs_tdiv ..
   have h7:w.natAbs / b.natAbs ≤ w.natAbs / 2:=Nat.div_le_div_left h5 (by omega)
   rw [hd] at h6 ⊢
   have h9:w.natAbs / 2 = 4611686018427387904:=by subst hw0; rfl
   have h10:d.natAbs ≤ 4611686018427387904:=by rw [h6,← h9]; exact h7
   exact wrap64 (by omega) (by omega)
  ·rw [hd] at h8 ⊢
   exact wrap64 (by omega) (by omega)
 by_cases hf:isI64 c = true
 ·rw [fit_in hf]
  have hd:=hm.2 hf
  have w:=(isI64_iff c).1 hf
  have w:=wrap64 w.1 w.2
  rw [w] at hd hq
  refine W86_S (by simp) ?_
  intro vs
  have wa:IntKind.wrap .i64 a = a:=wrap64 (by omega) (by omega)
  simp [h0,h1,h2,h4,hc,w,hd,wa,encR,retW_eq]
 ·rw [fit_out hf]
  have hd:¬ _:=fun h=>hf (hm.1 h)
  refine W86_S (by simp) ?_
  intro vs
  simp [h0,h1,h2,h4,hc,hq,hd,encR,retW_eq]
theorem sp_two (k a b:Int) (hk:5 ≤ k ∧ k ≤ 15) (ha:isI64 a = true) (hb:isI64 b = true):Am.Spec Tryz.prog 87 [.int .i64 k,.int .i64 a,.int .i64 b] (encR (ev2 k a b)):=by
 have ha':=(isI64_iff a).1 ha
 have hb':=(isI64_iff b).1 hb
 have hT:=sp_tms a b ha hb
 have hS:=sp_sum a b ha hb
 obtain ⟨h1,h2⟩:=hk
 rcases (by omega:k = 5 ∨ k = 6 ∨ k = 7 ∨ k = 8 ∨ k = 9 ∨ k = 10 ∨ k = 11 ∨ k = 12 ∨ k = 13 ∨ k = 14 ∨ k = 15) with rfl | rfl | rfl | rfl | rfl | rfl | rfl | rfl | rfl | rfl | rfl
 ·have e:ev2 5 a b = fit (a * b):=rfl
  rw [e]
  refine W87_S (by simp) ?_
  intro vs
  simp
  refine scall_pure hT (by simp [encR]) (by simp [encR]) ?_
  simp [encR,retW_eq]
 ·have e:ev2 6 a b = if b = 0 then (0,9) else fit (a.tdiv b):=rfl
  rw [e]
  by_cases h0:b = 0
  ·subst h0
   refine W87_S (by simp) ?_
   intro vs
   simp [encR,retW_eq]
  ·rw [if_neg h0]
   by_cases h5:b = -1
   ·subst h5
    have e:a.tdiv (-1) = a * -1:=by rw [Int.tdiv_neg,Int.tdiv_one]; omega
    rw [e]
    refine W87_S (by simp) ?_
    intro vs
    simp
    refine scall_pure hT (by simp [encR]) (by simp [encR]) ?_
    simp [encR,retW_eq]
   ·have h8:(a.tdiv b).natAbs ≤ a.natAbs:=Int.natAbs_tdiv_le_natAbs a b
    have h9:isI64 (a.tdiv b) = true:=by
     rw [isI64_iff]
     by_cases hw0:a = -9223372036854775808
     ·have h5:2 ≤ b.natAbs ∨ b = 1:=by omega
      rcases h5 with h5 | rfl
      ·have h6:(a.tdiv b).natAbs = a.natAbs / b.natAbs:=Int.natAbs_tdiv ..
       have h7:a.natAbs / b.natAbs ≤ a.natAbs / 2:=Nat.div_le_div_left h5 (by omega)
       have h9:a.natAbs / 2 = 4611686018427387904:=by subst hw0; rfl
       have h10:(a.tdiv b).natAbs ≤ 4611686018427387904:=by rw [h6,← h9]; exact h7
       omega
      ·rw [Int.tdiv_one]; exact ha'
     ·omega
    rw [fit_in h9]
    have w:=(isI64_iff _).1 h9
    have w:=wrap64 w.1 w.2
    refine W87_S (by simp) ?_
    intro vs
    simp [h0,h5,w,encR,retW_eq]
 ·have e:ev2 7 a b = if b = 0 then (0,9) else (a.tmod b,0):=rfl
  rw [e]
  by_cases h0:b = 0
  ·subst h0
   refine W87_S (by simp) ?_
   intro vs
   simp [encR,retW_eq]
  ·rw [if_neg h0]
   by_cases h5:b = -1
   ·subst h5
    have e:a.tmod (-1) = 0:=by rw [Int.tmod_neg,Int.tmod_one]
    rw [e]
    refine W87_S (by simp) ?_
    intro vs
    simp [encR,retW_eq]
   ·refine W87_S (by simp) ?_
    intro vs
    simp [h0,h5,encR,retW_eq]
 ·have e:ev2 8 a b = fit (a + b):=rfl
  rw [e]
  refine W87_S (by simp) ?_
  intro vs
  simp
  refine scall_pure hS (by simp [encR]) (by simp [encR]) ?_
  simp [encR,retW_eq]
 ·have e:ev2 9 a b = fit (a - b):=rfl
  rw [e]
  by_cases h0:b = -9223372036854775808
  ·subst h0
   by_cases h1:0 ≤ a
   ·rw [fit_out (by rw [isI64_iff]; omega)]
    refine W87_S (by simp) ?_
    intro vs
    simp [h1,encR,retW_eq]
   ·have h9:isI64 (a - -9223372036854775808) = true:=by rw [isI64_iff]; omega
    rw [fit_in h9]
    have w:=(isI64_iff _).1 h9
    have w:=wrap64 w.1 w.2
    refine W87_S (by simp) ?_
    intro vs
    simp [h1,encR,retW_eq]
    simpa using w
  ·have hn:isI64 (-b) = true:=by rw [isI64_iff]; omega
   have hS:=sp_sum a (-b) ha hn
   have e:a - b = a + -b:=by omega
   rw [e]
   have w:IntKind.wrap .i64 (-b) = -b:=wrap64 (by omega) (by omega)
   refine W87_S (by simp) ?_
   intro vs
   simp [h0,w]
   refine scall_pure hS (by simp [encR]) (by simp [encR]) ?_
   simp [encR,retW_eq]
 ·have e:ev2 10 a b = (truthN (decide (a = b)),0):=rfl
  rw [e]
  refine W87_S (by simp) ?_
  intro vs
  simp
  refine scall_pure (sp_tru (decide (a = b))) (by simp) (by simp) ?_
  simp [encR,retW_eq]
 ·have e:ev2 11 a b = (truthN (decide (a ≠ b)),0):=rfl
  rw [e]
  refine W87_S (by simp) ?_
  intro vs
  simp
  refine scall_pure (sp_tru (decide (a ≠ b))) (by simp) (by simp) ?_
  simp [encR,retW_eq]
 ·have e:ev2 12 a b = (truthN (decide (a < b)),0):=rfl
  rw [e]
  refine W87_S (by simp) ?_
  intro vs
  simp
  refine scall_pure (sp_tru (decide (a < b))) (by simp) (by simp) ?_
  simp [encR,retW_eq]
 ·have e:ev2 13 a b = (truthN (decide (a ≤ b)),0):=rfl
  rw [e]
  refine W87_S (by simp) ?_
  intro vs
  simp
  refine scall_pure (sp_tru (decide (a ≤ b))) (by simp) (by simp) ?_
  simp [encR,retW_eq]
 ·have e:ev2 14 a b = (truthN (decide (b < a)),0):=rfl
  rw [e]
  refine W87_S (by simp) ?_
  intro vs
  simp
  refine scall_pure (sp_tru (decide (b < a))) (by simp) (by simp) ?_
  simp [encR,retW_eq]
 ·have e:ev2 15 a b = (truthN (decide (b ≤ a)),0):=rfl
  rw [e]
  refine W87_S (by simp) ?_
  intro vs
  simp
  refine scall_pure (sp_tru (decide (b ≤ a))) (by simp) (by simp) ?_
  simp [encR,retW_eq]
theorem Ex.pre_kid {x y z:Ex} (h:y ∈ x.l) (hz:z ∈ Ex.pre y):z ∈ Ex.pre x:=by
 rw [Ex.pre_eq]
 refine List.mem_cons_of_mem _ ?_
 generalize x.l = l at h
 induction l with
 | nil=>simp at h
 | cons w l ih=>
  simp only [Ex.pres,List.mem_append]
  rcases List.mem_cons.1 h with rfl | h
  ·exact .inl hz
  ·exact .inr (ih h)
theorem evE_num {v:List Int} {x:Ex} (h:x.kind = 1):evE v x = (x.n,0):=by
 obtain ⟨k,n,s,_ | ⟨y,_ | ⟨z,l⟩⟩⟩:=x <;> (simp only at h; subst h; simp [evE])
theorem evE_var {v:List Int} {x:Ex} (h:x.kind = 2):evE v x = (v.getD x.n.toNat 0,0):=by
 obtain ⟨k,n,s,_ | ⟨y,_ | ⟨z,l⟩⟩⟩:=x <;> (simp only at h; subst h; simp [evE])
theorem sp_eev (v:List Int) (hv:∀ n ∈ v,isI64 n = true) (hvl:v.length ≤ 1000) (x:Ex) (hr:exRight v.length x = true) (hx:∀ y ∈ Ex.pre x,isI64 y.n = true) :
  Am.Spec Tryz.prog 47 [.agg (encE x),.sl (encI v)] (encR (evE v x)):=by
 rw [exRight_eq] at hr
 simp only [Bool.and_eq_true,exOk,decide_eq_true_eq] at hr
 obtain ⟨⟨h1,h2,h3,h4,h5⟩,h6⟩:=hr
 have h6:=List.all_eq_true.1 h6
 have ih:∀ y ∈ x.l,Am.Spec Tryz.prog 47 [.agg (encE y),.sl (encI v)] (encR (evE v y)):=fun y hy=>sp_eev v hv hvl y (h6 y hy) fun z hz=>hx z (Ex.pre_kid hy hz)
 have hle:∀ y ∈ x.l,isI64 (evE v y).1 = true:=fun y hy=>evE_le v hv y fun z hz=>hx z (Ex.pre_kid hy hz)
 by_cases k1:x.kind = 1
 ·rw [evE_num k1]
  refine W47_S (by simp) ?_
  intro vs
  simp [k1,encR,retW_eq]
 by_cases k2:x.kind = 2
 ·rw [if_neg k1,if_pos k2] at h5
  simp only [Bool.and_eq_true,decide_eq_true_eq] at h5
  obtain ⟨i,hi⟩:∃ i:Nat,x.n = i:=⟨x.n.toNat,by omega⟩
  have hil:i < v.length:=by omega
  have hx0:ixRows (encI v) (i:Int) 1 = some (.elt [.int .i64 v[i]] 0):=encI_at _ i hil _ rfl
  have e:v.getD x.n.toNat 0 = v[i]:=by rw [hi]; simp [List.getD_eq_getElem?_getD,hil]
  have hl:(i:Int) < v.length:=by omega
  have hl':¬ (v.length:Int) ≤ i:=by omega
  have hn:¬ (i:Int) < 0:=by omega
  rw [evE_var k2,e]
  refine W47_S (by simp) ?_
  intro vs
  simp [k2,hi,hn,hl,hl',hx0,encR,retW_eq]
 by_cases k3:x.kind = 3 ∨ x.kind = 4
 ·obtain ⟨y,hy⟩:∃ y,x.l = [y]:=by
   rcases hL:x.l with _ | ⟨y,_ | ⟨z,l⟩⟩
   ·rw [hL] at h4; rcases k3 with k | k <;> simp [kids,k] at h4
   ·exact ⟨y,rfl⟩
   ·rw [hL] at h4; rcases k3 with k | k <;> simp [kids,k] at h4 <;> omega
  have hey:=ih y (by simp [hy])
  have hly:=hle y (by simp [hy])
  rw [evE_one k1 k2 hy]
  generalize evE v y = c at *
  obtain ⟨a,e⟩:=c
  by_cases he:e = 0
  ·subst he
   have hA:evA x.kind (a,0) = if x.kind = 3 then (truthN (decide (a = 0)),0) else fit (-a):=by simp [evA]
   rw [hA]
   rcases k3 with k | k
   ·rw [if_pos k]
    refine W47_S (by simp) ?_
    intro vs
    simp [k,hy]
    refine scall_pure hey (by simp [encR]) (by simp [encR]) ?_
    simp [k,encR]
    refine scall_pure (sp_tru (decide (a = 0))) (by simp) (by simp) ?_
    simp [retW_eq,encR]
   ·rw [if_neg (by omega)]
    have ht:=sp_tms a (-1) hly (by rfl)
    rw [show a * -1 = -a by omega] at ht
    refine W47_S (by simp) ?_
    intro vs
    simp [k,hy]
    refine scall_pure hey (by simp [encR]) (by simp [encR]) ?_
    simp [k,encR]
    refine scall_pure ht (by simp [encR]) (by simp [encR]) ?_
    simp [retW_eq,encR]
  ·have hA:evA x.kind (a,e) = (0,e):=by simp [evA,he]
   rw [hA]
   refine W47_S (by simp) ?_
   intro vs
   simp [k1,k2,hy]
   refine scall_pure hey (by simp [encR]) (by simp [encR]) ?_
   simp [he,retW_eq,encR]
 ·obtain ⟨y,z,hy⟩:∃ y z,x.l = [y,z]:=by
   have hk:kids x.kind = 2:=by unfold kids; rw [if_neg (by omega),if_neg k3]
   rw [hk] at h4
   rcases hL:x.l with _ | ⟨y,_ | ⟨z,_ | ⟨w,l⟩⟩⟩
   ·rw [hL] at h4; simp at h4
   ·rw [hL] at h4; simp at h4
   ·exact ⟨y,z,rfl⟩
   ·rw [hL] at h4; simp at h4; omega
  have hey:=ih y (by simp [hy])
  have hly:=hle y (by simp [hy])
  have hez:=ih z (by simp [hy])
  have hlz:=hle z (by simp [hy])
  rw [evE_two k1 k2 hy]
  generalize evE v y = c at *
  generalize evE v z = d at *
  obtain ⟨a,e⟩:=c
  obtain ⟨b,f⟩:=d
  have k3':¬ x.kind = 3:=by omega
  have k4':¬ x.kind = 4:=by omega
  by_cases he:e = 0
  ·subst he
   have hB:evB x.kind (a,0) (b,f) = if x.kind = 16 ∧ a = 0 then (0,0) else if x.kind = 17 ∧ a ≠ 0 then (1,0) else if f ≠ 0 then (0,f) else if x.kind = 16 ∨ x.kind = 17 then (truthN (decide (b ≠ 0)),0) else ev2 x.kind a b:=by simp [evB]
   rw [hB]
   by_cases k6:x.kind = 16 ∧ a = 0
   ·rw [if_pos k6]
    obtain ⟨k,rfl⟩:=k6
    refine W47_S (by simp) ?_
    intro vs
    simp [k,hy]
    refine scall_pure hey (by simp [encR]) (by simp [encR]) ?_
    simp [k,retW_eq,encR]
   by_cases k7:x.kind = 17 ∧ a ≠ 0
   ·rw [if_neg k6,if_pos k7]
    obtain ⟨k,ha⟩:=k7
    refine W47_S (by simp) ?_
    intro vs
    simp [k,hy]
    refine scall_pure hey (by simp [encR]) (by simp [encR]) ?_
    simp [k,ha,retW_eq,encR]
   rw [if_neg k6,if_neg k7]
   by_cases k:x.kind = 16
   ·have ha:¬ a = 0:=fun h=>k6 ⟨k,h⟩
    by_cases hf:f = 0
    ·subst hf
     rw [if_neg (by simp),if_pos (.inl k)]
     refine W47_S (by simp) ?_
     intro vs
     simp [k,hy]
     refine scall_pure hey (by simp [encR]) (by simp [encR]) ?_
     simp [k,ha,hy,encR]
     refine scall_pure hez (by simp [encR]) (by simp [encR]) ?_
     simp [k,encR]
     refine scall_pure (sp_tru (decide (b ≠ 0))) (by simp) (by simp) ?_
     simp [retW_eq,encR]
    ·rw [if_pos hf]
     refine W47_S (by simp) ?_
     intro vs
     simp [k,hy]
     refine scall_pure hey (by simp [encR]) (by simp [encR]) ?_
     simp [k,ha,hy,encR]
     refine scall_pure hez (by simp [encR]) (by simp [encR]) ?_
     simp [hf,retW_eq,encR]
   by_cases k':x.kind = 17
   ·have ha:a = 0:=by
     by_cases h:a = 0
     ·exact h
     ·exact absurd ⟨k',h⟩ k7
    by_cases hf:f = 0
    ·subst hf
     rw [if_neg (by simp),if_pos (.inr k')]
     refine W47_S (by simp) ?_
     intro vs
     simp [k',hy]
     refine scall_pure hey (by simp [encR]) (by simp [encR]) ?_
     simp [k',ha,hy,encR]
     refine scall_pure hez (by simp [encR]) (by simp [encR]) ?_
     simp [k',encR]
     refine scall_pure (sp_tru (decide (b ≠ 0))) (by simp) (by simp) ?_
     simp [retW_eq,encR]
    ·rw [if_pos hf]
     refine W47_S (by simp) ?_
     intro vs
     simp [k',hy]
     refine scall_pure hey (by simp [encR]) (by simp [encR]) ?_
     simp [k',ha,hy,encR]
     refine scall_pure hez (by simp [encR]) (by simp [encR]) ?_
     simp [hf,retW_eq,encR]
   ·by_cases hf:f = 0
    ·subst hf
     have h2:=sp_two x.kind a b ⟨by omega,by omega⟩ hly hlz
     rw [if_neg (by simp),if_neg (by simp [k,k'])]
     generalize ev2 x.kind a b = c at *
     refine W47_S (by simp) ?_
     intro vs
     simp [k1,k2,hy]
     refine scall_pure hey (by simp [encR]) (by simp [encR]) ?_
     simp [k,k',k3',k4',hy,encR]
     refine scall_pure hez (by simp [encR]) (by simp [encR]) ?_
     simp [k,k',encR]
     refine scall_pure h2 (by simp [encR]) (by simp [encR]) ?_
     simp [retW_eq,encR]
    ·rw [if_pos hf]
     refine W47_S (by simp) ?_
     intro vs
     simp [k1,k2,hy]
     refine scall_pure hey (by simp [encR]) (by simp [encR]) ?_
     simp [k,k',k3',k4',hy,encR]
     refine scall_pure hez (by simp [encR]) (by simp [encR]) ?_
     simp [hf,retW_eq,encR]
  ·have hA:evB x.kind (a,e) (b,f) = (0,e):=by simp [evB,he]
   rw [hA]
   refine W47_S (by simp) ?_
   intro vs
   simp [k1,k2,hy]
   refine scall_pure hey (by simp [encR]) (by simp [encR]) ?_
   simp [he,retW_eq,encR]
termination_by SizeOf.sizeOf x
decreasing_by exact Ex.lt_of_mem hy
end Go.Proofs.YtnngddgaobhkiaaGreat
namespace Go.Proofs.YtnngddgaobhkiaaGreat
open Go Go.Am Go.RowKit
attribute [local simp] W21 W21_rs W21_b1 W21_b2 W21_b3 W21_b4 W21_b10 W21_b11 W21_b13 W21_b15 W21_b17 W21_b19 W21_b20 W21_b21 W21_b22 W21_b23 W21_b25 W21_b26 W21_b27 W21_b28 W21_b29 W21_b30 W21_b31 W21_b32 W21_b33 W21_b34 W21_b37 W21_b43 W21_b44 W21_k9 W21_k35 W21_s50 W21_g51
theorem sScope_out {s:St} {B g:(Nat → St → Prop) → St → Prop} (I:St → Prop) (hB:∀ J:Nat → St → Prop,(∀ s,I s → J 0 s) → B J s) (hg:∀ J s,I s → g J s):@sScope s ⟨B⟩ ⟨[(0,g)]⟩:=by
 unfold sScope
 refine ⟨fun l m s=>l = 0 ∧ I s,hB _ fun s h=>⟨0,s,.refl s,rfl,h⟩,fun l m s h=>?_⟩
 obtain ⟨rfl,h⟩:=h
 exact hg _ s h
theorem no_f (e:Int):(Did.no e).f = .zero:=rfl
theorem no_ev (e:Int):(Did.no e).ev = .zero:=rfl
theorem no_is (e:Int):(Did.no e).is = false:=rfl
theorem no_e (e:Int):(Did.no e).e = e:=rfl
theorem encF_zero:encF .zero = [.int .i64 0,.int .i64 0,.int .i64 0,.str ⟨#[]⟩,.int .i64 0,.int .i64 0,.str ⟨#[]⟩,.sl [],.sl [],.sl [],.sl [],.int .i64 0,.int .i64 0]:=by rw [encF_eq]; rfl
theorem encEv_zero:encEv .zero = [.str ⟨#[]⟩,.int .i64 0,.int .i64 0]:=rfl
theorem onP_len {t:Tm} {p:List Int} (h:OnPath t p):p.length ≤ t.wt:=by
 induction h with
 | nil t=>simp
 | cons t i h p hp ih=>
  have h1:=Tm.wt_eq t
  have h2:=Tm.wts_mem (List.getElem_mem h)
  simp only [List.length_cons]
  omega
def didR (d:Did):AV:=.tup [.agg (encF d.f),.agg (encEv d.ev),.bool d.is,.int .i64 d.e]
def doH (c:Cor) (f g:Cfg) (vars:List Int) (ev:Ev) (B11:List AV) (x:Tm) (cs:List AV) (v3 v4 v6 v7 v60 v11 v12 v14:Nat):List (Nat × Blk):=
 [(3,.box v3 29 (encC c)),(4,.box v4 38 (encF f)),(6,.box v6 38 (encFL g 60 v60)),(7,.box v7 44 (encEv ev)),(60,.row v60 3 1 (encI vars)),
  (11,.box v11 60 B11),(12,.box v12 35 (encT x)),(14,.box v14 35 cs)]
def doI (r:AV) (s:St):Prop:=∃ (T:List (Nat × AV)) (VS:Nat → Nat) (e:Int) (c:Cor) (f g:Cfg) (vars:List Int) (ev:Ev) (B11:List AV) (x:Tm) (cs:List AV) (v3 v4 v6 v7 v60 v11 v12 v14:Nat),
 s = ⟨Am.look T,hls (doH c f g vars ev B11 x cs v3 v4 v6 v7 v60 v11 v12 v14) VS,noG⟩ ∧ Am.look T 6 = .ref 6 v6 (.p 0) ∧ Am.look T 7 = .ref 7 v7 (.p 0) ∧ Am.look T 9 = .int .i64 e ∧ r = didR (.no e)
@[simp] theorem encEv_len (ev:Ev):(encEv ev).length = 3:=rfl
@[simp] theorem encEv_ok (ev:Ev):(encEv ev).all AV.cell = true:=rfl
@[simp] theorem encEv_cell (ev:Ev):∀ c ∈ encEv ev,c.cell = true:=by simp [encEv]
theorem do_g51 (r:AV) (J:Nat → St → Prop) (s:St) (h:doI r s):W21_g51 (retK Tryz.prog [.cell 6 38,.cell 7 44,.tmp 8,.tmp 9] r) J s:=by
 obtain ⟨T,VS,e,c,f,g,vars,ev,B11,x,cs,v3,v4,v6,v7,v60,v11,v12,v14,rfl,h6,h7,h9,rfl⟩:=h
 simp only [didR,no_f,no_ev,no_is,no_e,encF_zero,encEv_zero,doH]
 simp [h6,h7,h9,retW_eq,encEv]
theorem do_k9 (c:Cor) (f g:Cfg) (vars:List Int) (ev:Ev) (is:Bool) (B11:List AV) (x y:Tm) (cs:List AV) (p:List Int) (v3 v4 v6 v7 v60 v11 v12 v14:Nat) (hT:TellsT cs y)
  (hon:OnPath g.t p) (hpl:p.length ≤ 137438953472) (hlok:g.t.lok) (hwt:(putT g.t p y).wt ≤ 137438953472) (hwn:(putT g.t p y).norm.wt ≤ 137438953472) (hsn:(putT g.t p y).norm.size ≤ 1000000) (hss:stSize g.st ≤ 1000000)
  (hsl:g.st.length ≤ 137438953472) (hsk:∀ l ∈ g.st,l.length ≤ 137438953472) (hst:0 ≤ g.steps ∧ g.steps ≤ 5000)
  (J:Nat → St → Prop) (r:AV) (hJ:∀ s,doI r s → J 0 s)
  (hr:r = didR (if 2000 < (putT g.t p y).norm.size + stSize g.st then .no 11 else ⟨⟨(putT g.t p y).norm,vars,g.st,g.steps + 1,g.key⟩,ev,is,0⟩))
  (T:List (Nat × AV)) (VS:Nat → Nat) (h6:Am.look T 6 = .ref 6 v6 (.p 0)) (h7:Am.look T 7 = .ref 7 v7 (.p 0)) (h8:Am.look T 8 = .bool is) (h13:Am.look T 13 = .sl (encI p)) (h14:Am.look T 14 = .ref 14 v14 (.p 0)) :
  W21_k9 (retK Tryz.prog [.cell 6 38,.cell 7 44,.tmp 8,.tmp 9] r) J ⟨Am.look T,hls (doH c f g vars ev B11 x cs v3 v4 v6 v7 v60 v11 v12 v14) VS,noG⟩:=by
 have h1:=sp_put p g.t y hon hpl hlok
 have h2:=sp_nrm (putT g.t p y) hwt
 have h3:=sp_sz (putT g.t p y).norm (by omega)
 have h4:=sp_ssz g.st hss hsl hsk
 have hrd:=readA_whole hT.len
 have hpu:=hT.pur
 have hfz:=hT.frz
 have hnn:=stSize_nn g.st
 have hpos:=(putT g.t p y).norm.size_pos
 have e1:=setFL_t g 60 v60 (putT g.t p y).norm
 generalize (putT g.t p y).norm = n at *
 generalize putT g.t p y = m at *
 have e2:setL (encFL { g with t:=n } 60 v60) 11 [.int .i64 (g.steps + 1)] = encFL { g with t:=n,steps:=g.steps + 1 } 60 v60:=by rw [encFL_eq,encFL_eq]; rfl
 have w1:IntKind.wrap .i64 (g.steps + 1) = g.steps + 1:=wrap64 (by omega) (by omega)
 have w2:IntKind.wrap .i64 (n.size + stSize g.st) = n.size + stSize g.st:=wrap64 (by omega) (by omega)
 by_cases h:2000 < n.size + stSize g.st
 ·rw [if_pos h] at hr
  simp only [doH]
  simp [h6,h7,h8,h13,h14,hrd,hpu,hfz]
  refine scall_pure h1 (by simp [hpu,hfz]) (by simp [hpu,hfz]) ?_
  simp [hfz]
  refine scall_pure h2 (by simp) (by simp) ?_
  simp [h6,e1,e2,w1]
  refine scall0_pure h3 (by simp) (by simp) ?_
  simp [h6]
  refine scall0_pure h4 (by simp) (by simp) ?_
  simp [h6,w2,h]
  refine hJ _ ⟨_,VS,11,c,f,{ g with t:=n,steps:=g.steps + 1 },vars,ev,B11,x,cs,v3,v4,v6,v7,v60,v11,v12,v14,rfl,?_,?_,?_,hr⟩
  ·simp [h6]
  ·simp [h7]
  ·simp
 ·rw [if_neg h] at hr
  subst hr
  have h':¬ 2000 < n.size + stSize g.st:=h
  simp only [doH]
  simp [h6,h7,h8,h13,h14,hrd,hpu,hfz]
  refine scall_pure h1 (by simp [hpu,hfz]) (by simp [hpu,hfz]) ?_
  simp [hfz]
  refine scall_pure h2 (by simp) (by simp) ?_
  simp [h6,e1,e2,w1]
  refine scall0_pure h3 (by simp) (by simp) ?_
  simp [h6]
  refine scall0_pure h4 (by simp) (by simp) ?_
  simp [h6,h7,h8,w2,h',encEv]
  simp [retW_eq,h6,h7,didR,encEv]
  rw [fl_ret _ _ 60 v60 3 vars (by simp)]
  exact ⟨by simp,rfl⟩
theorem do_fin (c:Cor) (f:Cfg) {vn sn:Int} (he:Env8 vn sn c.procs) (hf:OkF vn sn c.procs f) (hvn:vn ≤ 1000) (hsn:sn ≤ 1000) (st:Stp3) (hs:st ∈ f.t.enabled) (t:Tm) (vars:List Int) (sts:List (List Tm)) (key:Int) (ev:Ev) (is:Bool)
  (hd:deed c.procs f (atT f.t st.2.1) st.2.2 = ⟨t,vars,sts,key,ev,is,0⟩) (B11:List AV) (x:Tm) (cs:List AV) (v3 v4 v6 v7 v60 v11 v12 v14:Nat) (hT:TellsT cs t)
  (J:Nat → St → Prop) (r:AV) (hJ:∀ s,doI r s → J 0 s)
  (hr:r = didR (if (deed c.procs f (atT f.t st.2.1) st.2.2).e ≠ 0 then .no (deed c.procs f (atT f.t st.2.1) st.2.2).e
   else if 2000 < (putT f.t (toP f.t st) (deed c.procs f (atT f.t st.2.1) st.2.2).t).norm.size + stSize (deed c.procs f (atT f.t st.2.1) st.2.2).st then .no 11
   else ⟨⟨(putT f.t (toP f.t st) (deed c.procs f (atT f.t st.2.1) st.2.2).t).norm,(deed c.procs f (atT f.t st.2.1) st.2.2).vars,(deed c.procs f (atT f.t st.2.1) st.2.2).st,f.steps + 1,(deed c.procs f (atT f.t st.2.1) st.2.2).key⟩,(deed c.procs f (atT f.t st.2.1) st.2.2).ev,(deed c.procs f (atT f.t st.2.1) st.2.2).is,0⟩))
  (T:List (Nat × AV)) (VS:Nat → Nat) (h6:Am.look T 6 = .ref 6 v6 (.p 0)) (h7:Am.look T 7 = .ref 7 v7 (.p 0)) (h8:Am.look T 8 = .bool is) (h13:Am.look T 13 = .sl (encI (toP f.t st))) (h14:Am.look T 14 = .ref 14 v14 (.p 0)) :
  W21_k9 (retK Tryz.prog [.cell 6 38,.cell 7 44,.tmp 8,.tmp 9] r) J ⟨Am.look T,hls (doH c f ⟨f.t,f.vars,sts,f.steps,key⟩ vars ev B11 x cs v3 v4 v6 v7 v60 v11 v12 v14) VS,noG⟩:=by
 have hdo:=step_deed he hf hs
 have hpo:=put_ok he hf hs
 have hso:=step_ok f.t st (by rw [← enabled_eq hf.norm]; exact hs)
 have hact:=toP_act hso.act
 have hon:=actP_on hact
 rw [hd] at hr hdo hpo
 have hwt:=hf.wt
 have hok:=right_okN _ _ _ _ _ hpo.t
 have hnw:=Tm.norm_wt (putT f.t (toP f.t st) t)
 have hpw:=hpo.wt
 have hns:=norm_size _ hok
 have hps:=hpo.size
 have hlen:=onP_len hon
 have h1:=hdo.stsz
 have h2:=hdo.st
 simp only at hr h1 h2 hpw hps hns
 refine do_k9 c f ⟨f.t,f.vars,sts,f.steps,key⟩ vars ev is B11 x t cs (toP f.t st) v3 v4 v6 v7 v60 v11 v12 v14 hT hon ?_ (Tm.lok_of_wt _ ?_) hpw ?_ ?_ ?_ ?_ ?_ ?_ J r hJ ?_ T VS h6 h7 h8 h13 h14
 ·try simp only
  omega
 ·try simp only
  omega
 ·try simp only
  omega
 ·try simp only
  omega
 ·try simp only
  omega
 ·try simp only
  omega
 ·intro l hl
  have hl:l ∈ sts:=hl
  have:=stSize_mem hl
  have:=sizes_len l
  omega
 ·have:=hf.steps; simp only; omega
 ·rw [hr,if_neg (by simp)]
theorem tells_wait (k a:Int) (n:ByteArray):TellsT [.int .i64 14,.int .i64 k,.int .i64 a,.str n,.int .i64 0,.int .i64 0,.str ⟨#[]⟩,.nils,.nils] ⟨14,k,a,n,.zero,[]⟩ where
 len:=rfl
 ok:=rfl
 pur:=fun H=>by rw [encT_eq]; rfl
 frz:=fun H=>rfl
theorem len_two {l:List Tm} (h:l.length = 2):∃ y z,l = [y,z]:=by
 rcases l with _ | ⟨y,_ | ⟨z,_ | ⟨w,l⟩⟩⟩
 ·simp at h
 ·simp at h
 ·exact ⟨y,z,rfl⟩
 ·simp at h
theorem stAt_nat {s:List (List Tm)} {a:Nat} (h:a < s.length):stAt s a = s[a]:=by rw [stAt,List.getD_eq_getElem?_getD,Int.toNat_natCast,List.getElem?_eq_getElem h]; rfl
theorem setFL_12 (f:Cfg) (j v:Nat) (k:Int):setL (encFL f j v) 12 [.int .i64 k] = encFL { f with key:=k } j v:=by rw [encFL_eq,encFL_eq]; rfl
theorem do_k35 (c:Cor) (f:Cfg) {vn sn:Int} (he:Env8 vn sn c.procs) (hf:OkF vn sn c.procs f) (hvn:vn ≤ 1000) (hsn:sn ≤ 1000) (st:Stp3) (hs:st ∈ f.t.enabled) (val:Int)
  (hval:(atT f.t st.2.1).kind = 2 ∨ (atT f.t st.2.1).kind = 9 → evE f.vars (atT f.t st.2.1).e = (val,0)) (v3 v4 v6 v7 v60 v11 v12 v14:Nat)
  (J:Nat → St → Prop) (r:AV) (hJ:∀ s,doI r s → J 0 s) (hr:r = didR (if (deed c.procs f (atT f.t st.2.1) st.2.2).e ≠ 0 then .no (deed c.procs f (atT f.t st.2.1) st.2.2).e
   else if 2000 < (putT f.t (toP f.t st) (deed c.procs f (atT f.t st.2.1) st.2.2).t).norm.size + stSize (deed c.procs f (atT f.t st.2.1) st.2.2).st then .no 11
   else ⟨⟨(putT f.t (toP f.t st) (deed c.procs f (atT f.t st.2.1) st.2.2).t).norm,(deed c.procs f (atT f.t st.2.1) st.2.2).vars,(deed c.procs f (atT f.t st.2.1) st.2.2).st,f.steps + 1,(deed c.procs f (atT f.t st.2.1) st.2.2).key⟩,(deed c.procs f (atT f.t st.2.1) st.2.2).ev,(deed c.procs f (atT f.t st.2.1) st.2.2).is,0⟩))
  (T:List (Nat × AV)) (VS:Nat → Nat) (h3:Am.look T 3 = .ref 3 v3 (.p 0)) (h6:Am.look T 6 = .ref 6 v6 (.p 0)) (h7:Am.look T 7 = .ref 7 v7 (.p 0)) (h8:Am.look T 8 = .bool false) (h11:Am.look T 11 = .ref 11 v11 (.p 0))
  (h12:Am.look T 12 = .ref 12 v12 (.p 0)) (h13:Am.look T 13 = .sl (encI st.2.1)) (h14:Am.look T 14 = .ref 14 v14 (.p 0)) (h15:Am.look T 15 = .int .i64 val) :
  W21_k35 (retK Tryz.prog [.cell 6 38,.cell 7 44,.tmp 8,.tmp 9] r) J
   ⟨Am.look T,hls [(3,.box v3 29 (encC c)),(4,.box v4 38 (encF f)),(6,.box v6 38 (encFL f 60 v60)),(7,.box v7 44 [.str ⟨#[]⟩,.int .i64 0,.int .i64 0]),(60,.row v60 3 1 (encI f.vars)),
  (11,.box v11 60 [.int .i64 st.1,.sl (encI st.2.1),.int .i64 st.2.2]),(12,.box v12 35 (encT (atT f.t st.2.1))),(14,.box v14 35 [.int .i64 0,.int .i64 0,.int .i64 0,.str ⟨#[]⟩,.int .i64 0,.int .i64 0,.str ⟨#[]⟩,.nils,.nils])] VS,noG⟩:=by
 have hfin:=fun t vars sts key ev is hd B11 x cs=>do_fin c f he hf hvn hsn st hs t vars sts key ev is hd B11 x cs v3 v4 v6 v7 v60 v11 v12 v14
 have hso:=step_ok f.t st (by rw [← enabled_eq hf.norm]; exact hs)
 have hxr:=at_right _ _ _ hso.act _ hf.t
 have hon:=actP_on hso.act
 have hpl:=onP_len hon
 have hwt:=hf.wt
 have hblk:=sp_blk f.t st.2.1 hon (by omega)
 obtain ⟨hok,⟨hk0,hk1⟩,-⟩:=right_ok hxr
 have hks:=hso.some
 rw [hso.kind] at hks
 have halt:=hso.alt
 rw [hso.kind] at halt
 have hto:toP f.t st = if (atT f.t st.2.1).kind = 8 then st.2.1.take (outT f.t st.2.1 0 0) else st.2.1:=rfl
 have hslen:=hf.slen hsn
 have hrow:=hf.srow
 have hkey:=hf.key
 have hsteps:=hf.steps
 have hst:=hf.st
 have hvars:=hf.vars
 have hxe:=allE_at hon hf.ex
 have hxw:=allE_wt _ hxe
 have hxs:=size_at hon
 have hfs:=hf.size
 have hfn:=stSize_nn f.st
 have wkey:IntKind.wrap .i64 (f.key + 1) = f.key + 1:=wrap64 (by omega) (by omega)
 have s10:=fun sts=>setFL_10 f 60 v60 sts
 have s12:=fun k=>setFL_12 f 60 v60 k
 have hkids:∀ y ∈ (atT f.t st.2.1).l,y.lok:=fun y hy=>Tm.lok_of_wt y (by have:=allE_wt y (allE_kid hxe y hy); have:=size_kid hy; omega)
 have hdeed:deed c.procs f (atT f.t st.2.1) st.2.2 = deed c.procs f (atT f.t st.2.1) st.2.2:=rfl
 generalize hx:atT f.t st.2.1 = x at *
 have cases:x.kind = 1 ∨ x.kind = 2 ∨ x.kind = 3 ∨ x.kind = 4 ∨ x.kind = 5 ∨ x.kind = 6 ∨ x.kind = 8 ∨ x.kind = 9 ∨ x.kind = 10 ∨ x.kind = 13:=by omega
 rcases cases with k | k | k | k | k | k | k | k | k | k
 ·-- TDo
  rw [k,if_neg (by omega)] at hto
  simp [-W21_k9,k,h3,h6,h7,h8,h11,h12,h13,h14,h15,wkey,s12]
  refine hfin ⟨14,f.key,x.a,x.name,.zero,[]⟩ f.vars f.st (f.key + 1) ⟨x.name,f.key,0⟩ true (by unfold deed; rw [if_pos k]) _ x _ (tells_wait _ _ _) J r hJ hr _ VS ?_ ?_ ?_ ?_ ?_
  ·simp [h6]
  ·simp [h7]
  ·simp
  ·simp [h13,hto]
  ·simp [h14]
 ·-- TSet
  rw [k,if_neg (by omega)] at hto
  have ha:=ok_a hok; rw [k] at ha
  have ha:=num1 (s:=sn) (p:=c.procs.length) ha
  have ha0:=ha.1
  have ha1:x.a < f.vars.length:=by omega
  have hlt:x.a.toNat < f.vars.length:=by omega
  have eset:(encI f.vars).set x.a.toNat [.int .i64 val] = encI (f.vars.set x.a.toNat val):=by simp [encI,List.map_set]
  simp [-W21_k9,k,h3,h6,h7,h8,h11,h12,h13,h14,h15,ha0,ha1,eset]
  refine hfin .skip (f.vars.set x.a.toNat val) f.st f.key .zero false (by unfold deed; rw [if_neg (by omega),if_pos k]; rw [hval (.inl k),if_pos rfl]) _ x _ tells_zero J r hJ hr _ VS ?_ ?_ ?_ ?_ ?_
  ·simp [h6]
  ·simp [h7]
  ·simp [h8]
  ·simp [h13,hto]
  ·simp [h14]
 ·-- TPush
  rw [k,if_neg (by omega)] at hto
  have ha:=ok_a hok; rw [k] at ha
  have ha:=num3 (v:=vn) (p:=c.procs.length) ha
  obtain ⟨a,hxa⟩:∃ a:Nat,x.a = a:=⟨x.a.toNat,by omega⟩
  have hl:=ok_l hok; rw [k] at hl
  have hl:(x.l.length:Int) = 1:=hl
  obtain ⟨y,hy⟩:∃ y,x.l = [y]:=List.length_eq_one_iff.1 (by omega)
  have hp:=sp_psh f.st a y (by omega) (by omega) (fun l hl=>by have:=hrow l hl; exact ⟨by omega,this.2⟩) (hkids y (by rw [hy]; simp))
  simp [-W21_k9,k,h3,h6,h7,h8,h11,h12,h13,h14,h15,hxa,hy]
  refine scall0_pure hp (by simp) (by simp) ?_
  simp [-W21_k9,k,h3,h6,h7,h8,h11,h12,h13,h14,h15,s10]
  refine hfin .skip f.vars (stPush f.st a y) f.key .zero false (by unfold deed; rw [if_neg (by omega),if_neg (by omega),if_pos k]; rw [hxa,hy]; rfl) _ x _ tells_zero J r hJ hr _ VS ?_ ?_ ?_ ?_ ?_
  ·simp [h6]
  ·simp [h7]
  ·simp [h8]
  ·simp [h13,hto]
  ·simp [h14]
 ·-- TReverse
  rw [k,if_neg (by omega)] at hto
  have ha:=ok_a hok; rw [k] at ha
  have ha:=num3 (v:=vn) (p:=c.procs.length) ha
  obtain ⟨a,hxa⟩:∃ a:Nat,x.a = a:=⟨x.a.toNat,by omega⟩
  have hal:a < f.st.length:=by omega
  have hp:=sp_rev f.st a hal (by omega) (fun l hl=>by have:=hrow l hl; exact ⟨by omega,this.2⟩)
  simp [-W21_k9,k,h3,h6,h7,h8,h11,h12,h13,h14,h15,hxa]
  refine scall_pure hp (by simp) (by simp) ?_
  simp [-W21_k9,k,h3,h6,h7,h8,h11,h12,h13,h14,h15,s10]
  refine hfin (stRev f.st[a]) f.vars (stAccept f.st a) f.key .zero false (by unfold deed; rw [if_neg (by omega),if_neg (by omega),if_neg (by omega),if_pos k]; rw [hxa,stAt_nat hal]) _ x _ (tells_enc _) J r hJ hr _ VS ?_ ?_ ?_ ?_ ?_
  ·simp [h6]
  ·simp [h7]
  ·simp [h8]
  ·simp [h13,hto]
  ·simp [h14]
 ·-- TAccept
  rw [k,if_neg (by omega)] at hto
  have ha:=ok_a hok; rw [k] at ha
  have ha:=num3 (v:=vn) (p:=c.procs.length) ha
  have hp:=sp_acc f.st x.a (by omega) (by omega) (fun l hl=>by have:=hrow l hl; exact ⟨by omega,this.2⟩)
  simp [-W21_k9,k,h3,h6,h7,h8,h11,h12,h13,h14,h15]
  refine scall_pure hp (by simp) (by simp) ?_
  simp [-W21_k9,k,h3,h6,h7,h8,h11,h12,h13,h14,h15,s10]
  refine hfin .skip f.vars (stAccept f.st x.a) f.key .zero false (by unfold deed; rw [if_neg (by omega),if_neg (by omega),if_neg (by omega),if_neg (by omega),if_pos k]) _ x _ tells_zero J r hJ hr _ VS ?_ ?_ ?_ ?_ ?_
  ·simp [h6]
  ·simp [h7]
  ·simp [h8]
  ·simp [h13,hto]
  ·simp [h14]
 ·-- TMerge
  rw [k,if_neg (by omega)] at hto
  have ha:=ok_a hok; rw [k] at ha
  have ha:=num3 (v:=vn) (p:=c.procs.length) ha
  have hb:=ok_b hok; rw [k] at hb
  have hb:=num3 (v:=vn) (p:=c.procs.length) hb
  obtain ⟨a,hxa⟩:∃ a:Nat,x.a = a:=⟨x.a.toNat,by omega⟩
  obtain ⟨b,hxb⟩:∃ b:Nat,x.b = b:=⟨x.b.toNat,by omega⟩
  have hp:Am.Spec Tryz.prog 34 [.sl (encSt f.st),.int .i64 a,.int .i64 b] (.sl (encSt (stMerge f.st a b))):=by
   by_cases hab:a = b
   ·subst hab
    have:=sp_mrg0 f.st a (by omega) (fun l hl=>by have:=hrow l hl; exact ⟨by omega,this.2⟩)
    rw [show stMerge f.st a a = f.st from by rw [stMerge,if_pos rfl]]
    exact this
   ·exact sp_mrg f.st a b hab (by omega) (by omega) (by omega) (fun l hl=>by have:=hrow l hl; exact ⟨by omega,this.2⟩)
  simp [-W21_k9,k,h3,h6,h7,h8,h11,h12,h13,h14,h15,hxa,hxb]
  refine scall_pure hp (by simp) (by simp) ?_
  simp [-W21_k9,k,h3,h6,h7,h8,h11,h12,h13,h14,h15,s10]
  refine hfin .skip f.vars (stMerge f.st a b) f.key .zero false (by unfold deed; rw [if_neg (by omega),if_neg (by omega),if_neg (by omega),if_neg (by omega),if_neg (by omega),if_pos k]; rw [hxa,hxb]) _ x _ tells_zero J r hJ hr _ VS ?_ ?_ ?_ ?_ ?_
  ·simp [h6]
  ·simp [h7]
  ·simp [h8]
  ·simp [h13,hto]
  ·simp [h14]
 ·-- TExit
  rw [k,if_pos rfl] at hto
  simp [-W21_k9,k,h3,h6,h7,h8,h11,h12,h13,h14,h15]
  refine scall_pure hblk (by simp) (by simp) ?_
  simp [-W21_k9,k,h3,h6,h7,h8,h11,h12,h13,h14,h15]
  refine hfin .skip f.vars f.st f.key .zero false (by unfold deed; rw [if_neg (by omega),if_neg (by omega),if_neg (by omega),if_neg (by omega),if_neg (by omega),if_neg (by omega),if_neg (by omega),if_neg (by omega),if_neg (by omega)]) _ x _ tells_zero J r hJ hr _ VS ?_ ?_ ?_ ?_ ?_
  ·simp [h6]
  ·simp [h7]
  ·simp [h8]
  ·simp [h13,hto]
  ·simp [h14]
 ·-- TIf
  rw [k,if_neg (by omega)] at hto
  have hl:=ok_l hok; rw [k] at hl
  have hl:(x.l.length:Int) = 2:=hl
  obtain ⟨y,z,hy⟩:∃ y z,x.l = [y,z]:=len_two (by omega)
  by_cases hv:val = 0
  ·simp [-W21_k9,k,h3,h6,h7,h8,h11,h12,h13,h14,h15,hy,hv]
   refine hfin z f.vars f.st f.key .zero false (by unfold deed; rw [if_neg (by omega),if_neg (by omega),if_neg (by omega),if_neg (by omega),if_neg (by omega),if_neg (by omega),if_pos k]; rw [hval (.inr k),hy,if_neg (by simp [hv])]; rfl) _ x _ (tells_enc _) J r hJ hr _ VS ?_ ?_ ?_ ?_ ?_
   ·simp [h6]
   ·simp [h7]
   ·simp [h8]
   ·simp [h13,hto]
   ·simp [h14]
  ·simp [-W21_k9,k,h3,h6,h7,h8,h11,h12,h13,h14,h15,hy,hv]
   refine hfin y f.vars f.st f.key .zero false (by unfold deed; rw [if_neg (by omega),if_neg (by omega),if_neg (by omega),if_neg (by omega),if_neg (by omega),if_neg (by omega),if_pos k]; rw [hval (.inr k),hy,if_pos (by simpa using hv)]; rfl) _ x _ (tells_enc _) J r hJ hr _ VS ?_ ?_ ?_ ?_ ?_
   ·simp [h6]
   ·simp [h7]
   ·simp [h8]
   ·simp [h13,hto]
   ·simp [h14]
 ·-- TChoose
  rw [k,if_neg (by omega)] at hto
  have hl:=ok_l hok; rw [k] at hl
  have hl:(x.l.length:Int) = 2:=hl
  obtain ⟨y,z,hy⟩:∃ y z,x.l = [y,z]:=len_two (by omega)
  rw [if_pos k] at halt
  have h01:st.2.2 = 0 ∨ st.2.2 = 1:=by omega
  rcases h01 with hv | hv
  ·simp [-W21_k9,k,h3,h6,h7,h8,h11,h12,h13,h14,h15,hy,hv]
   refine hfin y f.vars f.st f.key .zero false (by unfold deed; rw [if_neg (by omega),if_neg (by omega),if_neg (by omega),if_neg (by omega),if_neg (by omega),if_neg (by omega),if_neg (by omega),if_pos k]; rw [hv,hy]; rfl) _ x _ (tells_enc _) J r hJ hr _ VS ?_ ?_ ?_ ?_ ?_
   ·simp [h6]
   ·simp [h7]
   ·simp [h8]
   ·simp [h13,hto]
   ·simp [h14]
  ·simp [-W21_k9,k,h3,h6,h7,h8,h11,h12,h13,h14,h15,hy,hv]
   refine hfin z f.vars f.st f.key .zero false (by unfold deed; rw [if_neg (by omega),if_neg (by omega),if_neg (by omega),if_neg (by omega),if_neg (by omega),if_neg (by omega),if_neg (by omega),if_pos k]; rw [hv,hy]; rfl) _ x _ (tells_enc _) J r hJ hr _ VS ?_ ?_ ?_ ?_ ?_
   ·simp [h6]
   ·simp [h7]
   ·simp [h8]
   ·simp [h13,hto]
   ·simp [h14]
 ·-- TCall
  rw [k,if_neg (by omega)] at hto
  have ha:=ok_a hok; rw [k] at ha
  have ha:=num4 (v:=vn) (s:=sn) ha
  obtain ⟨a,hxa⟩:∃ a:Nat,x.a = a:=⟨x.a.toNat,by omega⟩
  have hal:a < c.procs.length:=by omega
  have hix:ixRows (c.procs.map encT) (a:Int) 9 = some (.elt (encT c.procs[a]) 0):=by rw [ixRows_nat]; simp [List.getElem?_eq_getElem hal]
  simp [-W21_k9,k,h3,h6,h7,h8,h11,h12,h13,h14,h15,hxa,hix]
  refine hfin c.procs[a] f.vars f.st f.key .zero false (by unfold deed; rw [if_neg (by omega),if_neg (by omega),if_neg (by omega),if_neg (by omega),if_neg (by omega),if_neg (by omega),if_neg (by omega),if_neg (by omega),if_pos k]; rw [hxa,Int.toNat_natCast,List.getElem?_eq_getElem hal]; rfl) _ x _ (tells_enc _) J r hJ hr _ VS ?_ ?_ ?_ ?_ ?_
  ·simp [h6]
  ·simp [h7]
  ·simp [h8]
  ·simp [h13,hto]
  ·simp [h14]
theorem sp_do (c:Cor) (f:Cfg) (pick:Int) {vn sn:Int} (he:Env8 vn sn c.procs) (hf:OkF vn sn c.procs f) (hvn:vn ≤ 1000) (hsn:sn ≤ 1000) :
  Am.Spec Tryz.prog 21 [.agg (encC c),.agg (encF f),.int .i64 pick] (.tup [.agg (encF (doM c.procs f pick).f),.agg (encEv (doM c.procs f pick).ev),.bool (doM c.procs f pick).is,.int .i64 (doM c.procs f pick).e]):=by
 have hwt:=hf.wt
 have henb:=sp_enb f.t (by omega)
 have ho:=hs_rown f (by omega) (by have:=hf.vlen hvn; omega) (by have:=hf.slen hsn; omega) (fun l hl=>by have:=hf.srow l hl; exact ⟨by omega,this.2⟩)
 rw [hf.norm] at ho
 rw [doM_eq hf.norm]
 by_cases h0:pick < 0
 ·rw [if_pos h0]
  simp only [no_f,no_ev,no_is,no_e,encF_zero,encEv_zero]
  refine W21_S (by simp) ?_
  intro vs
  simp
  refine sScope_straight fun J=>?_
  simp
  refine scall_pure henb (by simp) (by simp) ?_
  simp [h0,retW_eq]
 rw [if_neg h0]
 by_cases h1:(f.t.enabled.length:Int) ≤ pick
 ·rw [List.getElem?_eq_none (by omega)]
  simp only [no_f,no_ev,no_is,no_e,encF_zero,encEv_zero]
  refine W21_S (by simp) ?_
  intro vs
  simp
  refine sScope_straight fun J=>?_
  simp
  refine scall_pure henb (by simp) (by simp) ?_
  simp [h0,h1,retW_eq]
 have hlt:pick.toNat < f.t.enabled.length:=by omega
 rw [List.getElem?_eq_getElem hlt]
 simp only
 by_cases h2:5000 ≤ f.steps
 ·rw [if_pos h2]
  simp only [no_f,no_ev,no_is,no_e,encF_zero,encEv_zero]
  refine W21_S (by simp) ?_
  intro vs
  simp
  refine sScope_straight fun J=>?_
  simp
  refine scall_pure henb (by simp) (by simp) ?_
  simp [h0,h1,h2,retW_eq]
 rw [if_neg h2]
 have hs:=List.getElem_mem hlt
 obtain ⟨i,hi⟩:∃ i:Nat,pick = i:=⟨pick.toNat,by omega⟩
 subst hi
 have hlt':i < f.t.enabled.length:=hlt
 generalize hst:f.t.enabled[(i:Int).toNat] = st at *
 have hix:ixRows (f.t.enabled.map encS) (i:Int) 3 = some (.elt (encS st) 0):=by
  rw [ixRows_nat]; simp [List.getElem?_eq_getElem hlt',← hst]
 have hso:=step_ok f.t st (by rw [← enabled_eq hf.norm]; exact hs)
 have hon:=actP_on hso.act
 have hpl:=onP_len hon
 have hat:=sp_rat f.t st.2.1 hon (by omega)
 have hxr:=at_right _ _ _ hso.act _ hf.t
 have hxe:=allE_at hon hf.ex
 obtain ⟨hok,-,-⟩:=right_ok hxr
 have hev:(atT f.t st.2.1).kind = 2 ∨ (atT f.t st.2.1).kind = 9 → Am.Spec Tryz.prog 47 [.agg (encE (atT f.t st.2.1).e),.sl (encI f.vars)] (encR (evE f.vars (atT f.t st.2.1).e)):=fun hk=>by
  have h:=ok_e hok
  have ke:kE (atT f.t st.2.1).kind = true:=decide_eq_true hk
  rw [if_pos ke,← hf.vars] at h
  refine sp_eev f.vars hf.nums (hf.vlen hvn) _ h fun y hy=>?_
  rw [allE_eq,Bool.and_eq_true,exN,Bool.and_eq_true] at hxe
  exact List.all_eq_true.1 hxe.1.2 y hy
 have hK:=fun val hval v3 v4 v6 v7 v60 v11 v12 v14=>do_k35 c f he hf hvn hsn st hs val hval v3 v4 v6 v7 v60 v11 v12 v14
 have ho:Am.HSpecL Tryz.prog 41 [.agg (encF f)] [] fun r l'=>∃ v,r = .agg (encFL f 8 v) ∧ l' = [(8,.row v 3 1 (encI f.vars))]:=ho
 obtain ⟨r,hr⟩:∃ r,r = didR (if (deed c.procs f (atT f.t st.2.1) st.2.2).e ≠ 0 then .no (deed c.procs f (atT f.t st.2.1) st.2.2).e
   else if 2000 < (putT f.t (toP f.t st) (deed c.procs f (atT f.t st.2.1) st.2.2).t).norm.size + stSize (deed c.procs f (atT f.t st.2.1) st.2.2).st then .no 11
   else ⟨⟨(putT f.t (toP f.t st) (deed c.procs f (atT f.t st.2.1) st.2.2).t).norm,(deed c.procs f (atT f.t st.2.1) st.2.2).vars,(deed c.procs f (atT f.t st.2.1) st.2.2).st,f.steps + 1,(deed c.procs f (atT f.t st.2.1) st.2.2).key⟩,(deed c.procs f (atT f.t st.2.1) st.2.2).ev,(deed c.procs f (atT f.t st.2.1) st.2.2).is,0⟩):=⟨_,rfl⟩
 show Am.Spec Tryz.prog 21 [.agg (encC c),.agg (encF f),.int .i64 (i:Nat)] (didR (if (deed c.procs f (atT f.t st.2.1) st.2.2).e ≠ 0 then .no (deed c.procs f (atT f.t st.2.1) st.2.2).e
   else if 2000 < (putT f.t (toP f.t st) (deed c.procs f (atT f.t st.2.1) st.2.2).t).norm.size + stSize (deed c.procs f (atT f.t st.2.1) st.2.2).st then .no 11
   else ⟨⟨(putT f.t (toP f.t st) (deed c.procs f (atT f.t st.2.1) st.2.2).t).norm,(deed c.procs f (atT f.t st.2.1) st.2.2).vars,(deed c.procs f (atT f.t st.2.1) st.2.2).st,f.steps + 1,(deed c.procs f (atT f.t st.2.1) st.2.2).key⟩,(deed c.procs f (atT f.t st.2.1) st.2.2).ev,(deed c.procs f (atT f.t st.2.1) st.2.2).is,0⟩))
 rw [← hr]
 by_cases hk:(atT f.t st.2.1).kind = 2 ∨ (atT f.t st.2.1).kind = 9
 ·have hev:=hev hk
  have hd:(deed c.procs f (atT f.t st.2.1) st.2.2).e = (evE f.vars (atT f.t st.2.1).e).2:=by
   rcases hk with k | k
   ·unfold deed
    rw [if_neg (by omega),if_pos k]
    split
    ·rename_i h; exact h.symm
    ·rfl
   ·unfold deed
    rw [if_neg (by omega),if_neg (by omega),if_neg (by omega),if_neg (by omega),if_neg (by omega),if_neg (by omega),if_pos k]
  have hm:(decide ((atT f.t st.2.1).kind = 2) || decide ((atT f.t st.2.1).kind = 9)) = true:=by simpa using hk
  by_cases hz:(evE f.vars (atT f.t st.2.1).e).2 = 0
  ·have hK:=hK (evE f.vars (atT f.t st.2.1).e).1 (fun _=>by rw [← hz])
   generalize atT f.t st.2.1 = x at *
   generalize evE f.vars x.e = ev at *
   simp only [encR] at hev
   rcases hk with k | k
   ·refine W21_S (by simp) ?_
    intro vs
    simp
    refine sScope_out (doI r) (fun J hJ=>?_) (fun J s h=>do_g51 _ J s h)
    simp
    refine scall_pure henb (by simp) (by simp) ?_
    simp [h0,h1,h2]
    refine scall_heap [] [(60,8)] ho (by simp) (by simp) (by simp) ?_
    intro r' l' VS' hrl
    obtain ⟨v,rfl,rfl⟩:=hrl
    refine ⟨by simp [encFL_okk],?_⟩
    simp [encFL_ren,hix,encS]
    refine scall_pure hat (by simp) (by simp) ?_
    simp [-W21_k35,-W21_k9,k]
    refine scall_flat hev (by simp) (by simp) rfl ?_
    simp [-W21_k35,-W21_k9,k,hz]
    refine hK _ _ _ _ _ _ _ _ J r hJ hr _ VS' ?_ ?_ ?_ ?_ ?_ ?_ ?_ ?_ ?_
    all_goals simp
   ·refine W21_S (by simp) ?_
    intro vs
    simp
    refine sScope_out (doI r) (fun J hJ=>?_) (fun J s h=>do_g51 _ J s h)
    simp
    refine scall_pure henb (by simp) (by simp) ?_
    simp [h0,h1,h2]
    refine scall_heap [] [(60,8)] ho (by simp) (by simp) (by simp) ?_
    intro r' l' VS' hrl
    obtain ⟨v,rfl,rfl⟩:=hrl
    refine ⟨by simp [encFL_okk],?_⟩
    simp [encFL_ren,hix,encS]
    refine scall_pure hat (by simp) (by simp) ?_
    simp [-W21_k35,-W21_k9,k]
    refine scall_flat hev (by simp) (by simp) rfl ?_
    simp [-W21_k35,-W21_k9,k,hz]
    refine hK _ _ _ _ _ _ _ _ J r hJ hr _ VS' ?_ ?_ ?_ ?_ ?_ ?_ ?_ ?_ ?_
    all_goals simp
  ·generalize atT f.t st.2.1 = x at *
   generalize evE f.vars x.e = ev at *
   simp only [encR] at hev
   rcases hk with k | k
   ·refine W21_S (by simp) ?_
    intro vs
    simp
    refine sScope_out (doI r) (fun J hJ=>?_) (fun J s h=>do_g51 _ J s h)
    simp
    refine scall_pure henb (by simp) (by simp) ?_
    simp [h0,h1,h2]
    refine scall_heap [] [(60,8)] ho (by simp) (by simp) (by simp) ?_
    intro r' l' VS' hrl
    obtain ⟨v,rfl,rfl⟩:=hrl
    refine ⟨by simp [encFL_okk],?_⟩
    simp [encFL_ren,hix,encS]
    refine scall_pure hat (by simp) (by simp) ?_
    simp [-W21_k35,-W21_k9,k]
    refine scall_flat hev (by simp) (by simp) rfl ?_
    simp [-W21_k35,-W21_k9,k,hz]
    refine hJ _ ⟨_,VS',ev.2,c,f,f,f.vars,.zero,[.int .i64 st.1,.sl (encI st.2.1),.int .i64 st.2.2],x,[.int .i64 0,.int .i64 0,.int .i64 0,.str ⟨#[]⟩,.int .i64 0,.int .i64 0,.str ⟨#[]⟩,.nils,.nils],_,_,_,_,_,_,_,_,rfl,?_,?_,?_,?_⟩
    ·simp
    ·simp
    ·simp
    ·rw [hr,hd,if_pos hz]
   ·refine W21_S (by simp) ?_
    intro vs
    simp
    refine sScope_out (doI r) (fun J hJ=>?_) (fun J s h=>do_g51 _ J s h)
    simp
    refine scall_pure henb (by simp) (by simp) ?_
    simp [h0,h1,h2]
    refine scall_heap [] [(60,8)] ho (by simp) (by simp) (by simp) ?_
    intro r' l' VS' hrl
    obtain ⟨v,rfl,rfl⟩:=hrl
    refine ⟨by simp [encFL_okk],?_⟩
    simp [encFL_ren,hix,encS]
    refine scall_pure hat (by simp) (by simp) ?_
    simp [-W21_k35,-W21_k9,k]
    refine scall_flat hev (by simp) (by simp) rfl ?_
    simp [-W21_k35,-W21_k9,k,hz]
    refine hJ _ ⟨_,VS',ev.2,c,f,f,f.vars,.zero,[.int .i64 st.1,.sl (encI st.2.1),.int .i64 st.2.2],x,[.int .i64 0,.int .i64 0,.int .i64 0,.str ⟨#[]⟩,.int .i64 0,.int .i64 0,.str ⟨#[]⟩,.nils,.nils],_,_,_,_,_,_,_,_,rfl,?_,?_,?_,?_⟩
    ·simp
    ·simp
    ·simp
    ·rw [hr,hd,if_pos hz]
 ·have hK:=hK 0 (fun h=>absurd h hk)
  have n2:¬ (atT f.t st.2.1).kind = 2:=fun h=>hk (.inl h)
  have n9:¬ (atT f.t st.2.1).kind = 9:=fun h=>hk (.inr h)
  generalize atT f.t st.2.1 = x at *
  refine W21_S (by simp) ?_
  intro vs
  simp
  refine sScope_out (doI r) (fun J hJ=>?_) (fun J s h=>do_g51 _ J s h)
  simp
  refine scall_pure henb (by simp) (by simp) ?_
  simp [h0,h1,h2]
  refine scall_heap [] [(60,8)] ho (by simp) (by simp) (by simp) ?_
  intro r' l' VS' hrl
  obtain ⟨v,rfl,rfl⟩:=hrl
  refine ⟨by simp [encFL_okk],?_⟩
  simp [encFL_ren,hix,encS]
  refine scall_pure hat (by simp) (by simp) ?_
  simp [-W21_k35,-W21_k9,n2,n9]
  refine hK _ _ _ _ _ _ _ _ J r hJ hr _ VS' ?_ ?_ ?_ ?_ ?_ ?_ ?_ ?_ ?_
  all_goals simp
end Go.Proofs.YtnngddgaobhkiaaGreat
namespace Go.Proofs.YtnngddgaobhkiaaGreat
open Go Go.Am Go.RowKit
attribute [local simp] W11 W11_rs
structure CorOk (c:Cor):Prop where
 chk:chkM c = true
 ex:∀ t ∈ c.procs,allE t = true
 nums:∀ n ∈ c.vars,isI64 n = true
abbrev OkC (c:Cor) (f:Cfg):Prop:=OkF c.vars.length c.stacks c.procs f
def begM (c:Cor):Cfg:=⟨((c.procs[c.main.toNat]?).getD .skip).norm,c.vars,List.replicate c.stacks.toNat [],0,0⟩
structure ChkOk (c:Cor):Prop where
 vars:(c.vars.length:Int) ≤ 20
 st:0 ≤ c.stacks ∧ c.stacks ≤ 10
 procs:1 ≤ (c.procs.length:Int) ∧ (c.procs.length:Int) ≤ 20
 main:0 ≤ c.main ∧ c.main < c.procs.length
 all:∀ t ∈ c.procs,t.size ≤ 2000 ∧ tmAny t = false ∧ tmRight c.vars.length c.stacks c.procs.length t false = true
theorem chk_ok {c:Cor} (h:chkM c = true):ChkOk c:=by
 unfold chkM at h
 simp only [Bool.and_eq_true,decide_eq_true_eq,List.all_eq_true] at h
 obtain ⟨h1,h2,h3,h4,h5,h6,h7,h8⟩:=h
 refine ⟨h1,⟨h2,h3⟩,⟨h4,h5⟩,⟨h6,h7⟩,fun t ht=>?_⟩
 have:=h8 t ht
 unfold chkT at this
 simp only [Bool.and_eq_true,decide_eq_true_eq,Bool.not_eq_true'] at this
 exact this
theorem chk_of {c:Cor} (h:ChkOk c):chkM c = true:=by
 unfold chkM
 simp only [Bool.and_eq_true,decide_eq_true_eq,List.all_eq_true]
 refine ⟨h.vars,h.st.1,h.st.2,h.procs.1,h.procs.2,h.main.1,h.main.2,fun t ht=>?_⟩
 have:=h.all t ht
 unfold chkT
 simp only [Bool.and_eq_true,decide_eq_true_eq,Bool.not_eq_true']
 exact this
theorem CorOk.env {c:Cor} (h:CorOk c):Env8 c.vars.length c.stacks c.procs where
 right:=fun t ht=>by
  have:=(chk_ok h.chk).all t ht
  rw [tmRight_pushed,this.2.2,this.2.1]; rfl
 small:=h.ex
 size:=fun t ht=>((chk_ok h.chk).all t ht).1
theorem main_get {c:Cor} (h:CorOk c):∃ (m:Nat) (hm:m < c.procs.length),c.main = m ∧ (c.procs[c.main.toNat]?).getD .skip = c.procs[m]:=by
 have:=(chk_ok h.chk).main
 refine ⟨c.main.toNat,by omega,by omega,?_⟩
 rw [List.getElem?_eq_getElem (by omega)]; rfl
theorem CorOk.wt {c:Cor} (h:CorOk c):∀ t ∈ c.procs,t.lok ∧ t.wt ≤ 20010000:=fun t ht=>by
 have h1:=allE_wt t (h.ex t ht)
 have h2:=((chk_ok h.chk).all t ht).1
 exact ⟨Tm.lok_of_wt t (by omega),by omega⟩
theorem stSize_rep (n:Nat):stSize (List.replicate n []) = 0:=by
 induction n with
 | zero=>rfl
 | succ n ih=>simp only [stSize,List.replicate_succ,List.map_cons,List.sum_cons,Tm.sizes] at *; omega
theorem beg_ok {c:Cor} (h:CorOk c):OkC c (begM c):=by
 obtain ⟨m,hm,e,eg⟩:=main_get h
 have hk:=chk_ok h.chk
 have hin:=List.getElem_mem hm
 have ha:=hk.all _ hin
 have hx:=h.ex _ hin
 have ho:=right_okN _ _ _ _ _ ha.2.2
 have hn:=norm_size _ ho
 unfold OkC begM
 rw [eg]
 refine ⟨right_norm _ _ _ _ _ ha.2.2,allE_norm _ ho hx,norm_norm _ ho,rfl,h.nums,?_,?_,?_,by simp only; omega,by simp only; omega⟩
 ·have:=hk.st; simp only [List.length_replicate]; omega
 ·intro l hl t ht
  rw [(List.mem_replicate.1 hl).2] at ht
  simp at ht
 ·simp only [stSize_rep]; omega
theorem sp_begC {c:Cor} (h:CorOk c):Am.Spec Tryz.prog 14 [.agg (encC c)] (.agg (encF (begM c))):=by
 obtain ⟨m,hm,e,eg⟩:=main_get h
 have hk:=chk_ok h.chk
 have:=(h.wt _ (List.getElem_mem hm)).2
 have:=sp_beg c m c.stacks.toNat e hm (by have:=hk.st; omega) (by have:=hk.st; omega) (by omega) (by have:=hk.vars; omega)
 unfold begM
 rw [eg]
 exact this
theorem sp_doC {c:Cor} (h:CorOk c) {f:Cfg} (hf:OkC c f) (pick:Int):Am.Spec Tryz.prog 21 [.agg (encC c),.agg (encF f),.int .i64 pick] (didR (doM c.procs f pick)):=
 sp_do c f pick h.env hf (by have:=(chk_ok h.chk).vars; omega) (by have:=(chk_ok h.chk).st; omega)
def toldR (d:Told):AV:=.tup [.agg (encF d.f),.agg (encEv d.ev),.bool d.is]
theorem sp_tellC {c:Cor} (h:CorOk c) {f:Cfg} (hf:OkC c f) (key value:Int):Am.Spec Tryz.prog 19 [.agg (encC c),.agg (encF f),.int .i64 key,.int .i64 value] (toldR (tellM f key value)):=by
 have hk:=chk_ok h.chk
 have hwt:=hf.wt
 have hv:=hf.vlen (by have:=hk.vars; omega)
 have hs:=hf.slen (by have:=hk.st; omega)
 have hn:=hf.norm
 refine sp_tell c f key value (by omega) ?_ ?_ (by omega) (by omega) (fun l hl=>by have:=hf.srow l hl; exact ⟨by omega,this.2⟩) ?_
 ·rw [hn]; omega
 ·rw [hn]; exact Tm.lok_of_wt _ (by omega)
 ·rw [hn]
  intro p hp
  have h1:=tell_put hf hp
  refine ⟨(tell_b hf hp).1,?_⟩
  have:=allE_wt _ h1.2.1
  have:=hf.size
  have:=stSize_nn f.st
  omega
theorem sp_chkC {c:Cor} (h:CorOk c):Am.Spec Tryz.prog 17 [.agg (encC c)] (.bool true):=by
 rw [← h.chk]
 exact sp_chk c fun t ht=>⟨(h.wt t ht).1,by have:=(h.wt t ht).2; omega⟩
@[simp] theorem nrmL_encF (f:Cfg):nrmL (encF f) = encF f:=by rw [encF_eq,encSt_Q]; simp [nrmL,nrm,nrmLL_map,encI]
@[simp] theorem nrmL_encEv (ev:Ev):nrmL (encEv ev) = encEv ev:=rfl
@[simp] theorem nrmL_encC (c:Cor):nrmL (encC c) = encC c:=by simp [encC,nrmL,nrm,nrmLL_map,encI]
def tPay:Tm:=⟨1,-1,0,⟨#[112,97,121]⟩,.zero,[]⟩
def cPay:Cor:=⟨[],0,[tPay],0⟩
theorem pay_ok:CorOk cPay where
 chk:=by decide +kernel
 ex:=by decide +kernel
 nums:=by decide +kernel
theorem encC_pay:encC cPay = [.sl [],.int .i64 0,.sl [encT tPay],.int .i64 0]:=rfl
theorem encT_pay:encT tPay = [.int .i64 1,.int .i64 (-1),.int .i64 0,.str ⟨#[112,97,121]⟩,.int .i64 0,.int .i64 0,.str ⟨#[]⟩,.sl [],.sl []]:=by rw [encT_eq]; rfl
structure KnoT (g:Cfg) (ev:Ev) (is:Bool) (e e1:Int) (h:Told):Prop where
 e:e = 0
 is:is = true
 name:ev.name = ⟨#[112,97,121]⟩
 key:g.key = 1
 e1:e1 = 12
 has:h.is = true
 val:h.ev.value = 7
 kind:h.f.t.kind = 0
theorem kno_t:KnoT (doM [tPay] (begM cPay) 0).f (doM [tPay] (begM cPay) 0).ev (doM [tPay] (begM cPay) 0).is (doM [tPay] (begM cPay) 0).e (doM [tPay] (begM cPay) 1).e (tellM (doM [tPay] (begM cPay) 0).f 0 7):=by
 constructor <;> decide +kernel
theorem sp_kno8:Am.Spec Tryz.prog 11 [] (.bool true):=by
 have ht:=kno_t
 have hb:=beg_ok pay_ok
 have h1:=sp_begC pay_ok
 have h2:=sp_doC pay_ok hb 0
 have h3:=sp_doC pay_ok hb 1
 have h4:=sp_tellC pay_ok (doM_ok pay_ok.env hb 0 ht.e) 0 7
 have h5:=sp_chkC pay_ok
 rw [show cPay.procs = [tPay] from rfl] at h2 h3 h4
 generalize doM [tPay] (begM cPay) 0 = d at *
 generalize doM [tPay] (begM cPay) 1 = d1 at *
 generalize begM cPay = f at *
 generalize tellM d.f 0 7 = t at *
 obtain ⟨a1,a2,a3,a4,a5,a6,a7,a8⟩:=ht
 simp only [didR,toldR,encC_pay,encT_pay] at h1 h2 h3 h4 h5
 refine W11_S (by simp) ?_
 intro vs
 simp
 refine scall_nrm h1 (by simp [nrmL,nrm,nrmLL]) (by simp [closedL,closedLL]) ?_
 simp
 refine scall_nrm h2 (by simp [nrmL,nrm,nrmLL]) (by simp [closedL,closedLL]) ?_
 simp
 refine scall_nrm h3 (by simp [nrmL,nrm,nrmLL]) (by simp [closedL,closedLL]) ?_
 simp
 refine scall_nrm h4 (by simp [nrmL,nrm,nrmLL]) (by simp [closedL,closedLL]) ?_
 simp
 refine scall_nrm h5 (by simp [nrmL,nrm,nrmLL]) (by simp [closedL,closedLL]) ?_
 simp [a1,a2,a3,a4,a5,a6,a7,a8,encEv,retW_eq]
end Go.Proofs.YtnngddgaobhkiaaGreat
namespace Go.Proofs.YtnngddgaobhkiaaGreat
open Go Go.Am Go.RowKit
def exI (x:Ex):Bool:=(Ex.pre x).all fun y=>isI64 y.n
theorem exIs:∀ l,((Ex.pres l).all fun y=>isI64 y.n) = l.all exI
 | []=>rfl
 | x :: l=>by simp only [Ex.pres,List.all_append,List.all_cons,exIs l,exI]
theorem exI_eq (x:Ex):exI x = (isI64 x.n && x.l.all exI):=by
 unfold exI
 rw [Ex.pre_eq,List.all_cons,exIs]
 rfl
theorem exI_of (k n:Int) (s:ByteArray) (l:List Ex) (h:isI64 n = true) (hl:∀ x ∈ l,exI x = true):exI ⟨k,n,s,l⟩ = true:=by
 rw [exI_eq,h]; exact List.all_eq_true.2 hl
theorem i64_of {n:Int} (h:-9223372036854775808 ≤ n) (h2:n < 9223372036854775808):isI64 n = true:=(isI64_iff n).2 ⟨h,h2⟩
theorem leaf_i (n i:Int):exI (lowE vsL (leafE n i)) = true:=by
 have h:=within_ge (IntKind.wrap .i64 (n + i)) 5 (by omega)
 have h2:=within_lt (IntKind.wrap .i64 (n + i)) 5 (by omega)
 rw [lowE_eq]
 simp only [leafE,List.map_nil]
 exact exI_of _ _ _ _ (i64_of (by simp; omega) (by simp; omega)) (by simp)
theorem ex_i (x:Rw2):exI (lowE vsL (x.ex vsL)) = true:=by
 have ih:∀ y ∈ x.l,exI (lowE vsL (y.ex vsL)) = true:=fun y hy=>ex_i y
 have hp:∀ i,exI (lowE vsL (x.part vsL i)) = true:=fun i=>by
  unfold Rw2.part
  rcases Rw2.nodess_get x.l i with ⟨y,h1,h2⟩ | h1
  ·rw [h1]; exact ih y h2
  ·rw [h1]; exact leaf_i _ _
 have w0:=within_ge x.k 24 (by omega)
 have w1:=within_lt x.k 24 (by omega)
 have w2:=within_ge x.n 8 (by omega)
 have w3:=within_lt x.n 8 (by omega)
 have hk:=nthB_in vsL x.n vsL.length (by simp [vsL]) rfl
 have hv:(vsL.length:Int) = 3:=rfl
 have hnum:isI64 (numsE.getD (within x.n 8).toNat 0) = true:=by
  generalize within x.n 8 = z at *
  have:z = 0 ∨ z = 1 ∨ z = 2 ∨ z = 3 ∨ z = 4 ∨ z = 5 ∨ z = 6 ∨ z = 7:=by omega
  rcases this with rfl | rfl | rfl | rfl | rfl | rfl | rfl | rfl <;> decide
 have hz:isI64 0 = true:=by decide
 rw [x.ex_eq]
 generalize numsE.getD (within x.n 8).toNat 0 = z at *
 split
 ·rw [lowE_eq]
  exact exI_of _ _ _ _ (by simpa using hnum) (by simp)
 ·split
  ·rw [if_pos (by simp [vsL]),lowE_eq]
   exact exI_of _ _ _ _ (by simp; exact i64_of (by omega) (by omega)) (by simp)
  ·split
   ·rw [lowE_eq]
    exact exI_of _ _ _ _ (by simpa using hz) (by simp [hp])
   ·split
    ·rw [lowE_eq]
     exact exI_of _ _ _ _ (by simpa using hz) (by simp [hp])
    ·have h2:¬ within x.k 24 - 6 = 2:=by omega
     rw [lowE_eq]
     exact exI_of _ _ _ _ (by simpa [h2] using hz) (by simp [hp])
termination_by SizeOf.sizeOf x
decreasing_by exact Rw2.lt_of_mem hy
theorem one_i (l:List Rw2):exI (lowE vsL (oneE vsL l)) = true:=by
 cases l with
 | nil=>
  rw [lowE_eq]
  exact exI_of _ _ _ _ (by simp [oneE,isI64]) (by simp [oneE])
 | cons x l=>exact ex_i x
mutual
def allN:Tm → Bool
 | ⟨_,_,_,_,e,l⟩=>exI e && allNs l
def allNs:List Tm → Bool
 | []=>true
 | x :: l=>allN x && allNs l
end
theorem allNs_eq:∀ l,allNs l = l.all allN
 | []=>rfl
 | x :: l=>by simp only [allNs,List.all_cons,allNs_eq l]
theorem allN_eq (t:Tm):allN t = (exI t.e && t.l.all allN):=by cases t; simp only [allN,allNs_eq]
mutual
theorem allE_of_wt:∀ t:Tm,t.wt ≤ 10000 → allN t = true → allE t = true
 | ⟨k,a,b,n,e,l⟩,hw,h=>by
  simp only [allN,Bool.and_eq_true] at h
  simp only [Tm.wt] at hw
  simp only [allE,exN,Bool.and_eq_true,decide_eq_true_eq]
  exact ⟨⟨by omega,h.1⟩,allEs_of_wt l (by omega) h.2⟩
theorem allEs_of_wt:∀ l:List Tm,Tm.wts l ≤ 10000 → allNs l = true → allEs l = true
 | [],_,_=>rfl
 | x :: l,hw,h=>by
  simp only [allNs,Bool.and_eq_true] at h
  simp only [Tm.wts] at hw
  simp only [allEs,Bool.and_eq_true]
  exact ⟨allE_of_wt x (by omega) h.1,allEs_of_wt l (by omega) h.2⟩
end
theorem zero_i:exI .zero = true:=by decide +kernel
theorem an_ite {c:Prop} [Decidable c] {x y:Pr} (h1:allN (lowP vsL ssL dsL x) = true) (h2:allN (lowP vsL ssL dsL y) = true):allN (lowP vsL ssL dsL (if c then x else y)) = true:=by split <;> assumption
theorem an_prOf (k a b:Int) (e:List Rw2) (p q:Pr) (hp:allN (lowP vsL ssL dsL p) = true) (hq:allN (lowP vsL ssL dsL q) = true):allN (lowP vsL ssL dsL (prOf k a b e p q)) = true:=by
 have h5:=one_i e
 unfold prOf
 repeat' apply an_ite
 all_goals
  rw [lowP_eq,allN_eq]
  simp [Pr.of,Pr.skip,lowP0,zero_i,h5,hp,hq]
theorem pr_an (x:Rw3) (d:Nat):allN (lowP vsL ssL dsL (x.pr d)) = true:=by
 have ih:∀ y ∈ x.l,∀ d,allN (lowP vsL ssL dsL (y.pr d)) = true:=fun y hy d=>pr_an y d
 have hs:allN (lowP vsL ssL dsL .skip) = true:=by decide +kernel
 have hp:∀ i,allN (lowP vsL ssL dsL (x.part i d)) = true:=fun i=>by
  unfold Rw3.part
  split
  ·cases h:x.l[i]? with
   | none=>exact hs
   | some y=>exact ih y (List.mem_of_getElem? h) _
  ·exact hs
 rw [x.pr_eq]
 exact an_prOf _ _ _ _ _ _ (hp 0) (hp 1)
termination_by SizeOf.sizeOf x
decreasing_by exact Rw3.lt_of_mem hy
def bnd:Nat → Int
 | 0=>3
 | k + 1=>1 + 2 * bnd k
theorem bnd_ge:∀ k,1 ≤ bnd k
 | 0=>by decide
 | k + 1=>by have:=bnd_ge k; simp only [bnd]; omega
theorem sz_ite {c:Prop} [Decidable c] {x y:Pr} {n:Int} (h1:(lowP vsL ssL dsL x).size ≤ n) (h2:(lowP vsL ssL dsL y).size ≤ n):(lowP vsL ssL dsL (if c then x else y)).size ≤ n:=by split <;> assumption
theorem sz_prOf (k a b:Int) (e:List Rw2) (p q:Pr):(lowP vsL ssL dsL (prOf k a b e p q)).size ≤ 1 + (lowP vsL ssL dsL p).size + (lowP vsL ssL dsL q).size:=by
 have hp:=(lowP vsL ssL dsL p).size_pos
 have hq:=(lowP vsL ssL dsL q).size_pos
 unfold prOf
 repeat' apply sz_ite
 all_goals
  rw [lowP_eq,Tm.size_eq]
  simp [Pr.of,Pr.skip,lowP0,Tm.sizes]
  omega
theorem pr_sz:∀ (k:Nat) (x:Rw3) (d:Nat),6 - d = k → (lowP vsL ssL dsL (x.pr d)).size ≤ bnd k
 | k,x,d,e=>by
  have hs:(lowP vsL ssL dsL .skip).size = 1:=by decide +kernel
  have h:=sz_prOf x.k x.a x.b x.e (x.part 0 d) (x.part 1 d)
  rw [← x.pr_eq] at h
  cases k with
  | zero=>
   have hp:∀ i,x.part i d = .skip:=fun i=>by unfold Rw3.part; rw [if_neg (by omega)]
   rw [hp,hp,hs] at h
   simpa [bnd] using h
  | succ k=>
   have hb:=bnd_ge k
   have hp:∀ i,(lowP vsL ssL dsL (x.part i d)).size ≤ bnd k:=fun i=>by
    unfold Rw3.part
    rw [if_pos (by omega)]
    cases hx:x.l[i]? with
    | none=>simp only [Option.map_none,Option.getD_none]; omega
    | some y=>exact pr_sz k y (d + 1) (by omega)
   have h0:=hp 0
   have h1:=hp 1
   simp only [bnd]
   omega
theorem pr_sz0 (x:Rw3):(lowP vsL ssL dsL (x.pr 0)).size ≤ 255:=pr_sz 6 x 0 rfl
theorem pr_all (x:Rw3) (h:x.sz 0 ≤ 40):allE (lowP vsL ssL dsL (x.pr 0)) = true:=by
 refine allE_of_wt _ ?_ (pr_an x 0)
 have h1:=lowP_wt vsL ssL dsL (x.pr 0)
 have h2:=x.pr_wt 0
 have h3:=bulk_of x h
 omega
end Go.Proofs.YtnngddgaobhkiaaGreat
