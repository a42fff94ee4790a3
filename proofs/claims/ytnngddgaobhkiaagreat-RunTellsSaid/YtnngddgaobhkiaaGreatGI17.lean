import Derived.Test.YtnngddgaobhkiaaGreatGH16
set_option linter.unusedVariables false
set_option linter.unusedSimpArgs false
namespace Go.Proofs.YtnngddgaobhkiaaGreat
open Go Go.Am Go.RowKit
attribute [local simp] W117 W117_rs W117_b1 W117_b2 W118 W118_rs W118_b2 W118_b4 W118_b6 W118_b8 W118_b10 W118_b12 W118_b13 W118_b14 W118_b15 W118_b16 W140 W140_rs W140_b1 W140_b2 W140_b3 W140_b16 W119 W119_rs W119_b1 W119_b2 W119_b8 W119_b9 W119_b10 W119_b16 W119_b18 W119_b19 W119_b20 W119_b21 W119_b22 W119_b23 W119_b24 W119_b27 W119_b30 W119_b31 W119_b32 W119_b33 W89 W89_rs W89_b1 W89_b2 W89_b3 W89_b5 W89_b6 W89_b7 W89_b8 W89_b9 W89_b10 W89_b12 W89_b14 W89_b16 W89_b17 W89_b21 W89_b23 W89_b26 W89_b29 W89_b30 W89_b33 W89_b34 W89_b36 W89_b37
theorem sp_bit (b:Bool):Am.Spec Tryz.prog 117 [.bool b] (encR (truthN b,0)):=by
 cases b
 ·refine W117_S (by simp) ?_
  intro vs
  simp [truthN,encR,retW_eq]
 ·refine W117_S (by simp) ?_
  intro vs
  simp [truthN,encR,retW_eq]
theorem sp_cmp (k a b:Int) (hk:10 ≤ k ∧ k ≤ 15):Am.Spec Tryz.prog 118 [.int .i64 k,.int .i64 a,.int .i64 b] (encR (ev2 k a b)):=by
 obtain ⟨h1,h2⟩:=hk
 rcases (by omega:k = 10 ∨ k = 11 ∨ k = 12 ∨ k = 13 ∨ k = 14 ∨ k = 15) with rfl | rfl | rfl | rfl | rfl | rfl
 ·have h:=sp_bit (decide (a = b))
  rw [show ev2 10 a b = (truthN (decide (a = b)),0) from rfl]
  refine W118_S (by simp) ?_
  intro vs
  simp
  refine scall_pure h (by simp) (by simp) ?_
  simp [encR,retW_eq]
 ·have h:=sp_bit (decide (a ≠ b))
  rw [show ev2 11 a b = (truthN (decide (a ≠ b)),0) from rfl]
  refine W118_S (by simp) ?_
  intro vs
  simp
  refine scall_pure h (by simp) (by simp) ?_
  simp [encR,retW_eq]
 ·have h:=sp_bit (decide (a < b))
  rw [show ev2 12 a b = (truthN (decide (a < b)),0) from rfl]
  refine W118_S (by simp) ?_
  intro vs
  simp
  refine scall_pure h (by simp) (by simp) ?_
  simp [encR,retW_eq]
 ·have h:=sp_bit (decide (a ≤ b))
  rw [show ev2 13 a b = (truthN (decide (a ≤ b)),0) from rfl]
  refine W118_S (by simp) ?_
  intro vs
  simp
  refine scall_pure h (by simp) (by simp) ?_
  simp [encR,retW_eq]
 ·have h:=sp_bit (decide (b < a))
  rw [show ev2 14 a b = (truthN (decide (b < a)),0) from rfl]
  refine W118_S (by simp) ?_
  intro vs
  simp
  refine scall_pure h (by simp) (by simp) ?_
  simp [encR,retW_eq]
 ·have h:=sp_bit (decide (b ≤ a))
  rw [show ev2 15 a b = (truthN (decide (b ≤ a)),0) from rfl]
  refine W118_S (by simp) ?_
  intro vs
  simp
  refine scall_pure h (by simp) (by simp) ?_
  simp [encR,retW_eq]
theorem div_i64 (a b:Int) (ha:isI64 a = true) (h5:b ≠ -1):isI64 (a.tdiv b) = true:=by
 have ha':=(isI64_iff a).1 ha
 have h8:(a.tdiv b).natAbs ≤ a.natAbs:=Int.natAbs_tdiv_le_natAbs a b
 rw [isI64_iff]
 by_cases hw0:a = -9223372036854775808
 ·have h5:2 ≤ b.natAbs ∨ b = 1 ∨ b = 0:=by omega
  rcases h5 with h5 | rfl | rfl
  ·have h6:(a.tdiv b).natAbs = a.natAbs / b.natAbs:=Int.natAbs_tdiv ..
   have h7:a.natAbs / b.natAbs ≤ a.natAbs / 2:=Nat.div_le_div_left h5 (by omega)
   have h9:a.natAbs / 2 = 4611686018427387904:=by subst hw0; rfl
   have h10:(a.tdiv b).natAbs ≤ 4611686018427387904:=by rw [h6,← h9]; exact h7
   omega
  ·rw [Int.tdiv_one]; exact ha'
  ·rw [Int.tdiv_zero]; omega
 ·omega
theorem sp_tm2 (a b:Int) (ha:isI64 a = true) (hb:isI64 b = true):Am.Spec Tryz.prog 140 [.int .i64 a,.int .i64 b] (encR (fit (a * b))):=by
 have hm:=mul_wrap a b ha hb
 have ha':=(isI64_iff a).1 ha
 have hb':=(isI64_iff b).1 hb
 by_cases h0:a = 0
 ·subst h0
  rw [Int.zero_mul,fit_in (by rfl)]
  refine W140_S (by simp) ?_
  intro vs
  simp [encR,retW_eq]
 by_cases h1:b = 0
 ·subst h1
  rw [Int.mul_zero,fit_in (by rfl)]
  refine W140_S (by simp) ?_
  intro vs
  simp [h0,encR,retW_eq]
 by_cases h4:b = -1
 ·subst h4
  by_cases h3:a = -9223372036854775808
  ·subst h3
   have w1:IntKind.wrap .i64 9223372036854775808 = -9223372036854775808:=by decide +kernel
   rw [fit_out (by decide)]
   refine W140_S (by simp) ?_
   intro vs
   simp [w1,encR,retW_eq]
  ·have e:a * (-1:Int) = -a:=by omega
   have w:IntKind.wrap .i64 (-a) = -a:=wrap64 (by omega) (by omega)
   have wa:IntKind.wrap .i64 a = a:=wrap64 (by omega) (by omega)
   have d:(-a).tdiv (-1) = a:=by rw [Int.tdiv_neg,Int.tdiv_one]; omega
   rw [e,fit_in ((isI64_iff _).2 (by omega))]
   by_cases h2:a = -1
   ·subst h2
    have w1:IntKind.wrap .i64 1 = 1:=wrap64 (by omega) (by omega)
    have wm:IntKind.wrap .i64 (-1) = -1:=wrap64 (by omega) (by omega)
    refine W140_S (by simp) ?_
    intro vs
    simp [w1,wm,encR,retW_eq]
   ·refine W140_S (by simp) ?_
    intro vs
    simp [h0,h2,h3,e,w,d,wa,encR,retW_eq]
 have hm:=hm h1
 obtain ⟨c,hc⟩:∃ c,a * b = c:=⟨_,rfl⟩
 rw [hc] at hm ⊢
 have hq:IntKind.wrap .i64 ((IntKind.wrap .i64 c).tdiv b) = (IntKind.wrap .i64 c).tdiv b:=by
  have hw:isI64 (IntKind.wrap .i64 c) = true:=by
   rw [isI64_iff,IntKind.wrap_i64]; omega
  have h:=(isI64_iff _).1 (div_i64 (IntKind.wrap .i64 c) b hw h4)
  exact wrap64 h.1 h.2
 by_cases hf:isI64 c = true
 ·have hsp:¬ (a = -1 ∧ b = -9223372036854775808):=fun ⟨e1,e2⟩=>by
   subst e1 e2
   rw [← hc] at hf
   revert hf; decide
  rw [fit_in hf]
  have hd:=hm.2 hf
  have w:=(isI64_iff c).1 hf
  have w:=wrap64 w.1 w.2
  rw [w] at hd hq
  have wa:IntKind.wrap .i64 a = a:=wrap64 (by omega) (by omega)
  by_cases h2:a = -1
  ·have h5:¬ b = -9223372036854775808:=fun e=>hsp ⟨h2,e⟩
   subst h2
   have w':IntKind.wrap .i64 (-b) = -b:=wrap64 (by omega) (by omega)
   have d':(-b).tdiv b = -1:=by rw [Int.neg_tdiv,Int.tdiv_self h1]
   have w1:IntKind.wrap .i64 (-1) = -1:=wrap64 (by omega) (by omega)
   have hc':c = -b:=by omega
   subst hc'
   refine W140_S (by simp) ?_
   intro vs
   simp [h1,h4,h5,w',d',w1,encR,retW_eq]
  ·refine W140_S (by simp) ?_
   intro vs
   simp [h0,h1,h2,h4,hc,w,hd,wa,encR,retW_eq]
 ·rw [fit_out hf]
  have hd:¬ _:=fun h=>hf (hm.1 h)
  refine W140_S (by simp) ?_
  intro vs
  simp [h0,h1,h4,hc,hq,hd,encR,retW_eq]
theorem sp_rck (k a b:Int) (hk:5 ≤ k ∧ k ≤ 9) (ha:isI64 a = true) (hb:isI64 b = true):Am.Spec Tryz.prog 119 [.int .i64 k,.int .i64 a,.int .i64 b] (encR (ev2 k a b)):=by
 have ha':=(isI64_iff a).1 ha
 have hb':=(isI64_iff b).1 hb
 have hT:=sp_tm2 a b ha hb
 obtain ⟨h1,h2⟩:=hk
 rcases (by omega:k = 5 ∨ k = 6 ∨ k = 7 ∨ k = 8 ∨ k = 9) with rfl | rfl | rfl | rfl | rfl
 ·rw [show ev2 5 a b = fit (a * b) from rfl]
  refine W119_S (by simp) ?_
  intro vs
  simp
  refine scall_pure hT (by simp [encR]) (by simp [encR]) ?_
  simp [encR,retW_eq]
 ·rw [show ev2 6 a b = if b = 0 then (0,9) else fit (a.tdiv b) from rfl]
  by_cases h0:b = 0
  ·subst h0
   refine W119_S (by simp) ?_
   intro vs
   simp [encR,retW_eq]
  ·rw [if_neg h0]
   by_cases h5:b = -1
   ·subst h5
    have e:a.tdiv (-1) = -a:=by rw [Int.tdiv_neg,Int.tdiv_one]
    by_cases h3:a = -9223372036854775808
    ·subst h3
     rw [fit_out (by decide)]
     refine W119_S (by simp) ?_
     intro vs
     simp [encR,retW_eq]
    ·have w:IntKind.wrap .i64 (-a) = -a:=wrap64 (by omega) (by omega)
     rw [e,fit_in ((isI64_iff _).2 (by omega))]
     refine W119_S (by simp) ?_
     intro vs
     simp [h3,e,w,encR,retW_eq]
   ·have h9:=div_i64 a b ha h5
    rw [fit_in h9]
    have w:=(isI64_iff _).1 h9
    have w:=wrap64 w.1 w.2
    refine W119_S (by simp) ?_
    intro vs
    simp [h0,h5,w,encR,retW_eq]
 ·rw [show ev2 7 a b = if b = 0 then (0,9) else (a.tmod b,0) from rfl]
  by_cases h0:b = 0
  ·subst h0
   refine W119_S (by simp) ?_
   intro vs
   simp [encR,retW_eq]
  ·rw [if_neg h0]
   by_cases h5:b = -1
   ·subst h5
    have e:a.tmod (-1) = 0:=by rw [Int.tmod_neg,Int.tmod_one]
    rw [e]
    refine W119_S (by simp) ?_
    intro vs
    simp [encR,retW_eq]
   ·refine W119_S (by simp) ?_
    intro vs
    simp [h0,h5,encR,retW_eq]
 ·rw [show ev2 8 a b = fit (a + b) from rfl]
  obtain ⟨c,hc⟩:∃ c,IntKind.wrap .i64 (a + b) = c:=⟨_,rfl⟩
  have hc2:=hc
  rw [IntKind.wrap_i64] at hc2
  by_cases hq:(0 ≤ a ↔ 0 ≤ b) ∧ ¬ (0 ≤ c ↔ 0 ≤ a)
  ·have ho:¬ isI64 (a + b) = true:=by rw [isI64_iff]; omega
   rw [fit_out ho]
   by_cases p1:0 ≤ a <;> by_cases p2:0 ≤ b <;> by_cases p3:0 ≤ c <;> simp [p1,p2,p3] at hq
   all_goals
    refine W119_S (by simp) ?_
    intro vs
    simp [hc,p1,p2,p3,encR,retW_eq]
  ·have ho:c = a + b ∧ isI64 (a + b) = true:=by rw [isI64_iff]; omega
   rw [fit_in ho.2,← ho.1]
   clear ho
   by_cases p1:0 ≤ a <;> by_cases p2:0 ≤ b <;> by_cases p3:0 ≤ c <;> simp [p1,p2,p3] at hq
   all_goals
    refine W119_S (by simp) ?_
    intro vs
    simp [hc,p1,p2,p3,encR,retW_eq]
 ·rw [show ev2 9 a b = fit (a - b) from rfl]
  obtain ⟨c,hc⟩:∃ c,IntKind.wrap .i64 (a - b) = c:=⟨_,rfl⟩
  have hc2:=hc
  rw [IntKind.wrap_i64] at hc2
  by_cases hq:¬ (0 ≤ a ↔ 0 ≤ b) ∧ ¬ (0 ≤ c ↔ 0 ≤ a)
  ·have ho:¬ isI64 (a - b) = true:=by rw [isI64_iff]; omega
   rw [fit_out ho]
   by_cases p1:0 ≤ a <;> by_cases p2:0 ≤ b <;> by_cases p3:0 ≤ c <;> simp [p1,p2,p3] at hq
   all_goals
    refine W119_S (by simp) ?_
    intro vs
    simp [hc,p1,p2,p3,encR,retW_eq]
  ·have ho:c = a - b ∧ isI64 (a - b) = true:=by rw [isI64_iff]; omega
   rw [fit_in ho.2,← ho.1]
   clear ho
   by_cases p1:0 ≤ a <;> by_cases p2:0 ≤ b <;> by_cases p3:0 ≤ c <;> simp [p1,p2,p3] at hq
   all_goals
    refine W119_S (by simp) ?_
    intro vs
    simp [hc,p1,p2,p3,encR,retW_eq]
theorem sp_ev2f (v:List Int) (hv:∀ n ∈ v,isI64 n = true) (hvl:v.length ≤ 1000) (x:Ex) (hr:exRight v.length x = true) (hx:∀ y ∈ Ex.pre x,isI64 y.n = true) :
  Am.Spec Tryz.prog 89 [.agg (encE x),.sl (encI v)] (encR (evE v x)):=by
 rw [exRight_eq] at hr
 simp only [Bool.and_eq_true,exOk,decide_eq_true_eq] at hr
 obtain ⟨⟨h1,h2,h3,h4,h5⟩,h6⟩:=hr
 have h6:=List.all_eq_true.1 h6
 have ih:∀ y ∈ x.l,Am.Spec Tryz.prog 89 [.agg (encE y),.sl (encI v)] (encR (evE v y)):=fun y hy=>sp_ev2f v hv hvl y (h6 y hy) fun z hz=>hx z (Ex.pre_kid hy hz)
 have hle:∀ y ∈ x.l,isI64 (evE v y).1 = true:=fun y hy=>evE_le v hv y fun z hz=>hx z (Ex.pre_kid hy hz)
 by_cases k1:x.kind = 1
 ·rw [evE_num k1]
  refine W89_S (by simp) ?_
  intro vs
  simp [k1,encR,retW_eq]
 by_cases k2:x.kind = 2
 ·rw [if_neg k1,if_pos k2] at h5
  simp only [Bool.and_eq_true,decide_eq_true_eq] at h5
  obtain ⟨i,hi⟩:∃ i:Nat,x.n = i:=⟨x.n.toNat,by omega⟩
  have hil:i < v.length:=by omega
  have hx0:ixRows (encI v) (i:Int) 1 = some (.elt [.int .i64 v[i]] 0):=encI_at _ i hil _ rfl
  have e:v.getD x.n.toNat 0 = v[i]:=by rw [hi]; simp [List.getD_eq_getElem?_getD,hil]
  have hl:(i:Int) < v.length:=by omega
  have hl':¬ (v.length:Int) ≤ i:=by omega
  have hn:¬ (i:Int) < 0:=by omega
  rw [evE_var k2,e]
  refine W89_S (by simp) ?_
  intro vs
  simp [k2,hi,hn,hl,hl',hx0,encR,retW_eq]
 by_cases k3:x.kind = 3 ∨ x.kind = 4
 ·obtain ⟨y,hy⟩:∃ y,x.l = [y]:=by
   rcases hL:x.l with _ | ⟨y,_ | ⟨z,l⟩⟩
   ·rw [hL] at h4; rcases k3 with k | k <;> simp [kids,k] at h4
   ·exact ⟨y,rfl⟩
   ·rw [hL] at h4; rcases k3 with k | k <;> simp [kids,k] at h4 <;> omega
  have hey:=ih y (by simp [hy])
  have hly:=hle y (by simp [hy])
  rw [evE_one k1 k2 hy]
  generalize evE v y = c at *
  obtain ⟨a,e⟩:=c
  by_cases he:e = 0
  ·subst he
   have hA:evA x.kind (a,0) = if x.kind = 3 then (truthN (decide (a = 0)),0) else fit (-a):=by simp [evA]
   rw [hA]
   rcases k3 with k | k
   ·rw [if_pos k]
    refine W89_S (by simp) ?_
    intro vs
    simp [k,hy]
    refine scall_pure hey (by simp [encR]) (by simp [encR]) ?_
    simp [k,encR]
    refine scall_pure (sp_bit (decide (a = 0))) (by simp) (by simp) ?_
    simp [retW_eq,encR]
   ·rw [if_neg (by omega)]
    have hly':=(isI64_iff a).1 hly
    by_cases hm:a = -9223372036854775808
    ·subst hm
     rw [fit_out (by decide)]
     refine W89_S (by simp) ?_
     intro vs
     simp [k,hy]
     refine scall_pure hey (by simp [encR]) (by simp [encR]) ?_
     simp [k,encR,retW_eq]
    ·have w:IntKind.wrap .i64 (-a) = -a:=wrap64 (by omega) (by omega)
     rw [fit_in ((isI64_iff _).2 (by omega))]
     refine W89_S (by simp) ?_
     intro vs
     simp [k,hy]
     refine scall_pure hey (by simp [encR]) (by simp [encR]) ?_
     simp [k,hm,w,encR,retW_eq]
  ·have hA:evA x.kind (a,e) = (0,e):=by simp [evA,he]
   rw [hA]
   refine W89_S (by simp) ?_
   intro vs
   simp [k1,k2,hy]
   refine scall_pure hey (by simp [encR]) (by simp [encR]) ?_
   simp [he,retW_eq,encR]
 ·obtain ⟨y,z,hy⟩:∃ y z,x.l = [y,z]:=by
   have hk:kids x.kind = 2:=by unfold kids; rw [if_neg (by omega),if_neg k3]
   rw [hk] at h4
   rcases hL:x.l with _ | ⟨y,_ | ⟨z,_ | ⟨w,l⟩⟩⟩
   ·rw [hL] at h4; simp at h4
   ·rw [hL] at h4; simp at h4
   ·exact ⟨y,z,rfl⟩
   ·rw [hL] at h4; simp at h4; omega
  have hey:=ih y (by simp [hy])
  have hly:=hle y (by simp [hy])
  have hez:=ih z (by simp [hy])
  have hlz:=hle z (by simp [hy])
  rw [evE_two k1 k2 hy]
  generalize evE v y = c at *
  generalize evE v z = d at *
  obtain ⟨a,e⟩:=c
  obtain ⟨b,f⟩:=d
  have k3':¬ x.kind = 3:=by omega
  have k4':¬ x.kind = 4:=by omega
  by_cases he:e = 0
  ·subst he
   have hB:evB x.kind (a,0) (b,f) = if x.kind = 16 ∧ a = 0 then (0,0) else if x.kind = 17 ∧ a ≠ 0 then (1,0) else if f ≠ 0 then (0,f) else if x.kind = 16 ∨ x.kind = 17 then (truthN (decide (b ≠ 0)),0) else ev2 x.kind a b:=by simp [evB]
   rw [hB]
   by_cases k6:x.kind = 16 ∧ a = 0
   ·rw [if_pos k6]
    obtain ⟨k,rfl⟩:=k6
    refine W89_S (by simp) ?_
    intro vs
    simp [k,hy]
    refine scall_pure hey (by simp [encR]) (by simp [encR]) ?_
    simp [k,retW_eq,encR]
   by_cases k7:x.kind = 17 ∧ a ≠ 0
   ·rw [if_neg k6,if_pos k7]
    obtain ⟨k,ha⟩:=k7
    refine W89_S (by simp) ?_
    intro vs
    simp [k,hy]
    refine scall_pure hey (by simp [encR]) (by simp [encR]) ?_
    simp [k,ha,retW_eq,encR]
   rw [if_neg k6,if_neg k7]
   by_cases k:x.kind = 16
   ·have ha:¬ a = 0:=fun h=>k6 ⟨k,h⟩
    by_cases hf:f = 0
    ·subst hf
     rw [if_neg (by simp),if_pos (.inl k)]
     refine W89_S (by simp) ?_
     intro vs
     simp [k,hy]
     refine scall_pure hey (by simp [encR]) (by simp [encR]) ?_
     simp [k,ha,hy,encR]
     refine scall_pure hez (by simp [encR]) (by simp [encR]) ?_
     simp [k,encR]
     refine scall_pure (sp_bit (decide (b ≠ 0))) (by simp) (by simp) ?_
     simp [retW_eq,encR]
    ·rw [if_pos hf]
     refine W89_S (by simp) ?_
     intro vs
     simp [k,hy]
     refine scall_pure hey (by simp [encR]) (by simp [encR]) ?_
     simp [k,ha,hy,encR]
     refine scall_pure hez (by simp [encR]) (by simp [encR]) ?_
     simp [hf,retW_eq,encR]
   by_cases k':x.kind = 17
   ·have ha:a = 0:=by
     by_cases h:a = 0
     ·exact h
     ·exact absurd ⟨k',h⟩ k7
    by_cases hf:f = 0
    ·subst hf
     rw [if_neg (by simp),if_pos (.inr k')]
     refine W89_S (by simp) ?_
     intro vs
     simp [k',hy]
     refine scall_pure hey (by simp [encR]) (by simp [encR]) ?_
     simp [k',ha,hy,encR]
     refine scall_pure hez (by simp [encR]) (by simp [encR]) ?_
     simp [k',encR]
     refine scall_pure (sp_bit (decide (b ≠ 0))) (by simp) (by simp) ?_
     simp [retW_eq,encR]
    ·rw [if_pos hf]
     refine W89_S (by simp) ?_
     intro vs
     simp [k',hy]
     refine scall_pure hey (by simp [encR]) (by simp [encR]) ?_
     simp [k',ha,hy,encR]
     refine scall_pure hez (by simp [encR]) (by simp [encR]) ?_
     simp [hf,retW_eq,encR]
   ·by_cases hf:f = 0
    ·subst hf
     rw [if_neg (by simp),if_neg (by simp [k,k'])]
     by_cases h10:10 ≤ x.kind
     ·have h2:=sp_cmp x.kind a b ⟨by omega,by omega⟩
      generalize ev2 x.kind a b = c at *
      refine W89_S (by simp) ?_
      intro vs
      simp [k1,k2,hy]
      refine scall_pure hey (by simp [encR]) (by simp [encR]) ?_
      simp [k,k',k3',k4',hy,encR]
      refine scall_pure hez (by simp [encR]) (by simp [encR]) ?_
      simp [k,k',h10,encR]
      refine scall_pure h2 (by simp [encR]) (by simp [encR]) ?_
      simp [retW_eq,encR]
     ·have h2:=sp_rck x.kind a b ⟨by omega,by omega⟩ hly hlz
      generalize ev2 x.kind a b = c at *
      refine W89_S (by simp) ?_
      intro vs
      simp [k1,k2,hy]
      refine scall_pure hey (by simp [encR]) (by simp [encR]) ?_
      simp [k,k',k3',k4',hy,encR]
      refine scall_pure hez (by simp [encR]) (by simp [encR]) ?_
      simp [k,k',h10,encR]
      refine scall_pure h2 (by simp [encR]) (by simp [encR]) ?_
      simp [retW_eq,encR]
    ·rw [if_pos hf]
     refine W89_S (by simp) ?_
     intro vs
     simp [k1,k2,hy]
     refine scall_pure hey (by simp [encR]) (by simp [encR]) ?_
     simp [k,k',k3',k4',hy,encR]
     refine scall_pure hez (by simp [encR]) (by simp [encR]) ?_
     simp [hf,retW_eq,encR]
  ·have hA:evB x.kind (a,e) (b,f) = (0,e):=by simp [evB,he]
   rw [hA]
   refine W89_S (by simp) ?_
   intro vs
   simp [k1,k2,hy]
   refine scall_pure hey (by simp [encR]) (by simp [encR]) ?_
   simp [he,retW_eq,encR]
termination_by SizeOf.sizeOf x
decreasing_by exact Ex.lt_of_mem hy
end Go.Proofs.YtnngddgaobhkiaaGreat
