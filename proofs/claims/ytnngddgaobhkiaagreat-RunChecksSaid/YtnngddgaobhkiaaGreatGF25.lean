import Derived.Test.YtnngddgaobhkiaaGreatGF13
import Derived.Test.YtnngddgaobhkiaaGreatGE15
set_option linter.unusedVariables false
set_option linter.unusedSimpArgs false
namespace Go.Proofs.YtnngddgaobhkiaaGreat
open Go Go.Am Go.RowKit
attribute [local simp] W91 W91_rs W91_b1 W91_b2 W91_b3 W91_b4 W91_b5 W91_b6 W91_b7 W91_b8 W91_b9 W91_b10 W91_b11 W91_b13 W91_b14 W91_b15 W91_b16 W91_b17 W91_b18 W91_b20 W91_b21 W91_b22 W91_b23 W91_b24 W91_k12 W91_k19 W92 W92_rs W92_b2 W92_b4 W92_b6 W92_b12 W92_b14 W92_b19 W92_b20 W92_b21 W92_b22 W92_b23 W92_b25 W92_b26 W92_b27 W92_b28 W92_k24 W60 W60_rs W60_b1 W60_b3 W60_b4 W60_b6 W60_b8 W60_k2 W60_l7 W59 W59_rs W59_b1 W59_b2 W59_b3 W59_b11 W59_b12 W59_b14 W59_b16 W59_b32 W59_b58 W59_k10 W59_l15
def fA (k:Int):Bool:=decide (k = 1 ∨ k = 2 ∨ k = 3 ∨ k = 4 ∨ k = 5 ∨ k = 6 ∨ k = 13 ∨ k = 14)
def fB (k:Int):Bool:=decide (k = 6 ∨ k = 14)
theorem sp_fof (k:Int):Am.Spec Tryz.prog 91 [.int .i64 k] (.agg [.bool (fA k),.bool (fB k),.bool (kN k),.bool (kE k),.int .i64 (kL k)]):=by
 by_cases h:k = 1 ∨ k = 2 ∨ k = 3 ∨ k = 4 ∨ k = 5 ∨ k = 6 ∨ k = 7 ∨ k = 9 ∨ k = 10 ∨ k = 11 ∨ k = 12 ∨ k = 13 ∨ k = 14
 ·rcases h with rfl | rfl | rfl | rfl | rfl | rfl | rfl | rfl | rfl | rfl | rfl | rfl | rfl
  all_goals
   refine W91_S (by simp) ?_
   intro vs
   simp [retW_eq,fA,fB,kN,kE,kL]
 ·obtain ⟨n1,n2,n3,n4,n5,n6,n7,n9,n10,n11,n12,n13,n14⟩:k ≠ 1 ∧ k ≠ 2 ∧ k ≠ 3 ∧ k ≠ 4 ∧ k ≠ 5 ∧ k ≠ 6 ∧ k ≠ 7 ∧ k ≠ 9 ∧ k ≠ 10 ∧ k ≠ 11 ∧ k ≠ 12 ∧ k ≠ 13 ∧ k ≠ 14:=by omega
  refine W91_S (by simp) ?_
  intro vs
  simp [retW_eq,fA,fB,kN,kE,kL,n1,n2,n3,n4,n5,n6,n7,n9,n10,n11,n12,n13,n14]
def rnum (v s p:Int) (t:Tm):Bool:=
 if t.kind = 1 then decide (-1 ≤ t.a) && decide (t.a < v) else if t.kind = 2 then decide (0 ≤ t.a) && decide (t.a < v)
 else if t.kind = 3 ∨ t.kind = 4 ∨ t.kind = 5 then decide (0 ≤ t.a) && decide (t.a < s)
 else if t.kind = 6 then (decide (0 ≤ t.a) && decide (t.a < s)) && (decide (0 ≤ t.b) && decide (t.b < s))
 else if t.kind = 13 then decide (0 ≤ t.a) && decide (t.a < p) else if t.kind = 14 then decide (0 ≤ t.a) && (decide (-1 ≤ t.b) && decide (t.b < v)) else true
theorem sp_numbs (v s p:Int) (t:Tm):Am.Spec Tryz.prog 92 [.agg (encT t),.int .i64 v,.int .i64 s,.int .i64 p] (.bool (rnum v s p t)):=by
 by_cases k1:t.kind = 1
 ·have h:=sp_inr t.a (-1) v
  rw [show rnum v s p t = (decide (-1 ≤ t.a) && decide (t.a < v)) by simp [rnum,k1]]
  refine W92_S (by simp) ?_
  intro vs
  simp [k1]
  refine scall_pure h (by simp) (by simp) ?_
  simp [retW_eq]
 by_cases k2:t.kind = 2
 ·have h:=sp_inr t.a 0 v
  rw [show rnum v s p t = (decide (0 ≤ t.a) && decide (t.a < v)) by simp [rnum,k2]]
  refine W92_S (by simp) ?_
  intro vs
  simp [k2]
  refine scall_pure h (by simp) (by simp) ?_
  simp [retW_eq]
 by_cases k3:t.kind = 3 ∨ t.kind = 4 ∨ t.kind = 5
 ·have h:=sp_inr t.a 0 s
  rw [show rnum v s p t = (decide (0 ≤ t.a) && decide (t.a < s)) by simp [rnum,k1,k2,k3]]
  rcases k3 with k3 | k3 | k3
  all_goals
   refine W92_S (by simp) ?_
   intro vs
   simp [k3]
   refine scall_pure h (by simp) (by simp) ?_
   simp [retW_eq]
 by_cases k6:t.kind = 6
 ·have h:=sp_inr t.a 0 s
  have h2:=sp_inr t.b 0 s
  rw [show rnum v s p t = ((decide (0 ≤ t.a) && decide (t.a < s)) && (decide (0 ≤ t.b) && decide (t.b < s))) by simp [rnum,k6]]
  generalize (decide (0 ≤ t.a) && decide (t.a < s)) = x at *
  generalize (decide (0 ≤ t.b) && decide (t.b < s)) = y at *
  cases x
  ·refine W92_S (by simp) ?_
   intro vs
   simp [k6]
   refine scall_pure h (by simp) (by simp) ?_
   simp [retW_eq]
  ·refine W92_S (by simp) ?_
   intro vs
   simp [k6]
   refine scall_pure h (by simp) (by simp) ?_
   simp
   refine scall_pure h2 (by simp) (by simp) ?_
   simp [retW_eq]
 by_cases k13:t.kind = 13
 ·have h:=sp_inr t.a 0 p
  rw [show rnum v s p t = (decide (0 ≤ t.a) && decide (t.a < p)) by simp [rnum,k13]]
  refine W92_S (by simp) ?_
  intro vs
  simp [k13]
  refine scall_pure h (by simp) (by simp) ?_
  simp [retW_eq]
 by_cases k14:t.kind = 14
 ·have h:=sp_inr t.b (-1) v
  rw [show rnum v s p t = (decide (0 ≤ t.a) && (decide (-1 ≤ t.b) && decide (t.b < v))) by simp [rnum,k14]]
  by_cases a0:0 ≤ t.a
  ·rw [decide_eq_true a0,Bool.true_and]
   refine W92_S (by simp) ?_
   intro vs
   simp [k14,a0]
   refine scall_pure h (by simp) (by simp) ?_
   simp [retW_eq]
  ·refine W92_S (by simp) ?_
   intro vs
   simp [k14,a0,retW_eq]
 obtain ⟨k3a,k3b,k3c⟩:t.kind ≠ 3 ∧ t.kind ≠ 4 ∧ t.kind ≠ 5:=by omega
 rw [show rnum v s p t = true by simp [rnum,k1,k2,k3,k6,k13,k14]]
 refine W92_S (by simp) ?_
 intro vs
 simp [k1,k2,k3a,k3b,k3c,k6,k13,k14,retW_eq]
theorem any_drop {α:Type} (f:α → Bool) (l:List α) (i:Nat) (h:i < l.length):(l.drop i).any f = (f l[i] || (l.drop (i + 1)).any f):=by
 rw [List.drop_eq_getElem_cons h,List.any_cons]
theorem sp_any (t:Tm) (hw:t.lok):Am.Spec Tryz.prog 60 [.agg (encT t)] (.bool (tmAny t)):=by
 have hlen:=Tm.lok_len hw
 have ih:∀ z ∈ t.l,Am.Spec Tryz.prog 60 [.agg (encT z)] (.bool (tmAny z)):=fun z hz=>sp_any z (Tm.lok_mem hw hz)
 rw [tmAny_eq]
 by_cases k:t.kind = 14
 ·rw [decide_eq_true k]
  refine W60_S (by simp) ?_
  intro vs
  simp [k,retW_eq]
 ·rw [decide_eq_false k]
  simp only [Bool.false_or]
  generalize hR:t.l.any tmAny = R
  refine W60_S (by simp) ?_
  intro vs
  simp [-W60_l7,k]
  refine sLoop_intro (fun i=>i ≤ t.l.length ∧ R = (t.l.drop i).any tmAny) (fun i=>t.l.length - i) (fun i=>[(1,.ref 1 (vs 1 + 1) (.p 0)),(3,.int .i64 (i:Nat))]) (fun _=>[(1,.box (vs 1 + 1) 35 (encT t))]) 0 (by simp [hR]) (by simp) (by simp) ?_
  rintro L i vt ⟨hi,hj⟩ hL
  by_cases h:i < t.l.length
  ·have h':(i:Int) < t.l.length:=by omega
   have hx:=ih _ (List.getElem_mem h)
   rw [any_drop _ _ _ h] at hj
   rw [hj]
   generalize tmAny t.l[i] = b at *
   cases b
   ·simp [h,h']
    refine scall_pure hx (by simp) (by simp) ?_
    simp
    rw [wrap64 (by omega) (by omega)]
    exact hL _ _ _ (i + 1) ⟨h,by rw [hj]; simp⟩ (by omega) (by simp) (by simp)
   ·simp [h,h']
    refine scall_pure hx (by simp) (by simp) ?_
    simp [retW_eq]
  ·have h':¬ (i:Int) < t.l.length:=by omega
   have e:R = false:=by rw [hj,List.drop_of_length_le (by omega)]; rfl
   rw [e]
   simp [h,h',retW_eq]
termination_by SizeOf.sizeOf t
decreasing_by exact Tm.lt_of_mem hz
theorem rr_loop (v s p:Int) (t:Tm) (hlen:t.l.length ≤ 137438953472) (ih:∀ z ∈ t.l,Am.Spec Tryz.prog 59 [.agg (encT z),.int .i64 v,.int .i64 s,.int .i64 p] (.bool (tmRight v s p z false))) (R E:Bool) (hR:R = t.l.all fun x=>tmRight v s p x false)
  (hE:(¬ t.kind = 3 ∧ E = true) ∨ (t.kind = 3 ∧ ∃ y,t.l = [y] ∧ E = !tmAny y ∧ y.lok)) (v4:Nat) (T:List (Nat × AV)) (H:List (Nat × Blk)) (vs:Nat → Nat)
  (hT:Am.subT T [(1,.int .i64 v),(2,.int .i64 s),(3,.int .i64 p),(4,.ref 4 v4 (.p 0)),(10,.int .i64 0)]) (hH:subA H [(4,.box v4 35 (encT t))]) :
  @sLoop ⟨Am.look T,hls H vs,noG⟩ ⟨fun L0 s=>W59_l15 (retK Tryz.prog [.tmp 8] (.bool (R && E))) L0 s⟩:=by
 refine sLoop_intro (fun i=>i ≤ t.l.length ∧ R = (t.l.drop i).all fun x=>tmRight v s p x false) (fun i=>t.l.length - i)
  (fun i=>[(1,.int .i64 v),(2,.int .i64 s),(3,.int .i64 p),(4,.ref 4 v4 (.p 0)),(10,.int .i64 (i:Nat))]) (fun _=>[(4,.box v4 35 (encT t))]) 0 (by simp [hR]) (by simpa using hT) (by simpa using hH) ?_
 rintro L i vt ⟨hi,hj⟩ hL
 by_cases h:i < t.l.length
 ·have h':(i:Int) < t.l.length:=by omega
  have hx:=ih _ (List.getElem_mem h)
  rw [all_drop _ _ _ h] at hj
  generalize hb:tmRight v s p t.l[i] false = b at *
  cases b
  ·rw [hj]
   simp [h,h']
   refine scall_pure hx (by simp) (by simp) ?_
   simp [retW_eq]
  ·simp [-W59_k10,h,h']
   refine scall_pure hx (by simp) (by simp) ?_
   simp [-W59_k10]
   rw [wrap64 (by omega) (by omega)]
   exact hL _ _ _ (i + 1) ⟨h,by rw [hj]; simp⟩ (by omega) (by simp) (by simp)
 ·have h':¬ (i:Int) < t.l.length:=by omega
  have e:R = true:=by rw [hj,all_end _ _ _ (by omega)]
  rw [e]
  rcases hE with ⟨k3,rfl⟩ | ⟨k3,y,hy,rfl,hyl⟩
  ·simp [h,h',k3,retW_eq]
  ·have ha:=sp_any y hyl
   generalize tmAny y = b at *
   have hl1:t.l.length = 1:=by rw [hy]; rfl
   have h'':¬ (i:Int) < 1:=by omega
   simp [h'',k3,hy]
   refine scall_pure ha (by simp) (by simp) ?_
   simp [retW_eq]
set_option maxHeartbeats 1000000 in
theorem rr_0000 (v s p:Int) (t:Tm) (B R E bn b4 b5 b6:Bool) (kl:Int) (c0:¬ t.kind < 0) (c1:¬ 14 < t.kind) (hof:Am.Spec Tryz.prog 91 [.int .i64 t.kind] (.agg [.bool false,.bool false,.bool false,.bool false,.int .i64 kl]))
  (hnum:Am.Spec Tryz.prog 92 [.agg (encT t),.int .i64 v,.int .i64 s,.int .i64 p] (.bool bn)) (h4:Am.Spec Tryz.prog 93 [.str t.name] (.bool b4)) (hz:t.name = ⟨#[]⟩ → b4 = false) (h5:Am.Spec Tryz.prog 94 [.agg (encE t.e),.int .i64 v] (.bool b5))
  (h6:Am.Spec Tryz.prog 79 [.agg (encE t.e),.agg [.int .i64 0,.int .i64 0,.str ⟨#[]⟩,.sl []]] (.bool b6))
  (hloop:(t.l.length:Int) = kl → ∀ (v4:Nat) (T:List (Nat × AV)) (H:List (Nat × Blk)) (vs:Nat → Nat),Am.subT T [(1,.int .i64 v),(2,.int .i64 s),(3,.int .i64 p),(4,.ref 4 v4 (.p 0)),(10,.int .i64 0)] → subA H [(4,.box v4 35 (encT t))] →
   @sLoop ⟨Am.look T,hls H vs,noG⟩ ⟨fun L0 s=>W59_l15 (retK Tryz.prog [.tmp 8] (.bool (R && E))) L0 s⟩)
  (hB:B = (decide ((t.l.length:Int) = kl) && (bn && (decide (t.a = 0) && (decide (t.b = 0) && (decide (t.name = ⟨#[]⟩) && (b6 && (R && E)))))))):Am.Spec Tryz.prog 59 [.agg (encT t),.int .i64 v,.int .i64 s,.int .i64 p] (.bool B):=by
 by_cases d1:(t.l.length:Int) = kl
 rotate_left
 ·rw [decide_eq_false d1] at hB
  simp only [Bool.false_and,Bool.and_false] at hB
  subst hB
  refine W59_S (by simp) ?_
  intro vs
  simp [c0,c1,d1]
  refine scall_pure hof (by simp) (by simp) ?_
  simp [c0,c1,d1,retW_eq]
 rw [decide_eq_true d1] at hB
 cases bn
 ·simp only [Bool.false_and,Bool.and_false] at hB
  subst hB
  refine W59_S (by simp) ?_
  intro vs
  simp [c0,c1,d1]
  refine scall_pure hof (by simp) (by simp) ?_
  simp [c0,c1,d1]
  refine scall_pure hnum (by simp) (by simp) ?_
  simp [c0,c1,d1,retW_eq]
 by_cases d2:t.a = 0
 rotate_left
 ·rw [decide_eq_false d2] at hB
  simp only [Bool.false_and,Bool.and_false] at hB
  subst hB
  refine W59_S (by simp) ?_
  intro vs
  simp [c0,c1,d1,d2]
  refine scall_pure hof (by simp) (by simp) ?_
  simp [c0,c1,d1,d2]
  refine scall_pure hnum (by simp) (by simp) ?_
  simp [c0,c1,d1,d2,retW_eq]
 rw [decide_eq_true d2] at hB
 by_cases d3:t.b = 0
 rotate_left
 ·rw [decide_eq_false d3] at hB
  simp only [Bool.false_and,Bool.and_false] at hB
  subst hB
  refine W59_S (by simp) ?_
  intro vs
  simp [c0,c1,d1,d2,d3]
  refine scall_pure hof (by simp) (by simp) ?_
  simp [c0,c1,d1,d2,d3]
  refine scall_pure hnum (by simp) (by simp) ?_
  simp [c0,c1,d1,d2,d3,retW_eq]
 rw [decide_eq_true d3] at hB
 by_cases d4:t.name = ⟨#[]⟩
 rotate_left
 ·rw [decide_eq_false d4] at hB
  simp only [Bool.false_and,Bool.and_false] at hB
  subst hB
  refine W59_S (by simp) ?_
  intro vs
  simp [c0,c1,d1,d2,d3,d4]
  refine scall_pure hof (by simp) (by simp) ?_
  simp [c0,c1,d1,d2,d3,d4]
  refine scall_pure hnum (by simp) (by simp) ?_
  simp [c0,c1,d1,d2,d3,d4,retW_eq]
 rw [decide_eq_true d4] at hB
 cases b6
 ·simp only [Bool.false_and,Bool.and_false] at hB
  subst hB
  refine W59_S (by simp) ?_
  intro vs
  simp [c0,c1,d1,d2,d3,d4]
  refine scall_pure hof (by simp) (by simp) ?_
  simp [c0,c1,d1,d2,d3,d4]
  refine scall_pure hnum (by simp) (by simp) ?_
  simp [c0,c1,d1,d2,d3,d4]
  refine scall_pure h6 (by simp) (by simp) ?_
  simp [c0,c1,d1,d2,d3,d4,retW_eq]
 simp only [Bool.true_and] at hB
 subst hB
 refine W59_S (by simp) ?_
 intro vs
 simp [-W59_l15,c0,c1,d1,d2,d3,d4]
 refine scall_pure hof (by simp) (by simp) ?_
 simp [-W59_l15,c0,c1,d1,d2,d3,d4]
 refine scall_pure hnum (by simp) (by simp) ?_
 simp [-W59_l15,c0,c1,d1,d2,d3,d4]
 refine scall_pure h6 (by simp) (by simp) ?_
 simp [-W59_l15,c0,c1,d1,d2,d3,d4]
 exact hloop d1 (vs 4 + 1) _ _ _ (by simp) (by simp)
set_option maxHeartbeats 1000000 in
theorem rr_1010 (v s p:Int) (t:Tm) (B R E bn b4 b5 b6:Bool) (kl:Int) (c0:¬ t.kind < 0) (c1:¬ 14 < t.kind) (hof:Am.Spec Tryz.prog 91 [.int .i64 t.kind] (.agg [.bool true,.bool false,.bool true,.bool false,.int .i64 kl]))
  (hnum:Am.Spec Tryz.prog 92 [.agg (encT t),.int .i64 v,.int .i64 s,.int .i64 p] (.bool bn)) (h4:Am.Spec Tryz.prog 93 [.str t.name] (.bool b4)) (hz:t.name = ⟨#[]⟩ → b4 = false) (h5:Am.Spec Tryz.prog 94 [.agg (encE t.e),.int .i64 v] (.bool b5))
  (h6:Am.Spec Tryz.prog 79 [.agg (encE t.e),.agg [.int .i64 0,.int .i64 0,.str ⟨#[]⟩,.sl []]] (.bool b6))
  (hloop:(t.l.length:Int) = kl → ∀ (v4:Nat) (T:List (Nat × AV)) (H:List (Nat × Blk)) (vs:Nat → Nat),Am.subT T [(1,.int .i64 v),(2,.int .i64 s),(3,.int .i64 p),(4,.ref 4 v4 (.p 0)),(10,.int .i64 0)] → subA H [(4,.box v4 35 (encT t))] →
   @sLoop ⟨Am.look T,hls H vs,noG⟩ ⟨fun L0 s=>W59_l15 (retK Tryz.prog [.tmp 8] (.bool (R && E))) L0 s⟩)
  (hB:B = (decide ((t.l.length:Int) = kl) && (bn && (decide (t.b = 0) && (b4 && (b6 && (R && E))))))):Am.Spec Tryz.prog 59 [.agg (encT t),.int .i64 v,.int .i64 s,.int .i64 p] (.bool B):=by
 by_cases d1:(t.l.length:Int) = kl
 rotate_left
 ·rw [decide_eq_false d1] at hB
  simp only [Bool.false_and,Bool.and_false] at hB
  subst hB
  refine W59_S (by simp) ?_
  intro vs
  simp [c0,c1,d1]
  refine scall_pure hof (by simp) (by simp) ?_
  simp [c0,c1,d1,retW_eq]
 rw [decide_eq_true d1] at hB
 cases bn
 ·simp only [Bool.false_and,Bool.and_false] at hB
  subst hB
  refine W59_S (by simp) ?_
  intro vs
  simp [c0,c1,d1]
  refine scall_pure hof (by simp) (by simp) ?_
  simp [c0,c1,d1]
  refine scall_pure hnum (by simp) (by simp) ?_
  simp [c0,c1,d1,retW_eq]
 by_cases d3:t.b = 0
 rotate_left
 ·rw [decide_eq_false d3] at hB
  simp only [Bool.false_and,Bool.and_false] at hB
  subst hB
  refine W59_S (by simp) ?_
  intro vs
  simp [c0,c1,d1,d3]
  refine scall_pure hof (by simp) (by simp) ?_
  simp [c0,c1,d1,d3]
  refine scall_pure hnum (by simp) (by simp) ?_
  simp [c0,c1,d1,d3,retW_eq]
 rw [decide_eq_true d3] at hB
 by_cases d4:t.name = ⟨#[]⟩
 ·rw [hz d4] at hB
  simp only [Bool.false_and,Bool.and_false] at hB
  subst hB
  refine W59_S (by simp) ?_
  intro vs
  simp [c0,c1,d1,d3,d4]
  refine scall_pure hof (by simp) (by simp) ?_
  simp [c0,c1,d1,d3,d4]
  refine scall_pure hnum (by simp) (by simp) ?_
  simp [c0,c1,d1,d3,d4,retW_eq]
 cases b4
 ·simp only [Bool.false_and,Bool.and_false] at hB
  subst hB
  refine W59_S (by simp) ?_
  intro vs
  simp [c0,c1,d1,d3,d4]
  refine scall_pure hof (by simp) (by simp) ?_
  simp [c0,c1,d1,d3,d4]
  refine scall_pure hnum (by simp) (by simp) ?_
  simp [c0,c1,d1,d3,d4]
  refine scall_pure h4 (by simp) (by simp) ?_
  simp [c0,c1,d1,d3,d4,retW_eq]
 cases b6
 ·simp only [Bool.false_and,Bool.and_false] at hB
  subst hB
  refine W59_S (by simp) ?_
  intro vs
  simp [c0,c1,d1,d3,d4]
  refine scall_pure hof (by simp) (by simp) ?_
  simp [c0,c1,d1,d3,d4]
  refine scall_pure hnum (by simp) (by simp) ?_
  simp [c0,c1,d1,d3,d4]
  refine scall_pure h4 (by simp) (by simp) ?_
  simp [c0,c1,d1,d3,d4]
  refine scall_pure h6 (by simp) (by simp) ?_
  simp [c0,c1,d1,d3,d4,retW_eq]
 simp only [Bool.true_and] at hB
 subst hB
 refine W59_S (by simp) ?_
 intro vs
 simp [-W59_l15,c0,c1,d1,d3,d4]
 refine scall_pure hof (by simp) (by simp) ?_
 simp [-W59_l15,c0,c1,d1,d3,d4]
 refine scall_pure hnum (by simp) (by simp) ?_
 simp [-W59_l15,c0,c1,d1,d3,d4]
 refine scall_pure h4 (by simp) (by simp) ?_
 simp [-W59_l15,c0,c1,d1,d3,d4]
 refine scall_pure h6 (by simp) (by simp) ?_
 simp [-W59_l15,c0,c1,d1,d3,d4]
 exact hloop d1 (vs 4 + 1) _ _ _ (by simp) (by simp)
set_option maxHeartbeats 1000000 in
theorem rr_1001 (v s p:Int) (t:Tm) (B R E bn b4 b5 b6:Bool) (kl:Int) (c0:¬ t.kind < 0) (c1:¬ 14 < t.kind) (hof:Am.Spec Tryz.prog 91 [.int .i64 t.kind] (.agg [.bool true,.bool false,.bool false,.bool true,.int .i64 kl]))
  (hnum:Am.Spec Tryz.prog 92 [.agg (encT t),.int .i64 v,.int .i64 s,.int .i64 p] (.bool bn)) (h4:Am.Spec Tryz.prog 93 [.str t.name] (.bool b4)) (hz:t.name = ⟨#[]⟩ → b4 = false) (h5:Am.Spec Tryz.prog 94 [.agg (encE t.e),.int .i64 v] (.bool b5))
  (h6:Am.Spec Tryz.prog 79 [.agg (encE t.e),.agg [.int .i64 0,.int .i64 0,.str ⟨#[]⟩,.sl []]] (.bool b6))
  (hloop:(t.l.length:Int) = kl → ∀ (v4:Nat) (T:List (Nat × AV)) (H:List (Nat × Blk)) (vs:Nat → Nat),Am.subT T [(1,.int .i64 v),(2,.int .i64 s),(3,.int .i64 p),(4,.ref 4 v4 (.p 0)),(10,.int .i64 0)] → subA H [(4,.box v4 35 (encT t))] →
   @sLoop ⟨Am.look T,hls H vs,noG⟩ ⟨fun L0 s=>W59_l15 (retK Tryz.prog [.tmp 8] (.bool (R && E))) L0 s⟩)
  (hB:B = (decide ((t.l.length:Int) = kl) && (bn && (decide (t.b = 0) && (decide (t.name = ⟨#[]⟩) && (b5 && (R && E))))))):Am.Spec Tryz.prog 59 [.agg (encT t),.int .i64 v,.int .i64 s,.int .i64 p] (.bool B):=by
 by_cases d1:(t.l.length:Int) = kl
 rotate_left
 ·rw [decide_eq_false d1] at hB
  simp only [Bool.false_and,Bool.and_false] at hB
  subst hB
  refine W59_S (by simp) ?_
  intro vs
  simp [c0,c1,d1]
  refine scall_pure hof (by simp) (by simp) ?_
  simp [c0,c1,d1,retW_eq]
 rw [decide_eq_true d1] at hB
 cases bn
 ·simp only [Bool.false_and,Bool.and_false] at hB
  subst hB
  refine W59_S (by simp) ?_
  intro vs
  simp [c0,c1,d1]
  refine scall_pure hof (by simp) (by simp) ?_
  simp [c0,c1,d1]
  refine scall_pure hnum (by simp) (by simp) ?_
  simp [c0,c1,d1,retW_eq]
 by_cases d3:t.b = 0
 rotate_left
 ·rw [decide_eq_false d3] at hB
  simp only [Bool.false_and,Bool.and_false] at hB
  subst hB
  refine W59_S (by simp) ?_
  intro vs
  simp [c0,c1,d1,d3]
  refine scall_pure hof (by simp) (by simp) ?_
  simp [c0,c1,d1,d3]
  refine scall_pure hnum (by simp) (by simp) ?_
  simp [c0,c1,d1,d3,retW_eq]
 rw [decide_eq_true d3] at hB
 by_cases d4:t.name = ⟨#[]⟩
 rotate_left
 ·rw [decide_eq_false d4] at hB
  simp only [Bool.false_and,Bool.and_false] at hB
  subst hB
  refine W59_S (by simp) ?_
  intro vs
  simp [c0,c1,d1,d3,d4]
  refine scall_pure hof (by simp) (by simp) ?_
  simp [c0,c1,d1,d3,d4]
  refine scall_pure hnum (by simp) (by simp) ?_
  simp [c0,c1,d1,d3,d4,retW_eq]
 rw [decide_eq_true d4] at hB
 cases b5
 ·simp only [Bool.false_and,Bool.and_false] at hB
  subst hB
  refine W59_S (by simp) ?_
  intro vs
  simp [c0,c1,d1,d3,d4]
  refine scall_pure hof (by simp) (by simp) ?_
  simp [c0,c1,d1,d3,d4]
  refine scall_pure hnum (by simp) (by simp) ?_
  simp [c0,c1,d1,d3,d4]
  refine scall_pure h5 (by simp) (by simp) ?_
  simp [c0,c1,d1,d3,d4,retW_eq]
 simp only [Bool.true_and] at hB
 subst hB
 refine W59_S (by simp) ?_
 intro vs
 simp [-W59_l15,c0,c1,d1,d3,d4]
 refine scall_pure hof (by simp) (by simp) ?_
 simp [-W59_l15,c0,c1,d1,d3,d4]
 refine scall_pure hnum (by simp) (by simp) ?_
 simp [-W59_l15,c0,c1,d1,d3,d4]
 refine scall_pure h5 (by simp) (by simp) ?_
 simp [-W59_l15,c0,c1,d1,d3,d4]
 exact hloop d1 (vs 4 + 1) _ _ _ (by simp) (by simp)
set_option maxHeartbeats 1000000 in
theorem rr_1000 (v s p:Int) (t:Tm) (B R E bn b4 b5 b6:Bool) (kl:Int) (c0:¬ t.kind < 0) (c1:¬ 14 < t.kind) (hof:Am.Spec Tryz.prog 91 [.int .i64 t.kind] (.agg [.bool true,.bool false,.bool false,.bool false,.int .i64 kl]))
  (hnum:Am.Spec Tryz.prog 92 [.agg (encT t),.int .i64 v,.int .i64 s,.int .i64 p] (.bool bn)) (h4:Am.Spec Tryz.prog 93 [.str t.name] (.bool b4)) (hz:t.name = ⟨#[]⟩ → b4 = false) (h5:Am.Spec Tryz.prog 94 [.agg (encE t.e),.int .i64 v] (.bool b5))
  (h6:Am.Spec Tryz.prog 79 [.agg (encE t.e),.agg [.int .i64 0,.int .i64 0,.str ⟨#[]⟩,.sl []]] (.bool b6))
  (hloop:(t.l.length:Int) = kl → ∀ (v4:Nat) (T:List (Nat × AV)) (H:List (Nat × Blk)) (vs:Nat → Nat),Am.subT T [(1,.int .i64 v),(2,.int .i64 s),(3,.int .i64 p),(4,.ref 4 v4 (.p 0)),(10,.int .i64 0)] → subA H [(4,.box v4 35 (encT t))] →
   @sLoop ⟨Am.look T,hls H vs,noG⟩ ⟨fun L0 s=>W59_l15 (retK Tryz.prog [.tmp 8] (.bool (R && E))) L0 s⟩)
  (hB:B = (decide ((t.l.length:Int) = kl) && (bn && (decide (t.b = 0) && (decide (t.name = ⟨#[]⟩) && (b6 && (R && E))))))):Am.Spec Tryz.prog 59 [.agg (encT t),.int .i64 v,.int .i64 s,.int .i64 p] (.bool B):=by
 by_cases d1:(t.l.length:Int) = kl
 rotate_left
 ·rw [decide_eq_false d1] at hB
  simp only [Bool.false_and,Bool.and_false] at hB
  subst hB
  refine W59_S (by simp) ?_
  intro vs
  simp [c0,c1,d1]
  refine scall_pure hof (by simp) (by simp) ?_
  simp [c0,c1,d1,retW_eq]
 rw [decide_eq_true d1] at hB
 cases bn
 ·simp only [Bool.false_and,Bool.and_false] at hB
  subst hB
  refine W59_S (by simp) ?_
  intro vs
  simp [c0,c1,d1]
  refine scall_pure hof (by simp) (by simp) ?_
  simp [c0,c1,d1]
  refine scall_pure hnum (by simp) (by simp) ?_
  simp [c0,c1,d1,retW_eq]
 by_cases d3:t.b = 0
 rotate_left
 ·rw [decide_eq_false d3] at hB
  simp only [Bool.false_and,Bool.and_false] at hB
  subst hB
  refine W59_S (by simp) ?_
  intro vs
  simp [c0,c1,d1,d3]
  refine scall_pure hof (by simp) (by simp) ?_
  simp [c0,c1,d1,d3]
  refine scall_pure hnum (by simp) (by simp) ?_
  simp [c0,c1,d1,d3,retW_eq]
 rw [decide_eq_true d3] at hB
 by_cases d4:t.name = ⟨#[]⟩
 rotate_left
 ·rw [decide_eq_false d4] at hB
  simp only [Bool.false_and,Bool.and_false] at hB
  subst hB
  refine W59_S (by simp) ?_
  intro vs
  simp [c0,c1,d1,d3,d4]
  refine scall_pure hof (by simp) (by simp) ?_
  simp [c0,c1,d1,d3,d4]
  refine scall_pure hnum (by simp) (by simp) ?_
  simp [c0,c1,d1,d3,d4,retW_eq]
 rw [decide_eq_true d4] at hB
 cases b6
 ·simp only [Bool.false_and,Bool.and_false] at hB
  subst hB
  refine W59_S (by simp) ?_
  intro vs
  simp [c0,c1,d1,d3,d4]
  refine scall_pure hof (by simp) (by simp) ?_
  simp [c0,c1,d1,d3,d4]
  refine scall_pure hnum (by simp) (by simp) ?_
  simp [c0,c1,d1,d3,d4]
  refine scall_pure h6 (by simp) (by simp) ?_
  simp [c0,c1,d1,d3,d4,retW_eq]
 simp only [Bool.true_and] at hB
 subst hB
 refine W59_S (by simp) ?_
 intro vs
 simp [-W59_l15,c0,c1,d1,d3,d4]
 refine scall_pure hof (by simp) (by simp) ?_
 simp [-W59_l15,c0,c1,d1,d3,d4]
 refine scall_pure hnum (by simp) (by simp) ?_
 simp [-W59_l15,c0,c1,d1,d3,d4]
 refine scall_pure h6 (by simp) (by simp) ?_
 simp [-W59_l15,c0,c1,d1,d3,d4]
 exact hloop d1 (vs 4 + 1) _ _ _ (by simp) (by simp)
set_option maxHeartbeats 1000000 in
theorem rr_1100 (v s p:Int) (t:Tm) (B R E bn b4 b5 b6:Bool) (kl:Int) (c0:¬ t.kind < 0) (c1:¬ 14 < t.kind) (hof:Am.Spec Tryz.prog 91 [.int .i64 t.kind] (.agg [.bool true,.bool true,.bool false,.bool false,.int .i64 kl]))
  (hnum:Am.Spec Tryz.prog 92 [.agg (encT t),.int .i64 v,.int .i64 s,.int .i64 p] (.bool bn)) (h4:Am.Spec Tryz.prog 93 [.str t.name] (.bool b4)) (hz:t.name = ⟨#[]⟩ → b4 = false) (h5:Am.Spec Tryz.prog 94 [.agg (encE t.e),.int .i64 v] (.bool b5))
  (h6:Am.Spec Tryz.prog 79 [.agg (encE t.e),.agg [.int .i64 0,.int .i64 0,.str ⟨#[]⟩,.sl []]] (.bool b6))
  (hloop:(t.l.length:Int) = kl → ∀ (v4:Nat) (T:List (Nat × AV)) (H:List (Nat × Blk)) (vs:Nat → Nat),Am.subT T [(1,.int .i64 v),(2,.int .i64 s),(3,.int .i64 p),(4,.ref 4 v4 (.p 0)),(10,.int .i64 0)] → subA H [(4,.box v4 35 (encT t))] →
   @sLoop ⟨Am.look T,hls H vs,noG⟩ ⟨fun L0 s=>W59_l15 (retK Tryz.prog [.tmp 8] (.bool (R && E))) L0 s⟩)
  (hB:B = (decide ((t.l.length:Int) = kl) && (bn && (decide (t.name = ⟨#[]⟩) && (b6 && (R && E)))))):Am.Spec Tryz.prog 59 [.agg (encT t),.int .i64 v,.int .i64 s,.int .i64 p] (.bool B):=by
 by_cases d1:(t.l.length:Int) = kl
 rotate_left
 ·rw [decide_eq_false d1] at hB
  simp only [Bool.false_and,Bool.and_false] at hB
  subst hB
  refine W59_S (by simp) ?_
  intro vs
  simp [c0,c1,d1]
  refine scall_pure hof (by simp) (by simp) ?_
  simp [c0,c1,d1,retW_eq]
 rw [decide_eq_true d1] at hB
 cases bn
 ·simp only [Bool.false_and,Bool.and_false] at hB
  subst hB
  refine W59_S (by simp) ?_
  intro vs
  simp [c0,c1,d1]
  refine scall_pure hof (by simp) (by simp) ?_
  simp [c0,c1,d1]
  refine scall_pure hnum (by simp) (by simp) ?_
  simp [c0,c1,d1,retW_eq]
 by_cases d4:t.name = ⟨#[]⟩
 rotate_left
 ·rw [decide_eq_false d4] at hB
  simp only [Bool.false_and,Bool.and_false] at hB
  subst hB
  refine W59_S (by simp) ?_
  intro vs
  simp [c0,c1,d1,d4]
  refine scall_pure hof (by simp) (by simp) ?_
  simp [c0,c1,d1,d4]
  refine scall_pure hnum (by simp) (by simp) ?_
  simp [c0,c1,d1,d4,retW_eq]
 rw [decide_eq_true d4] at hB
 cases b6
 ·simp only [Bool.false_and,Bool.and_false] at hB
  subst hB
  refine W59_S (by simp) ?_
  intro vs
  simp [c0,c1,d1,d4]
  refine scall_pure hof (by simp) (by simp) ?_
  simp [c0,c1,d1,d4]
  refine scall_pure hnum (by simp) (by simp) ?_
  simp [c0,c1,d1,d4]
  refine scall_pure h6 (by simp) (by simp) ?_
  simp [c0,c1,d1,d4,retW_eq]
 simp only [Bool.true_and] at hB
 subst hB
 refine W59_S (by simp) ?_
 intro vs
 simp [-W59_l15,c0,c1,d1,d4]
 refine scall_pure hof (by simp) (by simp) ?_
 simp [-W59_l15,c0,c1,d1,d4]
 refine scall_pure hnum (by simp) (by simp) ?_
 simp [-W59_l15,c0,c1,d1,d4]
 refine scall_pure h6 (by simp) (by simp) ?_
 simp [-W59_l15,c0,c1,d1,d4]
 exact hloop d1 (vs 4 + 1) _ _ _ (by simp) (by simp)
set_option maxHeartbeats 1000000 in
theorem rr_0001 (v s p:Int) (t:Tm) (B R E bn b4 b5 b6:Bool) (kl:Int) (c0:¬ t.kind < 0) (c1:¬ 14 < t.kind) (hof:Am.Spec Tryz.prog 91 [.int .i64 t.kind] (.agg [.bool false,.bool false,.bool false,.bool true,.int .i64 kl]))
  (hnum:Am.Spec Tryz.prog 92 [.agg (encT t),.int .i64 v,.int .i64 s,.int .i64 p] (.bool bn)) (h4:Am.Spec Tryz.prog 93 [.str t.name] (.bool b4)) (hz:t.name = ⟨#[]⟩ → b4 = false) (h5:Am.Spec Tryz.prog 94 [.agg (encE t.e),.int .i64 v] (.bool b5))
  (h6:Am.Spec Tryz.prog 79 [.agg (encE t.e),.agg [.int .i64 0,.int .i64 0,.str ⟨#[]⟩,.sl []]] (.bool b6))
  (hloop:(t.l.length:Int) = kl → ∀ (v4:Nat) (T:List (Nat × AV)) (H:List (Nat × Blk)) (vs:Nat → Nat),Am.subT T [(1,.int .i64 v),(2,.int .i64 s),(3,.int .i64 p),(4,.ref 4 v4 (.p 0)),(10,.int .i64 0)] → subA H [(4,.box v4 35 (encT t))] →
   @sLoop ⟨Am.look T,hls H vs,noG⟩ ⟨fun L0 s=>W59_l15 (retK Tryz.prog [.tmp 8] (.bool (R && E))) L0 s⟩)
  (hB:B = (decide ((t.l.length:Int) = kl) && (bn && (decide (t.a = 0) && (decide (t.b = 0) && (decide (t.name = ⟨#[]⟩) && (b5 && (R && E)))))))):Am.Spec Tryz.prog 59 [.agg (encT t),.int .i64 v,.int .i64 s,.int .i64 p] (.bool B):=by
 by_cases d1:(t.l.length:Int) = kl
 rotate_left
 ·rw [decide_eq_false d1] at hB
  simp only [Bool.false_and,Bool.and_false] at hB
  subst hB
  refine W59_S (by simp) ?_
  intro vs
  simp [c0,c1,d1]
  refine scall_pure hof (by simp) (by simp) ?_
  simp [c0,c1,d1,retW_eq]
 rw [decide_eq_true d1] at hB
 cases bn
 ·simp only [Bool.false_and,Bool.and_false] at hB
  subst hB
  refine W59_S (by simp) ?_
  intro vs
  simp [c0,c1,d1]
  refine scall_pure hof (by simp) (by simp) ?_
  simp [c0,c1,d1]
  refine scall_pure hnum (by simp) (by simp) ?_
  simp [c0,c1,d1,retW_eq]
 by_cases d2:t.a = 0
 rotate_left
 ·rw [decide_eq_false d2] at hB
  simp only [Bool.false_and,Bool.and_false] at hB
  subst hB
  refine W59_S (by simp) ?_
  intro vs
  simp [c0,c1,d1,d2]
  refine scall_pure hof (by simp) (by simp) ?_
  simp [c0,c1,d1,d2]
  refine scall_pure hnum (by simp) (by simp) ?_
  simp [c0,c1,d1,d2,retW_eq]
 rw [decide_eq_true d2] at hB
 by_cases d3:t.b = 0
 rotate_left
 ·rw [decide_eq_false d3] at hB
  simp only [Bool.false_and,Bool.and_false] at hB
  subst hB
  refine W59_S (by simp) ?_
  intro vs
  simp [c0,c1,d1,d2,d3]
  refine scall_pure hof (by simp) (by simp) ?_
  simp [c0,c1,d1,d2,d3]
  refine scall_pure hnum (by simp) (by simp) ?_
  simp [c0,c1,d1,d2,d3,retW_eq]
 rw [decide_eq_true d3] at hB
 by_cases d4:t.name = ⟨#[]⟩
 rotate_left
 ·rw [decide_eq_false d4] at hB
  simp only [Bool.false_and,Bool.and_false] at hB
  subst hB
  refine W59_S (by simp) ?_
  intro vs
  simp [c0,c1,d1,d2,d3,d4]
  refine scall_pure hof (by simp) (by simp) ?_
  simp [c0,c1,d1,d2,d3,d4]
  refine scall_pure hnum (by simp) (by simp) ?_
  simp [c0,c1,d1,d2,d3,d4,retW_eq]
 rw [decide_eq_true d4] at hB
 cases b5
 ·simp only [Bool.false_and,Bool.and_false] at hB
  subst hB
  refine W59_S (by simp) ?_
  intro vs
  simp [c0,c1,d1,d2,d3,d4]
  refine scall_pure hof (by simp) (by simp) ?_
  simp [c0,c1,d1,d2,d3,d4]
  refine scall_pure hnum (by simp) (by simp) ?_
  simp [c0,c1,d1,d2,d3,d4]
  refine scall_pure h5 (by simp) (by simp) ?_
  simp [c0,c1,d1,d2,d3,d4,retW_eq]
 simp only [Bool.true_and] at hB
 subst hB
 refine W59_S (by simp) ?_
 intro vs
 simp [-W59_l15,c0,c1,d1,d2,d3,d4]
 refine scall_pure hof (by simp) (by simp) ?_
 simp [-W59_l15,c0,c1,d1,d2,d3,d4]
 refine scall_pure hnum (by simp) (by simp) ?_
 simp [-W59_l15,c0,c1,d1,d2,d3,d4]
 refine scall_pure h5 (by simp) (by simp) ?_
 simp [-W59_l15,c0,c1,d1,d2,d3,d4]
 exact hloop d1 (vs 4 + 1) _ _ _ (by simp) (by simp)
set_option maxHeartbeats 1000000 in
theorem rr_1110 (v s p:Int) (t:Tm) (B R E bn b4 b5 b6:Bool) (kl:Int) (c0:¬ t.kind < 0) (c1:¬ 14 < t.kind) (hof:Am.Spec Tryz.prog 91 [.int .i64 t.kind] (.agg [.bool true,.bool true,.bool true,.bool false,.int .i64 kl]))
  (hnum:Am.Spec Tryz.prog 92 [.agg (encT t),.int .i64 v,.int .i64 s,.int .i64 p] (.bool bn)) (h4:Am.Spec Tryz.prog 93 [.str t.name] (.bool b4)) (hz:t.name = ⟨#[]⟩ → b4 = false) (h5:Am.Spec Tryz.prog 94 [.agg (encE t.e),.int .i64 v] (.bool b5))
  (h6:Am.Spec Tryz.prog 79 [.agg (encE t.e),.agg [.int .i64 0,.int .i64 0,.str ⟨#[]⟩,.sl []]] (.bool b6))
  (hloop:(t.l.length:Int) = kl → ∀ (v4:Nat) (T:List (Nat × AV)) (H:List (Nat × Blk)) (vs:Nat → Nat),Am.subT T [(1,.int .i64 v),(2,.int .i64 s),(3,.int .i64 p),(4,.ref 4 v4 (.p 0)),(10,.int .i64 0)] → subA H [(4,.box v4 35 (encT t))] →
   @sLoop ⟨Am.look T,hls H vs,noG⟩ ⟨fun L0 s=>W59_l15 (retK Tryz.prog [.tmp 8] (.bool (R && E))) L0 s⟩)
  (hB:B = (decide ((t.l.length:Int) = kl) && (bn && (b4 && (b6 && (R && E)))))):Am.Spec Tryz.prog 59 [.agg (encT t),.int .i64 v,.int .i64 s,.int .i64 p] (.bool B):=by
 by_cases d1:(t.l.length:Int) = kl
 rotate_left
 ·rw [decide_eq_false d1] at hB
  simp only [Bool.false_and,Bool.and_false] at hB
  subst hB
  refine W59_S (by simp) ?_
  intro vs
  simp [c0,c1,d1]
  refine scall_pure hof (by simp) (by simp) ?_
  simp [c0,c1,d1,retW_eq]
 rw [decide_eq_true d1] at hB
 cases bn
 ·simp only [Bool.false_and,Bool.and_false] at hB
  subst hB
  refine W59_S (by simp) ?_
  intro vs
  simp [c0,c1,d1]
  refine scall_pure hof (by simp) (by simp) ?_
  simp [c0,c1,d1]
  refine scall_pure hnum (by simp) (by simp) ?_
  simp [c0,c1,d1,retW_eq]
 by_cases d4:t.name = ⟨#[]⟩
 ·rw [hz d4] at hB
  simp only [Bool.false_and,Bool.and_false] at hB
  subst hB
  refine W59_S (by simp) ?_
  intro vs
  simp [c0,c1,d1,d4]
  refine scall_pure hof (by simp) (by simp) ?_
  simp [c0,c1,d1,d4]
  refine scall_pure hnum (by simp) (by simp) ?_
  simp [c0,c1,d1,d4,retW_eq]
 cases b4
 ·simp only [Bool.false_and,Bool.and_false] at hB
  subst hB
  refine W59_S (by simp) ?_
  intro vs
  simp [c0,c1,d1,d4]
  refine scall_pure hof (by simp) (by simp) ?_
  simp [c0,c1,d1,d4]
  refine scall_pure hnum (by simp) (by simp) ?_
  simp [c0,c1,d1,d4]
  refine scall_pure h4 (by simp) (by simp) ?_
  simp [c0,c1,d1,d4,retW_eq]
 cases b6
 ·simp only [Bool.false_and,Bool.and_false] at hB
  subst hB
  refine W59_S (by simp) ?_
  intro vs
  simp [c0,c1,d1,d4]
  refine scall_pure hof (by simp) (by simp) ?_
  simp [c0,c1,d1,d4]
  refine scall_pure hnum (by simp) (by simp) ?_
  simp [c0,c1,d1,d4]
  refine scall_pure h4 (by simp) (by simp) ?_
  simp [c0,c1,d1,d4]
  refine scall_pure h6 (by simp) (by simp) ?_
  simp [c0,c1,d1,d4,retW_eq]
 simp only [Bool.true_and] at hB
 subst hB
 refine W59_S (by simp) ?_
 intro vs
 simp [-W59_l15,c0,c1,d1,d4]
 refine scall_pure hof (by simp) (by simp) ?_
 simp [-W59_l15,c0,c1,d1,d4]
 refine scall_pure hnum (by simp) (by simp) ?_
 simp [-W59_l15,c0,c1,d1,d4]
 refine scall_pure h4 (by simp) (by simp) ?_
 simp [-W59_l15,c0,c1,d1,d4]
 refine scall_pure h6 (by simp) (by simp) ?_
 simp [-W59_l15,c0,c1,d1,d4]
 exact hloop d1 (vs 4 + 1) _ _ _ (by simp) (by simp)
theorem nums_eq (v s p:Int) (t:Tm) (h0:0 ≤ t.kind) (h1:t.kind ≤ 14) (X:Bool):(numOk v s p (kA t.kind) t.a && (numOk v s p (kB t.kind) t.b && X)) = (rnum v s p t && ((fA t.kind || decide (t.a = 0)) && ((fB t.kind || decide (t.b = 0)) && X))):=by
 have:t.kind = 0 ∨ t.kind = 1 ∨ t.kind = 2 ∨ t.kind = 3 ∨ t.kind = 4 ∨ t.kind = 5 ∨ t.kind = 6 ∨ t.kind = 7 ∨ t.kind = 8 ∨ t.kind = 9 ∨ t.kind = 10 ∨ t.kind = 11 ∨ t.kind = 12 ∨ t.kind = 13 ∨ t.kind = 14:=by omega
 rcases this with h | h | h | h | h | h | h | h | h | h | h | h | h | h | h <;> simp [h,numOk,kA,kB,rnum,fA,fB,Bool.and_assoc]
theorem same_zero (x:Ex):Ex.same x .zero = x.none:=by
 have h:x.none = (decide (x.kind = 0) && (decide (x.n = 0) && (decide (x.name = ⟨#[]⟩) && decide (x.l = [])))):=rfl
 rw [Ex.same_eq,h]
 have e:eqL Ex.same x.l ([]:List Ex) = decide (x.l = []):=by cases x.l <;> simp [eqL]
 show (_ && (_ && (_ && eqL Ex.same x.l []))) = _
 rw [e]
 rfl
def tmE (t:Tm):Bool:=if t.kind = 3 then (match t.l with | [y]=>!tmAny y | _=>true) else true
theorem rr_res (v s p:Int) (t:Tm) (h0:0 ≤ t.kind) (h1:t.kind ≤ 14):tmRight v s p t false = (decide ((t.l.length:Int) = kL t.kind) && (rnum v s p t && ((fA t.kind || decide (t.a = 0)) && ((fB t.kind || decide (t.b = 0)) &&
  ((if kN t.kind then nameOk t.name else decide (t.name = ⟨#[]⟩)) && ((if kE t.kind then exRight v t.e else t.e.none) && ((t.l.all fun x=>tmRight v s p x false) && tmE t))))))):=by
 rw [tmRight_eq,decide_eq_true h0,decide_eq_true h1]
 simp only [Bool.true_and,Bool.false_and,Bool.not_false,Bool.false_or,tmOk,Bool.and_assoc]
 rw [nums_eq v s p t h0 h1]
 by_cases hl:(t.l.length:Int) = kL t.kind
 ·have e:(t.l.all fun x=>tmRight v s p x (decide (t.kind = 3))) = ((t.l.all fun x=>tmRight v s p x false) && tmE t):=by
   unfold tmE
   by_cases h3:t.kind = 3
   ·rw [decide_eq_true h3,if_pos h3]
    rw [h3] at hl
    have hl:t.l.length = 1:=Int.ofNat.inj (hl.trans rfl)
    obtain ⟨y,hy⟩:=List.length_eq_one_iff.1 hl
    rw [hy]
    simp only [List.all_cons,List.all_nil,Bool.and_true]
    exact tmRight_pushed v s p y
   ·rw [decide_eq_false h3,if_neg h3,Bool.and_true]
  rw [e,decide_eq_true hl]
  simp only [Bool.true_and]
 ·rw [decide_eq_false hl]
  simp
theorem sp_rr (t:Tm) (v s p:Int) (hw:t.lok):Am.Spec Tryz.prog 59 [.agg (encT t),.int .i64 v,.int .i64 s,.int .i64 p] (.bool (tmRight v s p t false)):=by
 have hlen:=Tm.lok_len hw
 have ih:∀ z ∈ t.l,Am.Spec Tryz.prog 59 [.agg (encT z),.int .i64 v,.int .i64 s,.int .i64 p] (.bool (tmRight v s p z false)):=fun z hz=>sp_rr z v s p (Tm.lok_mem hw hz)
 have hof:=sp_fof t.kind
 by_cases c0:t.kind < 0
 ·rw [tmRight_eq,decide_eq_false (show ¬ 0 ≤ t.kind by omega)]
  simp only [Bool.false_and]
  refine W59_S (by simp) ?_
  intro vs
  simp [c0]
  refine scall_pure hof (by simp) (by simp) ?_
  simp [c0,retW_eq]
 by_cases c1:14 < t.kind
 ·rw [tmRight_eq,decide_eq_false (show ¬ t.kind ≤ 14 by omega)]
  simp only [Bool.false_and,Bool.and_false]
  refine W59_S (by simp) ?_
  intro vs
  simp [c0,c1]
  refine scall_pure hof (by simp) (by simp) ?_
  simp [c0,c1,retW_eq]
 have hres:=rr_res v s p t (by omega) (by omega)
 have hnum:=sp_numbs v s p t
 have h4:=sp_rnm t.name
 have hz:t.name = ⟨#[]⟩ → nameOk t.name = false:=fun e=>by
  cases h:nameOk t.name
  ·rfl
  ·exact absurd e (nameOk_ne _ h)
 have h5:=sp_r2r t.e v (Tm.lok_e hw)
 have h6:=sp_s2 t.e .zero (Tm.lok_e hw)
 rw [same_zero,show encE Ex.zero = [.int .i64 0,.int .i64 0,.str ⟨#[]⟩,.sl []] by simp [Ex.zero,encE_mk]] at h6
 have hloop:(t.l.length:Int) = kL t.kind → _:=fun hl=>rr_loop v s p t hlen ih _ (tmE t) rfl (by
  by_cases h3:t.kind = 3
  ·rw [h3] at hl
   have hl:t.l.length = 1:=Int.ofNat.inj (hl.trans rfl)
   obtain ⟨y,hy⟩:=List.length_eq_one_iff.1 hl
   exact .inr ⟨h3,y,hy,by simp [tmE,h3,hy],Tm.lok_mem hw (by simp [hy])⟩
  ·exact .inl ⟨h3,by simp [tmE,h3]⟩)
 have ks:t.kind = 0 ∨ t.kind = 1 ∨ t.kind = 2 ∨ t.kind = 3 ∨ t.kind = 4 ∨ t.kind = 5 ∨ t.kind = 6 ∨ t.kind = 7 ∨ t.kind = 8 ∨ t.kind = 9 ∨ t.kind = 10 ∨ t.kind = 11 ∨ t.kind = 12 ∨ t.kind = 13 ∨ t.kind = 14:=by omega
 rcases ks with h | h | h | h | h | h | h | h | h | h | h | h | h | h | h
 ·exact rr_0000 v s p t _ _ _ _ _ _ _ _ c0 c1 (by simpa [h,fA,fB,kN,kE] using hof) hnum h4 hz h5 h6 hloop (by rw [hres]; simp [h,fA,fB,kN,kE])
 ·exact rr_1010 v s p t _ _ _ _ _ _ _ _ c0 c1 (by simpa [h,fA,fB,kN,kE] using hof) hnum h4 hz h5 h6 hloop (by rw [hres]; simp [h,fA,fB,kN,kE])
 ·exact rr_1001 v s p t _ _ _ _ _ _ _ _ c0 c1 (by simpa [h,fA,fB,kN,kE] using hof) hnum h4 hz h5 h6 hloop (by rw [hres]; simp [h,fA,fB,kN,kE])
 ·exact rr_1000 v s p t _ _ _ _ _ _ _ _ c0 c1 (by simpa [h,fA,fB,kN,kE] using hof) hnum h4 hz h5 h6 hloop (by rw [hres]; simp [h,fA,fB,kN,kE])
 ·exact rr_1000 v s p t _ _ _ _ _ _ _ _ c0 c1 (by simpa [h,fA,fB,kN,kE] using hof) hnum h4 hz h5 h6 hloop (by rw [hres]; simp [h,fA,fB,kN,kE])
 ·exact rr_1000 v s p t _ _ _ _ _ _ _ _ c0 c1 (by simpa [h,fA,fB,kN,kE] using hof) hnum h4 hz h5 h6 hloop (by rw [hres]; simp [h,fA,fB,kN,kE])
 ·exact rr_1100 v s p t _ _ _ _ _ _ _ _ c0 c1 (by simpa [h,fA,fB,kN,kE] using hof) hnum h4 hz h5 h6 hloop (by rw [hres]; simp [h,fA,fB,kN,kE])
 ·exact rr_0000 v s p t _ _ _ _ _ _ _ _ c0 c1 (by simpa [h,fA,fB,kN,kE] using hof) hnum h4 hz h5 h6 hloop (by rw [hres]; simp [h,fA,fB,kN,kE])
 ·exact rr_0000 v s p t _ _ _ _ _ _ _ _ c0 c1 (by simpa [h,fA,fB,kN,kE] using hof) hnum h4 hz h5 h6 hloop (by rw [hres]; simp [h,fA,fB,kN,kE])
 ·exact rr_0001 v s p t _ _ _ _ _ _ _ _ c0 c1 (by simpa [h,fA,fB,kN,kE] using hof) hnum h4 hz h5 h6 hloop (by rw [hres]; simp [h,fA,fB,kN,kE])
 ·exact rr_0000 v s p t _ _ _ _ _ _ _ _ c0 c1 (by simpa [h,fA,fB,kN,kE] using hof) hnum h4 hz h5 h6 hloop (by rw [hres]; simp [h,fA,fB,kN,kE])
 ·exact rr_0000 v s p t _ _ _ _ _ _ _ _ c0 c1 (by simpa [h,fA,fB,kN,kE] using hof) hnum h4 hz h5 h6 hloop (by rw [hres]; simp [h,fA,fB,kN,kE])
 ·exact rr_0000 v s p t _ _ _ _ _ _ _ _ c0 c1 (by simpa [h,fA,fB,kN,kE] using hof) hnum h4 hz h5 h6 hloop (by rw [hres]; simp [h,fA,fB,kN,kE])
 ·exact rr_1000 v s p t _ _ _ _ _ _ _ _ c0 c1 (by simpa [h,fA,fB,kN,kE] using hof) hnum h4 hz h5 h6 hloop (by rw [hres]; simp [h,fA,fB,kN,kE])
 ·exact rr_1110 v s p t _ _ _ _ _ _ _ _ c0 c1 (by simpa [h,fA,fB,kN,kE] using hof) hnum h4 hz h5 h6 hloop (by rw [hres]; simp [h,fA,fB,kN,kE])
termination_by SizeOf.sizeOf t
decreasing_by exact Tm.lt_of_mem hz
end Go.Proofs.YtnngddgaobhkiaaGreat
