import Derived.Test.YtnngddgaobhkiaaGreatGD10
import Derived.Test.YtnngddgaobhkiaaGreatGD19
import Derived.Test.YtnngddgaobhkiaaGreatGE15
set_option linter.unusedVariables false
set_option linter.unusedSimpArgs false
namespace Go.Proofs.YtnngddgaobhkiaaGreat
open Go Go.Am Go.RowKit
attribute [local simp] W61 W61_rs W61_k1 W61_b2 W24 W24_rs W24_b3 W24_b6 W24_b8 W24_b10 W24_b12 W24_b15 W24_b16 W24_b17 W24_b18 W24_b19 W24_b20 W24_b21 W24_b22 W24_b23 W24_b24 W24_b25 W24_b26 W24_b28 W24_k4
theorem sp_wi5' (a n:Int) (hn:0 < n) (h2:n < 4611686018427387904):Am.Spec Tryz.prog 61 [.int .i64 a,.int .i64 n] (.int .i64 (within a n)):=by
 refine W61_S (by simp) ?_
 intro vs
 simp
 rw [if_neg (by omega)]
 simp
 have h1:=Int.tmod_lt_of_pos a hn
 have h3:-n < a.tmod n:=by have:=Int.lt_tmod_of_pos a hn; omega
 refine sIf_dec (fun h=>?_) (fun h=>?_)
 ·simp
  rw [wrap64 (by omega) (by omega)]
  simp [retW_eq,within,h]
 ·simp [retW_eq,within,h]
theorem bx_enc (t:Tm):Bx (encT t) t:=⟨by simp,by simp,fun H=>by simp,fun H=>by simp⟩
def Zc:List AV:=[.int .i64 0,.int .i64 0,.int .i64 0,.str ⟨#[]⟩,.int .i64 0,.int .i64 0,.str ⟨#[]⟩,.nils,.nils]
theorem spo_k4 (c:List AV) (x:Tm) (hb:Bx c x) (hcl:∀ y ∈ c,y.cell = true) (v4 v8:Nat) (vs:Nat → Nat) (T:List (Nat × AV)) (h4:Am.look T 4 = .ref 4 v4 (.p 0)) (h8:Am.look T 8 = .ref 8 v8 (.p 0)) :
  W24_k4 (retK Tryz.prog [.cell 8 35] (.agg (encT x))) ⟨Am.look T,hls [(4,.box v4 35 c),(8,.box v8 35 Zc)] vs,noG⟩:=by
 obtain ⟨b1,b2,b3,b4⟩:=hb
 have hset:setL Zc 0 c = c:=setL_whole (by rw [b1]; rfl)
 have hc:(∀ y ∈ c,y.cell = true) ↔ True:=⟨fun _=>trivial,fun _=>hcl⟩
 have hz:Zc.length = 9:=rfl
 simp [h4,h8,b1,b2,hset,hc,hz,retW_eq,b3,b4]
theorem spo_case0 (t:Tm) (wh v:Int) (hw:t.wt ≤ 100000000) (hz:within wh 8 = 0):∃ x:Tm,x.wt ≤ t.wt + 10 ∧ ∀ (v4 v8:Nat) (vs:Nat → Nat) (T:List (Nat × AV)),Am.look T 1 = .int .i64 wh → Am.look T 2 = .int .i64 v → Am.look T 4 = .ref 4 v4 (.p 0) → Am.look T 8 = .ref 8 v8 (.p 0) →
  W24_b28 (retK Tryz.prog [.cell 8 35] (.agg (encT x))) ⟨Am.look T,hls [(4,.box v4 35 (encT t)),(8,.box v8 35 Zc)] vs,noG⟩:=by
  have e1:=Ex.wt_pos t.e
  have ew:=t.wt_eq
  have w8:=sp_wi5' wh 8 (by omega) (by omega)
  rw [hz] at w8
  have w17:=sp_wi5' v 17 (by omega) (by omega)
  have ga:=within_ge v 17 (by omega)
  have gb:=within_lt v 17 (by omega)
  generalize within v 17 = zv at *
  refine ⟨⟨zv - 1,t.a,t.b,t.name,t.e,t.l⟩,by simp only [Tm.wt]; omega,?_⟩
  intro v4 v8 vs T h1 h2 h4 h8
  have hwr:IntKind.wrap .i64 (zv - 1) = zv - 1:=wrap64 (by omega) (by omega)
  have hset:setL (encT t) 0 [.int .i64 (zv - 1)] = encT ⟨zv - 1,t.a,t.b,t.name,t.e,t.l⟩:=by rw [encT_eq,encT_eq]; rfl
  simp [-W24_k4,h1,h2,h4,h8]
  refine scall_pure w8 (by simp) (by simp) ?_
  simp [-W24_k4,h1,h2,h4,h8]
  refine scall_pure w17 (by simp) (by simp) ?_
  simp [-W24_k4,h1,h2,h4,h8,hwr,hset]
  refine spo_k4 _ _ (bx_enc _) (encT_cell _) v4 v8 vs _ ?_ ?_
  ·simp [h4]
  ·simp [h8]
theorem spo_case1 (t:Tm) (wh v:Int) (hw:t.wt ≤ 100000000) (hz:within wh 8 = 1):∃ x:Tm,x.wt ≤ t.wt + 10 ∧ ∀ (v4 v8:Nat) (vs:Nat → Nat) (T:List (Nat × AV)),Am.look T 1 = .int .i64 wh → Am.look T 2 = .int .i64 v → Am.look T 4 = .ref 4 v4 (.p 0) → Am.look T 8 = .ref 8 v8 (.p 0) →
  W24_b28 (retK Tryz.prog [.cell 8 35] (.agg (encT x))) ⟨Am.look T,hls [(4,.box v4 35 (encT t)),(8,.box v8 35 Zc)] vs,noG⟩:=by
  have e1:=Ex.wt_pos t.e
  have ew:=t.wt_eq
  have w8:=sp_wi5' wh 8 (by omega) (by omega)
  rw [hz] at w8
  have w6:=sp_wi5' v 6 (by omega) (by omega)
  have ga:=within_ge v 6 (by omega)
  have gb:=within_lt v 6 (by omega)
  obtain ⟨m,hm⟩:∃ m:Int,ixRows [[AV.int .i64 (-2)],[.int .i64 (-1)],[.int .i64 0],[.int .i64 2],[.int .i64 5],[.int .i64 v]] (within v 6) 1 = some (.elt [.int .i64 m] 0):=by
   have:within v 6 = 0 ∨ within v 6 = 1 ∨ within v 6 = 2 ∨ within v 6 = 3 ∨ within v 6 = 4 ∨ within v 6 = 5:=by omega
   rcases this with h | h | h | h | h | h <;> rw [h]
   ·exact ⟨-2,by simp⟩
   ·exact ⟨-1,by simp⟩
   ·exact ⟨0,by simp⟩
   ·exact ⟨2,by simp⟩
   ·exact ⟨5,by simp⟩
   ·exact ⟨v,by simp⟩
  generalize within v 6 = zv at *
  refine ⟨⟨t.kind,m,t.b,t.name,t.e,t.l⟩,by simp only [Tm.wt]; omega,?_⟩
  intro v4 v8 vs T h1 h2 h4 h8
  have hset:setL (encT t) 1 [.int .i64 m] = encT ⟨t.kind,m,t.b,t.name,t.e,t.l⟩:=by rw [encT_eq,encT_eq]; rfl
  simp [-W24_k4,h1,h2,h4,h8]
  refine scall_pure w8 (by simp) (by simp) ?_
  simp [-W24_k4,h1,h2,h4,h8]
  refine scall_pure w6 (by simp) (by simp) ?_
  simp [-W24_k4,h1,h2,h4,h8,hm,hset]
  refine spo_k4 _ _ (bx_enc _) (encT_cell _) v4 v8 vs _ ?_ ?_
  ·simp [h4]
  ·simp [h8]
theorem spo_case2 (t:Tm) (wh v:Int) (hw:t.wt ≤ 100000000) (hz:within wh 8 = 2):∃ x:Tm,x.wt ≤ t.wt + 10 ∧ ∀ (v4 v8:Nat) (vs:Nat → Nat) (T:List (Nat × AV)),Am.look T 1 = .int .i64 wh → Am.look T 2 = .int .i64 v → Am.look T 4 = .ref 4 v4 (.p 0) → Am.look T 8 = .ref 8 v8 (.p 0) →
  W24_b28 (retK Tryz.prog [.cell 8 35] (.agg (encT x))) ⟨Am.look T,hls [(4,.box v4 35 (encT t)),(8,.box v8 35 Zc)] vs,noG⟩:=by
  have e1:=Ex.wt_pos t.e
  have ew:=t.wt_eq
  have w8:=sp_wi5' wh 8 (by omega) (by omega)
  rw [hz] at w8
  have w6:=sp_wi5' v 6 (by omega) (by omega)
  have ga:=within_ge v 6 (by omega)
  have gb:=within_lt v 6 (by omega)
  obtain ⟨m,hm⟩:∃ m:Int,ixRows [[AV.int .i64 (-2)],[.int .i64 (-1)],[.int .i64 0],[.int .i64 2],[.int .i64 3],[.int .i64 v]] (within v 6) 1 = some (.elt [.int .i64 m] 0):=by
   have:within v 6 = 0 ∨ within v 6 = 1 ∨ within v 6 = 2 ∨ within v 6 = 3 ∨ within v 6 = 4 ∨ within v 6 = 5:=by omega
   rcases this with h | h | h | h | h | h <;> rw [h]
   ·exact ⟨-2,by simp⟩
   ·exact ⟨-1,by simp⟩
   ·exact ⟨0,by simp⟩
   ·exact ⟨2,by simp⟩
   ·exact ⟨3,by simp⟩
   ·exact ⟨v,by simp⟩
  generalize within v 6 = zv at *
  refine ⟨⟨t.kind,t.a,m,t.name,t.e,t.l⟩,by simp only [Tm.wt]; omega,?_⟩
  intro v4 v8 vs T h1 h2 h4 h8
  have hset:setL (encT t) 2 [.int .i64 m] = encT ⟨t.kind,t.a,m,t.name,t.e,t.l⟩:=by rw [encT_eq,encT_eq]; rfl
  simp [-W24_k4,h1,h2,h4,h8]
  refine scall_pure w8 (by simp) (by simp) ?_
  simp [-W24_k4,h1,h2,h4,h8]
  refine scall_pure w6 (by simp) (by simp) ?_
  simp [-W24_k4,h1,h2,h4,h8,hm,hset]
  refine spo_k4 _ _ (bx_enc _) (encT_cell _) v4 v8 vs _ ?_ ?_
  ·simp [h4]
  ·simp [h8]
theorem spo_case3 (t:Tm) (wh v:Int) (hw:t.wt ≤ 100000000) (hz:within wh 8 = 3):∃ x:Tm,x.wt ≤ t.wt + 10 ∧ ∀ (v4 v8:Nat) (vs:Nat → Nat) (T:List (Nat × AV)),Am.look T 1 = .int .i64 wh → Am.look T 2 = .int .i64 v → Am.look T 4 = .ref 4 v4 (.p 0) → Am.look T 8 = .ref 8 v8 (.p 0) →
  W24_b28 (retK Tryz.prog [.cell 8 35] (.agg (encT x))) ⟨Am.look T,hls [(4,.box v4 35 (encT t)),(8,.box v8 35 Zc)] vs,noG⟩:=by
  have e1:=Ex.wt_pos t.e
  have ew:=t.wt_eq
  have w8:=sp_wi5' wh 8 (by omega) (by omega)
  rw [hz] at w8
  have w5:=sp_wi5' v 5 (by omega) (by omega)
  have ga:=within_ge v 5 (by omega)
  have gb:=within_lt v 5 (by omega)
  obtain ⟨m,hm⟩:∃ m:ByteArray,ixRows [[AV.str ⟨#[]⟩],[.str ⟨#[112,97,121]⟩],[.str ⟨#[100,111]⟩],[.str ⟨#[97,32,98]⟩],[.str ⟨#[80,97,121]⟩]] (within v 5) 1 = some (.elt [.str m] 0):=by
   have:within v 5 = 0 ∨ within v 5 = 1 ∨ within v 5 = 2 ∨ within v 5 = 3 ∨ within v 5 = 4:=by omega
   rcases this with h | h | h | h | h <;> rw [h]
   all_goals exact ⟨_,by simp; rfl⟩
  generalize within v 5 = zv at *
  refine ⟨⟨t.kind,t.a,t.b,m,t.e,t.l⟩,by simp only [Tm.wt]; omega,?_⟩
  intro v4 v8 vs T h1 h2 h4 h8
  have hset:setL (encT t) 3 [.str m] = encT ⟨t.kind,t.a,t.b,m,t.e,t.l⟩:=by rw [encT_eq,encT_eq]; rfl
  simp [-W24_k4,h1,h2,h4,h8]
  refine scall_pure w8 (by simp) (by simp) ?_
  simp [-W24_k4,h1,h2,h4,h8]
  refine scall_pure w5 (by simp) (by simp) ?_
  simp [-W24_k4,h1,h2,h4,h8,hm,hset]
  refine spo_k4 _ _ (bx_enc _) (encT_cell _) v4 v8 vs _ ?_ ?_
  ·simp [h4]
  ·simp [h8]
theorem spo_case4 (t:Tm) (wh v:Int) (hw:t.wt ≤ 100000000) (hz:within wh 8 = 4):∃ x:Tm,x.wt ≤ t.wt + 10 ∧ ∀ (v4 v8:Nat) (vs:Nat → Nat) (T:List (Nat × AV)),Am.look T 1 = .int .i64 wh → Am.look T 2 = .int .i64 v → Am.look T 4 = .ref 4 v4 (.p 0) → Am.look T 8 = .ref 8 v8 (.p 0) →
  W24_b28 (retK Tryz.prog [.cell 8 35] (.agg (encT x))) ⟨Am.look T,hls [(4,.box v4 35 (encT t)),(8,.box v8 35 Zc)] vs,noG⟩:=by
  have e1:=Ex.wt_pos t.e
  have ew:=t.wt_eq
  have w8:=sp_wi5' wh 8 (by omega) (by omega)
  rw [hz] at w8
  have w4:=sp_wi5' v 4 (by omega) (by omega)
  obtain ⟨q,hq⟩:∃ q,IntKind.wrap .i64 (v.tdiv 4) = q:=⟨_,rfl⟩
  have w5:=sp_wi5' q 5 (by omega) (by omega)
  generalize within v 4 = zk at *
  generalize within q 5 = zn at *
  refine ⟨⟨t.kind,t.a,t.b,t.name,⟨zk,zn,⟨#[]⟩,[]⟩,t.l⟩,by simp only [Tm.wt,Ex.wt,Ex.wts]; omega,?_⟩
  intro v4 v8 vs T h1 h2 h4 h8
  have hbx:Bx [.int .i64 t.kind,.int .i64 t.a,.int .i64 t.b,.str t.name,.int .i64 zk,.int .i64 zn,.str ⟨#[]⟩,.nils,.sl (t.l.map encT)] ⟨t.kind,t.a,t.b,t.name,⟨zk,zn,⟨#[]⟩,[]⟩,t.l⟩:=⟨rfl,Bx.nine rfl,fun H=>by rw [encT_eq]; simp,fun H=>by simp⟩
  have hcl:∀ y ∈ [AV.int .i64 t.kind,.int .i64 t.a,.int .i64 t.b,.str t.name,.int .i64 zk,.int .i64 zn,.str ⟨#[]⟩,.nils,.sl (t.l.map encT)],y.cell = true:=by simp
  have hset:setL (encT t) 4 [.int .i64 zk,.int .i64 zn,.str ⟨#[]⟩,.nils] = [.int .i64 t.kind,.int .i64 t.a,.int .i64 t.b,.str t.name,.int .i64 zk,.int .i64 zn,.str ⟨#[]⟩,.nils,.sl (t.l.map encT)]:=by rw [encT_eq]; rfl
  generalize [AV.int .i64 t.kind,.int .i64 t.a,.int .i64 t.b,.str t.name,.int .i64 zk,.int .i64 zn,.str ⟨#[]⟩,.nils,.sl (t.l.map encT)] = C at *
  generalize (⟨t.kind,t.a,t.b,t.name,⟨zk,zn,⟨#[]⟩,[]⟩,t.l⟩:Tm) = X at *
  simp [-W24_k4,h1,h2,h4,h8]
  refine scall_pure w8 (by simp) (by simp) ?_
  simp [-W24_k4,h1,h2,h4,h8]
  refine scall_pure w4 (by simp) (by simp) ?_
  simp [-W24_k4,h1,h2,h4,h8,hq]
  refine scall_pure w5 (by simp) (by simp) ?_
  simp [-W24_k4,h1,h2,h4,h8,hset]
  refine spo_k4 C X hbx hcl v4 v8 vs _ ?_ ?_
  ·simp [h4]
  ·simp [h8]
theorem spo_case5 (t:Tm) (wh v:Int) (hw:t.wt ≤ 100000000) (hz:within wh 8 = 5):∃ x:Tm,x.wt ≤ t.wt + 10 ∧ ∀ (v4 v8:Nat) (vs:Nat → Nat) (T:List (Nat × AV)),Am.look T 1 = .int .i64 wh → Am.look T 2 = .int .i64 v → Am.look T 4 = .ref 4 v4 (.p 0) → Am.look T 8 = .ref 8 v8 (.p 0) →
  W24_b28 (retK Tryz.prog [.cell 8 35] (.agg (encT x))) ⟨Am.look T,hls [(4,.box v4 35 (encT t)),(8,.box v8 35 Zc)] vs,noG⟩:=by
  have e1:=Ex.wt_pos t.e
  have ew:=t.wt_eq
  have w8:=sp_wi5' wh 8 (by omega) (by omega)
  rw [hz] at w8
  have hlen:=Tm.wts_len t.l
  have hwts:∀ l:List Tm,Tm.wts (l ++ [⟨14,0,-1,⟨#[112,97,121]⟩,.zero,[]⟩]) = Tm.wts l + 2:=by
   intro l
   induction l with
   | nil=>simp [Tm.wts,Tm.wt,Ex.zero_wt]
   | cons x l ih=>simp only [List.cons_append,Tm.wts,ih]; omega
  refine ⟨⟨t.kind,t.a,t.b,t.name,t.e,t.l ++ [⟨14,0,-1,⟨#[112,97,121]⟩,.zero,[]⟩]⟩,by simp only [Tm.wt,hwts]; omega,?_⟩
  intro v4 v8 vs T h1 h2 h4 h8
  have hset:∀ x:AV,setL (encT t) 8 [x] = [.int .i64 t.kind,.int .i64 t.a,.int .i64 t.b,.str t.name,.int .i64 t.e.kind,.int .i64 t.e.n,.str t.e.name,.sl (t.e.l.map encE),x]:=fun x=>by rw [encT_eq]; rfl
  have hz:Zc = [.int .i64 0,.int .i64 0,.int .i64 0,.str ⟨#[]⟩,.int .i64 0,.int .i64 0,.str ⟨#[]⟩,.nils,.nils]:=rfl
  simp [-W24_k4,h1,h2,h4,h8]
  refine scall_pure w8 (by simp) (by simp) ?_
  simp [-W24_k4,h1,h2,h4,h8]
  rw [decide_eq_true (by omega)]
  simp [-W24_k4,h1,h2,h4,h8]
  rw [decide_eq_true (by omega)]
  simp [h1,h2,h4,h8,hset,hz,retW_eq]
  rw [encT_eq]
  simp [Ex.zero,encT_mk,encE_mk,closedLL_append,closedLL,closedL,closed]
theorem spo_case6 (t:Tm) (wh v:Int) (hw:t.wt ≤ 100000000) (hz:within wh 8 = 6):∃ x:Tm,x.wt ≤ t.wt + 10 ∧ ∀ (v4 v8:Nat) (vs:Nat → Nat) (T:List (Nat × AV)),Am.look T 1 = .int .i64 wh → Am.look T 2 = .int .i64 v → Am.look T 4 = .ref 4 v4 (.p 0) → Am.look T 8 = .ref 8 v8 (.p 0) →
  W24_b28 (retK Tryz.prog [.cell 8 35] (.agg (encT x))) ⟨Am.look T,hls [(4,.box v4 35 (encT t)),(8,.box v8 35 Zc)] vs,noG⟩:=by
  have e1:=Ex.wt_pos t.e
  have ew:=t.wt_eq
  have w8:=sp_wi5' wh 8 (by omega) (by omega)
  rw [hz] at w8
  by_cases h0:0 < t.l.length
  ·have hwd:Tm.wts (t.l.drop 1) ≤ Tm.wts t.l:=by cases t.l <;> simp [Tm.wts]
   refine ⟨⟨t.kind,t.a,t.b,t.name,t.e,t.l.drop 1⟩,by simp only [Tm.wt]; omega,?_⟩
   intro v4 v8 vs T h1 h2 h4 h8
   have hsl:slcV 9 (t.l.map encT) (some (.i64,1)) none = some (.sl ((t.l.drop 1).map encT)):=by
    rw [slcV_from 9 _ .i64 1 1 rfl (by simp; omega) (fun r hr=>by obtain ⟨y,-,rfl⟩:=List.mem_map.1 hr; simp),List.map_drop]
   have hset:setL (encT t) 8 [.sl ((t.l.drop 1).map encT)] = encT ⟨t.kind,t.a,t.b,t.name,t.e,t.l.drop 1⟩:=by rw [encT_eq,encT_eq]; rfl
   generalize (⟨t.kind,t.a,t.b,t.name,t.e,t.l.drop 1⟩:Tm) = X at *
   simp [-W24_k4,h1,h2,h4,h8]
   refine scall_pure w8 (by simp) (by simp) ?_
   generalize (t.l.drop 1).map encT = D at *
   simp [-W24_k4,h1,h2,h4,h8,h0,hsl,hset]
   refine spo_k4 (encT X) X (bx_enc X) (encT_cell X) v4 v8 vs _ ?_ ?_
   ·simp [h4]
   ·simp [h8]
  ·refine ⟨t,by omega,?_⟩
   intro v4 v8 vs T h1 h2 h4 h8
   have h0':¬ (0:Int) < t.l.length:=by omega
   simp [-W24_k4,h1,h2,h4,h8]
   refine scall_pure w8 (by simp) (by simp) ?_
   simp [-W24_k4,h1,h2,h4,h8,h0,h0']
   refine spo_k4 (encT t) t (bx_enc t) (encT_cell t) v4 v8 vs _ ?_ ?_
   ·simp [h4]
   ·simp [h8]
theorem spo_case7 (t:Tm) (wh v:Int) (hw:t.wt ≤ 100000000) (hz:within wh 8 = 7):∃ x:Tm,x.wt ≤ t.wt + 10 ∧ ∀ (v4 v8:Nat) (vs:Nat → Nat) (T:List (Nat × AV)),Am.look T 1 = .int .i64 wh → Am.look T 2 = .int .i64 v → Am.look T 4 = .ref 4 v4 (.p 0) → Am.look T 8 = .ref 8 v8 (.p 0) →
  W24_b28 (retK Tryz.prog [.cell 8 35] (.agg (encT x))) ⟨Am.look T,hls [(4,.box v4 35 (encT t)),(8,.box v8 35 Zc)] vs,noG⟩:=by
  have e1:=Ex.wt_pos t.e
  have ew:=t.wt_eq
  have w8:=sp_wi5' wh 8 (by omega) (by omega)
  rw [hz] at w8
  refine ⟨.of 3 [t],by simp only [Tm.of,Tm.wt,Ex.zero_wt,Tm.wts]; omega,?_⟩
  intro v4 v8 vs T h1 h2 h4 h8
  simp [-W24_k4,h1,h2,h4,h8]
  refine scall_pure w8 (by simp) (by simp) ?_
  simp [-W24_k4,h1,h2,h4,h8]
  have hbx:=bx_of 3 [encT t] [t] rfl
  have hcl:∀ y ∈ [AV.int .i64 3,.int .i64 0,.int .i64 0,.str ⟨#[]⟩,.int .i64 0,.int .i64 0,.str ⟨#[]⟩,.nils,.slt [encT t]],y.cell = true:=by simp
  generalize [AV.int .i64 3,.int .i64 0,.int .i64 0,.str ⟨#[]⟩,.int .i64 0,.int .i64 0,.str ⟨#[]⟩,.nils,.slt [encT t]] = C at *
  refine spo_k4 C _ hbx hcl v4 v8 vs _ ?_ ?_
  ·simp [h4]
  ·simp [h8]
theorem spo_b28 (t:Tm) (wh v:Int) (hw:t.wt ≤ 100000000):∃ x:Tm,x.wt ≤ t.wt + 10 ∧ ∀ (v4 v8:Nat) (vs:Nat → Nat) (T:List (Nat × AV)),Am.look T 1 = .int .i64 wh → Am.look T 2 = .int .i64 v → Am.look T 4 = .ref 4 v4 (.p 0) → Am.look T 8 = .ref 8 v8 (.p 0) →
  W24_b28 (retK Tryz.prog [.cell 8 35] (.agg (encT x))) ⟨Am.look T,hls [(4,.box v4 35 (encT t)),(8,.box v8 35 Zc)] vs,noG⟩:=by
 have g8:=within_ge wh 8 (by omega)
 have g9:=within_lt wh 8 (by omega)
 have cs:within wh 8 = 0 ∨ within wh 8 = 1 ∨ within wh 8 = 2 ∨ within wh 8 = 3 ∨ within wh 8 = 4 ∨ within wh 8 = 5 ∨ within wh 8 = 6 ∨ within wh 8 = 7:=by omega
 rcases cs with h | h | h | h | h | h | h | h
 ·exact spo_case0 t wh v hw h
 ·exact spo_case1 t wh v hw h
 ·exact spo_case2 t wh v hw h
 ·exact spo_case3 t wh v hw h
 ·exact spo_case4 t wh v hw h
 ·exact spo_case5 t wh v hw h
 ·exact spo_case6 t wh v hw h
 ·exact spo_case7 t wh v hw h
theorem wts_set:∀ (l:List Tm) (i:Nat) (x:Tm) (h:i < l.length),x.wt ≤ l[i].wt + 10 → Tm.wts (l.set i x) ≤ Tm.wts l + 10
 | [],_,_,h,_=>absurd h (by simp)
 | y :: l,0,x,_,hx=>by simp only [List.set_cons_zero,Tm.wts,List.getElem_cons_zero] at *; omega
 | y :: l,i + 1,x,h,hx=>by
  have:=wts_set l i x (by simpa using h) (by simpa using hx)
  simp only [List.set_cons_succ,Tm.wts]; omega
theorem sp_spo (t:Tm) (wh v at_:Int) (hw:t.wt ≤ 100000000):∃ x:Tm,x.wt ≤ t.wt + 10 ∧ Am.Spec Tryz.prog 24 [.agg (encT t),.int .i64 wh,.int .i64 v,.int .i64 at_] (.agg (encT x)):=by
 have hwt:=t.wt_eq
 have hlen:=Tm.wts_len t.l
 have ih:∀ z ∈ t.l,∀ at_,∃ x:Tm,x.wt ≤ z.wt + 10 ∧ Am.Spec Tryz.prog 24 [.agg (encT z),.int .i64 wh,.int .i64 v,.int .i64 at_] (.agg (encT x)):=fun z hz at_=>sp_spo z wh v at_ (by have:=Tm.wts_mem hz; omega)
 have w4:=sp_wi5' at_ 4 (by omega) (by omega)
 by_cases h0:0 < t.l.length
 ·have h0':(0:Int) < t.l.length:=by omega
  by_cases h1:0 < within at_ 4
  ·generalize within at_ 4 = za at *
   obtain ⟨q,hq⟩:∃ q,IntKind.wrap .i64 (at_.tdiv 4) = q:=⟨_,rfl⟩
   obtain ⟨q9,hq9⟩:∃ q,IntKind.wrap .i64 (at_.tdiv 9) = q:=⟨_,rfl⟩
   have wl:=sp_wi5' q t.l.length (by omega) (by omega)
   have ga:=within_ge q t.l.length (by omega)
   have gb:=within_lt q t.l.length (by omega)
   obtain ⟨k,hk⟩:∃ k:Nat,within q t.l.length = k:=⟨(within q t.l.length).toNat,by omega⟩
   rw [hk] at wl ga gb
   have hkl:k < t.l.length:=by omega
   obtain ⟨x,hxw,hx⟩:=ih t.l[k] (List.getElem_mem hkl) q9
   have hws:=wts_set t.l k x hkl hxw
   refine ⟨⟨t.kind,t.a,t.b,t.name,t.e,t.l.set k x⟩,by simp only [Tm.wt]; omega,?_⟩
   have hset:∀ x:AV,setL (encT t) 8 [x] = [.int .i64 t.kind,.int .i64 t.a,.int .i64 t.b,.str t.name,.int .i64 t.e.kind,.int .i64 t.e.n,.str t.e.name,.sl (t.e.l.map encE),x]:=fun x=>by rw [encT_eq]; rfl
   refine W24_S (by simp) ?_
   intro vs
   simp [-W24_b28,h0,h0']
   refine scall_pure w4 (by simp) (by simp) ?_
   simp [-W24_b28,h0,h0',h1]
   rw [decide_eq_true (by omega)]
   simp [-W24_b28,hq]
   refine scall_pure wl (by simp) (by simp) ?_
   simp [-W24_b28,hkl,hq9]
   refine scall_pure hx (by simp) (by simp) ?_
   simp [hkl,hset,retW_eq]
   rw [← List.map_set]
   exact ⟨closedLL_sl_map encT encT_closed _,by rw [encT_mk,encE_eq]; rfl⟩
  ·obtain ⟨x,hxw,hx⟩:=spo_b28 t wh v hw
   generalize within at_ 4 = za at *
   refine ⟨x,hxw,?_⟩
   refine W24_S (by simp) ?_
   intro vs
   simp [-W24_b28,h0,h0']
   refine scall_pure w4 (by simp) (by simp) ?_
   simp [-W24_b28,h0,h0',h1]
   refine hx (vs 4 + 1) (vs 8 + 1) _ _ ?_ ?_ ?_ ?_
   all_goals simp
 ·obtain ⟨x,hxw,hx⟩:=spo_b28 t wh v hw
  have h0':¬ (0:Int) < t.l.length:=by omega
  refine ⟨x,hxw,?_⟩
  refine W24_S (by simp) ?_
  intro vs
  simp [-W24_b28,h0,h0']
  refine hx (vs 4 + 1) (vs 8 + 1) _ _ ?_ ?_ ?_ ?_
  all_goals simp
termination_by SizeOf.sizeOf t
decreasing_by exact Tm.lt_of_mem hz
end Go.Proofs.YtnngddgaobhkiaaGreat
