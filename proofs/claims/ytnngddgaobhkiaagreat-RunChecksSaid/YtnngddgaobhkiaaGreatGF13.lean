import Derived.Test.YtnngddgaobhkiaaGreatGC11
import Derived.Test.YtnngddgaobhkiaaGreatGQ7
set_option linter.unusedVariables false
set_option linter.unusedSimpArgs false
namespace Go.Proofs.YtnngddgaobhkiaaGreat
open Go Go.Am Go.RowKit
attribute [local simp] W149 W149_rs W149_b1 W149_b3 W149_b4 W149_b6 W149_b8 W149_k2 W149_l7 W148 W148_rs W135 W135_rs W111 W111_rs W111_k1 W111_b2 W111_b3 W111_b29 W111_r43 W94 W94_rs W94_b1 W94_b3 W94_b4 W94_b6 W94_b8 W94_b15 W94_b20 W94_b29 W94_b30 W94_b31 W94_b35 W94_b39 W94_b40 W94_b41 W94_k2 W94_k14 W94_l7
theorem sp_ewk (t:Ex) (hw:Ex.lok t):Am.SpecY Tryz.prog 149 [.agg (encE t),.yld] ((Ex.pre t).map fun x=>[.agg (encE x)]) (.bool true) (.bool false):=by
 have hl:=Ex.lok_len hw
 refine Am.SpecY.of_W (W:=W149) Tryz.func149 (by kernel_rfl) (by kernel_rfl) (by kernel_rfl) Tryz.ntmps149 W149_eq (rs:=[.tmp 4]) (by kernel_rfl) (by simp) rfl rfl ?_
 intro vs rest
 rw [Ex.pre_eq]
 simp [-W149_l7]
 refine scall_yield _ (by simp) rfl (by simp) fun b=>?_
 cases b
 ·simp [retYW]
 ·simp [-W149_l7]
  refine sLoop_introG (fun i=>i ≤ t.l.length) (fun i=>t.l.length - i) (fun i=>[(1,.yld),(12,.sl (t.l.map encE)),(13,.int .i64 t.l.length),(14,.int .i64 (i:Nat))]) (fun _=>[]) (fun i=>⟨(Ex.pres (t.l.drop i)).map (fun x=>[.agg (encE x)]) ++ rest,false⟩) 0 (by simp) (by simp) (by simp) (by simp) ?_
  intro K i vu hi hK
  by_cases h:i < t.l.length
  ·have hx:=List.getElem_mem h
   rw [Ex.pres_drop t.l i h]
   simp [h]
   refine scall_ylds ((Ex.pres (t.l.drop (i + 1))).map (fun x=>[.agg (encE x)]) ++ rest) (sp_ewk t.l[i] (Ex.lok_mem hw hx)) (by simp) (by simp) (by simp) ?_ fun q=>?_
   ·simp
    rw [wrap64 (by omega) (by omega)]
    exact hK _ _ _ _ (i + 1) h (by omega) (by simp) (by simp) rfl
   ·simp [retYW]
  ·have:t.l.drop i = []:=List.drop_of_length_le (by omega)
   rw [this]
   simp [h,retYW,Ex.pres]
termination_by SizeOf.sizeOf t
decreasing_by exact Ex.lt_of_mem hx
theorem sp_ea1 (t:Ex) (hw:Ex.lok t):Am.SpecY Tryz.prog 148 [.yld,.elt (encE t) 0] ((Ex.pre t).map fun x=>[.agg (encE x)]) (.tup []) (.tup []):=by
 refine Am.SpecY.of_W (W:=W148) Tryz.func148 (by kernel_rfl) (by kernel_rfl) (by kernel_rfl) Tryz.ntmps148 W148_eq (rs:=[]) (by kernel_rfl) (by simp) rfl rfl ?_
 intro vs rest
 simp
 refine scall_ylds rest (sp_ewk t hw) (by simp) (by simp) (by simp) ?_ fun q=>?_
 ·simp [retYW]
 ·simp [retYW]
theorem sp_eal (t:Ex):Am.Spec Tryz.prog 135 [.agg (encE t)] (.func 148 [.elt (encE t) 0]):=by
 refine W135_S (by simp) ?_
 intro vs
 simp [retW_eq]
theorem sp_ert (t:Ex) (v:Int) (hw:Ex.lok t):Am.Spec Tryz.prog 111 [.agg (encE t),.int .i64 v] (.bool (exRight v t)):=by
 refine W111_S (by simp) ?_
 intro vs
 simp
 refine scall_pure (sp_eal t) (by simp) (by simp) ?_
 simp
 refine sRange_introA (α:=Unit) ((Ex.pre t).map fun x=>[.agg (encE x)]) (.tup []) (.tup []) (fun i _=>exRight v t = ((Ex.pre t).drop i).all (exOk v))
  (fun _=>[(3,.box (vs 3 + 1) 3 [.int .i64 v]),(4,.box (vs 4 + 1) 4 [.bool false])]) () (sp_ea1 t hw) (by simp) (by simp [exRight]) (by simp) ?_ ?_
 ·rintro i hi _ vt Ψ hj hn hr - -
  have hi':i < (Ex.pre t).length:=by simpa using hi
  rw [all_drop _ _ _ hi'] at hj
  simp only [List.getElem_map]
  generalize (Ex.pre t)[i] = x at *
  refine ⟨by simp,?_⟩
  have hO:exOk v x = (decide (1 ≤ x.kind) && (decide (x.kind ≤ 17) && (decide (x.name = ⟨#[]⟩) && (decide ((x.l.length:Int) = kids x.kind) && (if x.kind = 1 then decide (0 ≤ x.n) else if x.kind = 2 then decide (0 ≤ x.n) && decide (x.n < v) else decide (x.n = 0)))))):=rfl
  have hch:=sp_chd x.kind
  have ot:occ (.tup []) = []:=by simp [occ]
  by_cases c1:1 ≤ x.kind
  ·have c1':¬ x.kind < 1:=by omega
   by_cases c2:x.kind ≤ 17
   ·have c2':¬ 17 < x.kind:=by omega
    by_cases c3:x.name = ⟨#[]⟩
    ·by_cases c4:(x.l.length:Int) = kids x.kind
     ·rw [decide_eq_true c1,decide_eq_true c2,decide_eq_true c3,decide_eq_true c4] at hO
      by_cases k1:x.kind = 1
      ·by_cases n0:0 ≤ x.n
       ·have n0':¬ x.n < 0:=by omega
        rw [if_pos k1,decide_eq_true n0] at hO
        simp [c1',c2',c3]
        refine scall0_pure hch (by simp) (by simp) ?_
        simp [c1',c2',c3,c4,k1,n0']
        exact hn _ _ _ () (by rw [hj,hO]; simp) (by simp)
       ·have n0':x.n < 0:=by omega
        rw [if_pos k1,decide_eq_false n0] at hO
        rw [hj,hO] at hr
        simp [c1',c2',c3]
        refine scall0_pure hch (by simp) (by simp) ?_
        simp [c1',c2',c3,c4,k1,n0']
        refine hr _ _ ?_
        simp [blkK,thenK,retW_eq]
      ·by_cases k2:x.kind = 2
       ·rw [if_neg k1,if_pos k2] at hO
        by_cases n0:0 ≤ x.n
        ·have n0':¬ x.n < 0:=by omega
         by_cases n1:x.n < v
         ·have n1':¬ v ≤ x.n:=by omega
          rw [decide_eq_true n0,decide_eq_true n1] at hO
          simp [c1',c2',c3]
          refine scall0_pure hch (by simp) (by simp) ?_
          simp [c1',c2',c3,c4,k1,k2,n0',n1']
          exact hn _ _ _ () (by rw [hj,hO]; simp) (by simp)
         ·have n1':v ≤ x.n:=by omega
          rw [decide_eq_true n0,decide_eq_false n1] at hO
          rw [hj,hO] at hr
          simp [c1',c2',c3]
          refine scall0_pure hch (by simp) (by simp) ?_
          simp [c1',c2',c3,c4,k1,k2,n0',n1']
          refine hr _ _ ?_
          simp [blkK,thenK,retW_eq]
        ·have n0':x.n < 0:=by omega
         rw [decide_eq_false n0] at hO
         rw [hj,hO] at hr
         simp [c1',c2',c3]
         refine scall0_pure hch (by simp) (by simp) ?_
         simp [c1',c2',c3,c4,k1,k2,n0']
         refine hr _ _ ?_
         simp [blkK,thenK,retW_eq]
       ·rw [if_neg k1,if_neg k2] at hO
        have k3:2 < x.kind:=by omega
        by_cases n0:x.n = 0
        ·rw [decide_eq_true n0] at hO
         simp [c1',c2',c3]
         refine scall0_pure hch (by simp) (by simp) ?_
         simp [c1',c2',c3,c4,k1,k2,k3,n0]
         exact hn _ _ _ () (by rw [hj,hO]; simp) (by simp)
        ·rw [decide_eq_false n0] at hO
         rw [hj,hO] at hr
         simp [c1',c2',c3]
         refine scall0_pure hch (by simp) (by simp) ?_
         simp [c1',c2',c3,c4,k1,k2,k3,n0]
         refine hr _ _ ?_
         simp [blkK,thenK,retW_eq]
     ·rw [decide_eq_false c4] at hO
      rw [hj,hO] at hr
      simp [c1',c2',c3]
      refine scall0_pure hch (by simp) (by simp) ?_
      simp [c1',c2',c3,c4]
      refine hr _ _ ?_
      simp [blkK,thenK,retW_eq]
    ·rw [decide_eq_false c3] at hO
     rw [hj,hO] at hr
     simp [c1',c2',c3,ot]
     refine hr _ _ ?_
     simp [blkK,thenK,retW_eq]
   ·have c2':17 < x.kind:=by omega
    rw [decide_eq_false c2] at hO
    rw [hj,hO] at hr
    simp [c1',c2',ot]
    refine hr _ _ ?_
    simp [blkK,thenK,retW_eq]
  ·have c1':x.kind < 1:=by omega
   rw [decide_eq_false c1] at hO
   rw [hj,hO] at hr
   simp [c1',ot]
   refine hr _ _ ?_
   simp [blkK,thenK,retW_eq]
 ·rintro vt _ hj
  rw [hj,all_end _ _ _ (by simp)]
  simp [retW_eq,blkK,thenK]
theorem sp_r2r_loop (x:Ex) (v want:Int) (hwn:want = x.l.length) (b:Bool) (hb:b = x.l.all (exRight v)) (hw:x.l.length ≤ 137438953472) (ih:∀ z ∈ x.l,Am.Spec Tryz.prog 94 [.agg (encE z),.int .i64 v] (.bool (exRight v z)))
  (v2:Nat) (T:List (Nat × AV)) (H:List (Nat × Blk)) (vs:Nat → Nat) (hT:Am.subT T [(1,.int .i64 v),(2,.ref 2 v2 (.p 0)),(5,.int .i64 want),(6,.int .i64 0)]) (hH:subA H [(2,.box v2 33 (encE x))]) :
  @sLoop ⟨Am.look T,hls H vs,noG⟩ ⟨fun L0 s=>W94_l7 (retK Tryz.prog [.tmp 4] (.bool b)) L0 s⟩:=by
 subst hb
 refine sLoop_intro (fun i=>i ≤ x.l.length ∧ x.l.all (exRight v) = (x.l.drop i).all (exRight v)) (fun i=>x.l.length - i) (fun i=>[(1,.int .i64 v),(2,.ref 2 v2 (.p 0)),(5,.int .i64 x.l.length),(6,.int .i64 (i:Nat))])
  (fun _=>[(2,.box v2 33 (encE x))]) 0 (by simp) (by simpa [hwn] using hT) (by simpa using hH) ?_
 rintro L i vt ⟨hi,hj⟩ hL
 by_cases h:i < x.l.length
 ·have h':(i:Int) < x.l.length:=by omega
  have hx:=ih _ (List.getElem_mem h)
  rw [all_drop _ _ _ h] at hj
  rw [hj]
  generalize hb:exRight v x.l[i] = b at *
  cases b
  ·simp [h,h']
   refine scall_pure hx (by simp) (by simp) ?_
   simp [retW_eq]
  ·simp [h,h']
   refine scall_pure hx (by simp) (by simp) ?_
   simp
   rw [wrap64 (by omega) (by omega)]
   exact hL _ _ _ (i + 1) ⟨h,by rw [hj]; simp⟩ (by omega) (by simp) (by simp)
 ·have h':¬ (i:Int) < x.l.length:=by omega
  rw [hj,all_end _ _ _ (by omega)]
  simp [h,h',retW_eq]
set_option maxHeartbeats 2000000 in
theorem sp_r2r (x:Ex) (v:Int) (hw:Ex.lok x):Am.Spec Tryz.prog 94 [.agg (encE x),.int .i64 v] (.bool (exRight v x)):=by
 have hlen:=Ex.lok_len hw
 have ih:∀ z ∈ x.l,Am.Spec Tryz.prog 94 [.agg (encE z),.int .i64 v] (.bool (exRight v z)):=fun z hz=>sp_r2r z v (Ex.lok_mem hw hz)
 have hloop:=fun want hwn b hb=>sp_r2r_loop x v want hwn b hb (by omega) ih
 rw [exRight_eq]
 have hO:exOk v x = (decide (1 ≤ x.kind) && (decide (x.kind ≤ 17) && (decide (x.name = ⟨#[]⟩) && (decide ((x.l.length:Int) = kids x.kind) && (if x.kind = 1 then decide (0 ≤ x.n) else if x.kind = 2 then decide (0 ≤ x.n) && decide (x.n < v) else decide (x.n = 0)))))):=rfl
 have leaf:kids x.kind = 0 → x.l.all (exRight v) = true ∨ ¬ (x.l.length:Int) = 0:=fun _=>by
  rcases x.l with _ | ⟨y,l⟩
  ·exact .inl rfl
  ·exact .inr (by simp; omega)
 by_cases c3:x.name = ⟨#[]⟩
 ·rw [decide_eq_true c3] at hO
  by_cases k1:x.kind = 1
  ·have hk:kids x.kind = 0:=by simp [kids,k1]
   rw [hk,if_pos k1,decide_eq_true (show 1 ≤ x.kind by omega),decide_eq_true (show x.kind ≤ 17 by omega)] at hO
   have hlf:=leaf hk
   rw [hO]
   by_cases n0:0 ≤ x.n
   ·by_cases c4:(x.l.length:Int) = 0
    ·have ha:x.l.all (exRight v) = true:=by rcases hlf with h | h; exact h; exact absurd c4 h
     refine W94_S (by simp) ?_
     intro vs
     simp [c3,k1,n0,c4,ha,retW_eq]
    ·have c4':¬ x.l = []:=fun e=>c4 (by rw [e]; rfl)
     refine W94_S (by simp) ?_
     intro vs
     simp [c3,k1,n0,c4,c4',retW_eq]
   ·refine W94_S (by simp) ?_
    intro vs
    simp [c3,k1,n0,retW_eq]
  ·by_cases k2:x.kind = 2
   ·have hk:kids x.kind = 0:=by simp [kids,k2]
    rw [hk,if_neg k1,if_pos k2,decide_eq_true (show 1 ≤ x.kind by omega),decide_eq_true (show x.kind ≤ 17 by omega)] at hO
    have hlf:=leaf hk
    rw [hO]
    by_cases n0:0 ≤ x.n
    ·by_cases n1:x.n < v
     ·by_cases c4:(x.l.length:Int) = 0
      ·have ha:x.l.all (exRight v) = true:=by rcases hlf with h | h; exact h; exact absurd c4 h
       refine W94_S (by simp) ?_
       intro vs
       simp [c3,k1,k2,n0,n1,c4,ha,retW_eq]
      ·have c4':¬ x.l = []:=fun e=>c4 (by rw [e]; rfl)
       refine W94_S (by simp) ?_
       intro vs
       simp [c3,k1,k2,n0,n1,c4,c4',retW_eq]
     ·refine W94_S (by simp) ?_
      intro vs
      simp [c3,k1,k2,n0,n1,retW_eq]
    ·refine W94_S (by simp) ?_
     intro vs
     simp [c3,k1,k2,n0,retW_eq]
   ·rw [if_neg k1,if_neg k2] at hO
    by_cases k34:x.kind = 3 ∨ x.kind = 4
    ·have hk:kids x.kind = 1:=by simp [kids,k1,k2,k34]
     rw [hk,decide_eq_true (show 1 ≤ x.kind by omega),decide_eq_true (show x.kind ≤ 17 by omega)] at hO
     rw [hO]
     by_cases n0:x.n = 0
     ·by_cases c4:(x.l.length:Int) = 1
      ·have hl:=hloop 1 c4.symm _ rfl
       rw [decide_eq_true n0,decide_eq_true c4]
       simp only [Bool.true_and]
       generalize x.l.all (exRight v) = b at *
       rcases k34 with k3 | k4
       ·refine W94_S (by simp) ?_
        intro vs
        simp [-W94_l7,c3,k3,n0,c4]
        exact hl (vs 2 + 1) _ _ _ (by simp) (by simp)
       ·refine W94_S (by simp) ?_
        intro vs
        simp [-W94_l7,c3,k4,n0,c4]
        exact hl (vs 2 + 1) _ _ _ (by simp) (by simp)
      ·rw [decide_eq_false c4]
       simp only [Bool.true_and,Bool.false_and]
       rcases k34 with k3 | k4
       ·refine W94_S (by simp) ?_
        intro vs
        simp [-W94_l7,c3,k3,n0,c4,retW_eq]
       ·refine W94_S (by simp) ?_
        intro vs
        simp [-W94_l7,c3,k4,n0,c4,retW_eq]
     ·rw [decide_eq_false n0]
      simp only [Bool.and_false,Bool.false_and]
      rcases k34 with k3 | k4
      ·refine W94_S (by simp) ?_
       intro vs
       simp [-W94_l7,c3,k3,n0,retW_eq]
      ·refine W94_S (by simp) ?_
       intro vs
       simp [-W94_l7,c3,k4,n0,retW_eq]
    ·have k3:¬ x.kind = 3:=fun h=>k34 (.inl h)
     have k4:¬ x.kind = 4:=fun h=>k34 (.inr h)
     have hk:kids x.kind = 2:=by simp [kids,k1,k2,k3,k4]
     rw [hk] at hO
     by_cases k5:x.kind < 5
     ·have:¬ 1 ≤ x.kind:=by omega
      rw [hO,decide_eq_false this]
      refine W94_S (by simp) ?_
      intro vs
      simp [-W94_l7,c3,k1,k2,k3,k4,k5,retW_eq]
     ·by_cases k17:17 < x.kind
      ·rw [hO,decide_eq_false (show ¬ x.kind ≤ 17 by omega)]
       refine W94_S (by simp) ?_
       intro vs
       simp [-W94_l7,c3,k1,k2,k3,k4,k5,k17,retW_eq]
      ·rw [hO,decide_eq_true (show 1 ≤ x.kind by omega),decide_eq_true (show x.kind ≤ 17 by omega)]
       by_cases n0:x.n = 0
       ·by_cases c4:(x.l.length:Int) = 2
        ·have hl:=hloop 2 c4.symm _ rfl
         rw [decide_eq_true n0,decide_eq_true c4]
         simp only [Bool.true_and]
         generalize x.l.all (exRight v) = b at *
         refine W94_S (by simp) ?_
         intro vs
         simp [-W94_l7,c3,k1,k2,k3,k4,k5,k17,n0,c4]
         exact hl (vs 2 + 1) _ _ _ (by simp) (by simp)
        ·rw [decide_eq_false c4]
         simp only [Bool.true_and,Bool.false_and]
         refine W94_S (by simp) ?_
         intro vs
         simp [-W94_l7,c3,k1,k2,k3,k4,k5,k17,n0,c4,retW_eq]
       ·rw [decide_eq_false n0]
        simp only [Bool.and_false,Bool.false_and]
        refine W94_S (by simp) ?_
        intro vs
        simp [-W94_l7,c3,k1,k2,k3,k4,k5,k17,n0,retW_eq]
 ·rw [hO,decide_eq_false c3]
  refine W94_S (by simp) ?_
  intro vs
  simp [c3,retW_eq]
termination_by SizeOf.sizeOf x
decreasing_by exact Ex.lt_of_mem hz
end Go.Proofs.YtnngddgaobhkiaaGreat
namespace Go.Proofs.YtnngddgaobhkiaaGreat
open Go Go.Am Go.RowKit
attribute [local simp] W110 W110_rs W110_b1 W110_b3 W110_b16 W110_b18 W110_k2 W110_l17 W125 W125_rs W125_k1 W125_k2 W125_k3 W125_b4 W125_b5 W125_b6 W125_b8 W125_b26 W125_l7 W125_l30 W93 W93_rs W93_b1 W93_b3 W93_b4 W93_b6 W93_b8 W93_k2 W93_l7
theorem tailOk_step (s:ByteArray) (i:Nat) (h:i < s.size):tailOk s i = (byteOk s i && tailOk s (i + 1)):=by
 unfold tailOk
 rw [show s.size - i = (s.size - (i + 1)) + 1 by omega,List.range_succ_eq_map,List.all_cons,List.all_map,Nat.add_zero]
 congr 1
 apply List.all_congr rfl
 intro j
 simp only [Function.comp]
 rw [show i + (j + 1) = i + 1 + j by omega]
theorem tailOk_end (s:ByteArray) (i:Nat) (h:s.size ≤ i):tailOk s i = true:=by
 unfold tailOk
 rw [show s.size - i = 0 by omega]
 rfl
theorem dec_small (s:ByteArray) (i:Nat) (h:(s.get! i).toNat < 128):Utf8.decode s i = ((s.get! i).toNat,1):=by
 simp [Utf8.decode,h]
theorem dec_big (s:ByteArray) (i:Nat) (h:¬ (s.get! i).toNat < 128):127 < (Utf8.decode s i).1:=by
 have hr:Utf8.runeError = 65533:=rfl
 unfold Utf8.decode
 simp only [Nat.add_zero]
 rw [if_neg h]
 repeat' split
 all_goals first
  | (simp only [hr]; omega)
  | (simp_all; omega)
theorem isInner_lt (c:Nat) (h:¬ c < 128):isInner c = false:=by
 unfold isInner isSmall isDigit
 simp
 omega
theorem wrap_u8 (c:Nat) (h:c < 128):IntKind.wrap .u8 (c:Int) = (c:Int):=by
 have e:IntKind.wrap .u8 (c:Int) = (c:Int) % 256:=rfl
 rw [e]
 omega
theorem sp_name (s:ByteArray):Am.Spec Tryz.prog 110 [.str s] (.bool (nameOk s)):=by
 by_cases h1:1 ≤ s.size
 ·by_cases h2:s.size ≤ 20
  ·have hk:=sp_key s
   rw [show nameOk s = (!isKey s && tailOk s 0) by simp [nameOk,h1,h2]]
   generalize isKey s = kk at *
   have h1':¬ (s.size:Int) < 1:=by omega
   have h2':¬ (20:Int) < s.size:=by omega
   cases kk
   ·refine W110_S (by simp) ?_
    intro vs
    simp [h1',h2']
    refine scall_pure hk (by simp) (by simp) ?_
    simp [h1',h2']
    refine sLoop_intro (fun i=>i ≤ s.size ∧ tailOk s 0 = tailOk s i) (fun i=>s.size - i) (fun i=>[(18,.ref 18 (vs 18 + 1) (.p 0))]) (fun i=>[(18,.obj (vs 18 + 1) (.siter s i))]) 0 (by simp) (by simp) (by simp) ?_
    rintro L i vt ⟨hi,hj⟩ hL
    by_cases h:i < s.size
    ·have hst:=tailOk_step s i h
     by_cases hb:(s.get! i).toNat < 128
     ·have hd:=dec_small s i hb
      have s1:=sp_sm (s.get! i).toNat
      have i1:=sp_inn (s.get! i).toNat
      have hB:byteOk s i = (isInner (s.get! i).toNat && (decide (0 < i) || isSmall (s.get! i).toNat)):=rfl
      have hbi:¬ (127:Int) < ((s.get! i).toNat:Int):=by omega
      have hw:IntKind.wrap .u8 ((s.get! i).toNat:Int) = ((s.get! i).toNat:Int):=by
       exact wrap_u8 _ hb
      generalize (s.get! i).toNat = c at *
      generalize isSmall c = a1 at *
      generalize isInner c = a2 at *
      by_cases h0:i = 0
      ·subst h0
       rw [hj,hst,hB]
       simp [h,hd,hbi,hw]
       refine scall_pure s1 (by simp) (by simp) ?_
       cases a1
       ·simp [hw,retW_eq]
       ·simp [hw]
        refine scall_pure i1 (by simp) (by simp) ?_
        cases a2
        ·simp [hw,retW_eq]
        ·simp [hw]
         exact hL _ _ _ 1 ⟨by omega,by rw [hj,hst,hB]; simp⟩ (by omega) (by simp) (by simp)
      ·rw [hj,hst,hB]
       have h0':0 < i:=by omega
       simp [h,hd,hbi,hw,h0]
       refine scall_pure i1 (by simp) (by simp) ?_
       cases a2
       ·simp [hw,retW_eq]
       ·simp [hw]
        exact hL _ _ _ (i + 1) ⟨by omega,by rw [hj,hst,hB]; simp [h0']⟩ (by omega) (by simp) (by simp)
     ·have hd:=dec_big s i hb
      have hf:byteOk s i = false:=by unfold byteOk; rw [isInner_lt _ hb]; rfl
      have hd':(127:Int) < (((Utf8.decode s i).1:Nat):Int):=by omega
      rw [hj,hst,hf]
      simp [h,hd',retW_eq]
    ·rw [hj,tailOk_end s i (by omega)]
     simp [h,retW_eq]
   ·refine W110_S (by simp) ?_
    intro vs
    simp [h1',h2']
    refine scall_pure hk (by simp) (by simp) ?_
    simp [h1',h2',retW_eq]
  ·have h2':(20:Int) < s.size:=by omega
   have h1':¬ (s.size:Int) < 1:=by omega
   rw [show nameOk s = false by simp [nameOk,h2]]
   refine W110_S (by simp) ?_
   intro vs
   simp [h1',h2',retW_eq]
 ·have h1':(s.size:Int) < 1:=by omega
  rw [show nameOk s = false by simp [nameOk,h1]]
  refine W110_S (by simp) ?_
  intro vs
  simp [h1',retW_eq]
def keysB:ByteArray:=⟨#[32,118,97,114,32,115,116,97,99,107,32,112,114,111,99,32,115,107,105,112,32,100,111,32,112,117,115,104,32,114,101,118,101,114,115,101,32,97,99,99,101,112,116,32,109,101,114,103,101,32,98,108,111,99,107,32,101,120,105,116,32,105,102,32,101,108,115,101,32,99,104,111,111,115,101,32,112,97,114,32,99,97,108,108,32]⟩
theorem keysB_size:keysB.size = 85:=rfl
def hit (s:ByteArray) (i:Nat):Prop:=keysB[i]? = some 32 ∧ keysB[i + s.size + 1]? = some 32 ∧ keysB.extract (i + 1) (i + 1 + s.size) = s
theorem hit_none (s:ByteArray) (h:∀ j,j + s.size + 2 ≤ 85 → ¬ hit s j):isKey s = false:=by
 have key:∀ w ∈ words,∃ j,j < 85 ∧ j + w.size + 2 ≤ 85 ∧ hit w j:=by unfold hit; decide +kernel
 unfold isKey
 rw [decide_eq_false]
 intro h0
 obtain ⟨j,-,h1,h2⟩:=key s ((idxB_mem words s).1 h0)
 exact h j h1 h2
theorem hit_space (s:ByteArray) (i:Nat) (hi:i < s.size) (h:s.get! i = 32):isKey s = false:=by
 have key:∀ w ∈ words,∀ j,j < w.size → ¬ w.get! j = 32:=by decide +kernel
 unfold isKey
 rw [decide_eq_false]
 intro h0
 exact key s ((idxB_mem words s).1 h0) i hi h
theorem hit_key (s:ByteArray) (i:Nat) (hz:s.size ≤ 20) (h0:0 < s.size) (hi:i + s.size + 2 ≤ 85) (h:hit s i) (hs:∀ j,j < s.size → ¬ s.get! j = 32):isKey s = true:=by
 have key:((List.range 85).all fun i=>(List.range 21).all fun n=>!(decide (0 < n) && (decide (i + n + 2 ≤ 85) && (decide (keysB[i]? = some 32) && decide (keysB[i + n + 1]? = some 32)))) || ((List.range n).any fun j=>decide ((keysB.extract (i + 1) (i + 1 + n)).get! j = 32)) || (words.any fun w=>decide (w = keysB.extract (i + 1) (i + 1 + n)))) = true:=by decide +kernel
 obtain ⟨h1,h2,h3⟩:=h
 have:=List.all_eq_true.1 (List.all_eq_true.1 key i (by simp; omega)) s.size (by simp; omega)
 rw [h3,decide_eq_true h0,decide_eq_true hi,decide_eq_true h1,decide_eq_true h2] at this
 have hn:((List.range s.size).any fun j=>decide (s.get! j = 32)) = false:=by
  rw [List.any_eq_false]
  intro j hj
  simpa using hs j (by simpa using hj)
 rw [hn] at this
 have hm:s ∈ words:=by
  simp only [Bool.and_self,Bool.not_true,Bool.false_or] at this
  obtain ⟨w,hw,e⟩:=List.any_eq_true.1 this
  exact of_decide_eq_true e ▸ hw
 unfold isKey
 rw [decide_eq_true ((idxB_mem words s).2 hm)]
theorem get_of (s:ByteArray) (i:Nat) (h:i < s.size):s[i]? = some (s.get! i):=by
 rw [getElem?_pos s i h]
 refine congrArg some ?_
 show s.data[i] = s.data[i]!
 exact (getElem!_pos s.data i h).symm
theorem sp_rky (s:ByteArray) (hs:s.size ≤ 20):Am.Spec Tryz.prog 125 [.str s] (.bool (isKey s)):=by
 have hK:(⟨#[32,118,97,114,32,115,116,97,99,107,32,112,114,111,99,32,115,107,105,112,32,100,111,32,112,117,115,104,32,114,101,118,101,114,115,101,32,97,99,99,101,112,116,32,109,101,114,103,101,32,98,108,111,99,107,32,101,120,105,116,32,105,102,32,101,108,115,101,32,99,104,111,111,115,101,32,112,97,114,32,99,97,108,108,32]⟩:ByteArray) = keysB:=rfl
 have hsz:=keysB_size
 have h0:=hit_none s
 have h1:=hit_space s
 have h2:=hit_key s
 refine W125_S (by simp) ?_
 intro vs
 simp
 refine sLoop_intro (fun i=>i ≤ 85 ∧ ∀ j,j < i → ¬ hit s j) (fun i=>85 - i) (fun i=>[(0,.str s),(3,.int .i64 (i:Nat))]) (fun i=>[]) 0 (by simp) (by simp) (by simp) ?_
 rintro L i vt ⟨hi,hj⟩ hL
 have w1:IntKind.wrap .i64 ((i:Int) + s.size) = (i:Int) + s.size:=wrap64 (by omega) (by omega)
 have w2:IntKind.wrap .i64 ((i:Int) + s.size + 2) = (i:Int) + s.size + 2:=wrap64 (by omega) (by omega)
 by_cases c1:(i:Int) + s.size + 2 ≤ 85
 ·by_cases c2:0 < s.size
  ·have g1:=get_of keysB i (by omega)
   have g2:=get_of keysB (i + s.size + 1) (by omega)
   have w3:IntKind.wrap .i64 ((i:Int) + s.size + 1) = (i:Int) + s.size + 1:=wrap64 (by omega) (by omega)
   have w4:IntKind.wrap .i64 ((i:Int) + 1) = (i:Int) + 1:=wrap64 (by omega) (by omega)
   have w5:IntKind.wrap .i64 ((i:Int) + 1 + s.size) = (i:Int) + 1 + s.size:=wrap64 (by omega) (by omega)
   have k1:sixV (.str keysB) (.int .i64 (i:Nat)) = some (.int .u8 (keysB.get! i).toNat):=by simp [sixV,g1]
   have k2:sixV (.str keysB) (.int .i64 ((i:Int) + s.size + 1)) = some (.int .u8 (keysB.get! (i + s.size + 1)).toNat):=by
    rw [show (i:Int) + s.size + 1 = ((i + s.size + 1:Nat):Int) by omega]
    simp only [sixV,Int.toNat_natCast,g2]; rw [decide_eq_true (by omega)]; rfl
   have k3:sslV keysB (some (.i64,(i:Int) + 1)) (some (.i64,(i:Int) + 1 + s.size)) = some (.str (keysB.extract (i + 1) (i + 1 + s.size))):=by
    rw [show (i:Int) + 1 + s.size = ((i + 1 + s.size:Nat):Int) by omega,show (i:Int) + 1 = ((i + 1:Nat):Int) by omega]
    simp only [sslV,Option.map_some,Option.getD_some,Int.toNat_natCast]
    rw [decide_eq_true (by omega)]; rfl
   have hh:hit s i ↔ keysB[i]? = some 32 ∧ keysB[i + s.size + 1]? = some 32 ∧ keysB.extract (i + 1) (i + 1 + s.size) = s:=Iff.rfl
   rw [g1,g2] at hh
   have next:¬ hit s i → (i + 1) ≤ 85 ∧ ∀ j,j < i + 1 → ¬ hit s j:=fun hn=>⟨by omega,fun j hj'=>by
    by_cases e:j = i
    ·rw [e]; exact hn
    ·exact hj j (by omega)⟩
   have en:(i:Int) + 1 = ((i + 1:Nat):Int):=by omega
   by_cases d1:(keysB.get! i).toNat = 32
   ·have d1':((keysB.get! i).toNat:Int) = 32:=by omega
    by_cases d2:(keysB.get! (i + s.size + 1)).toNat = 32
    ·have d2':((keysB.get! (i + s.size + 1)).toNat:Int) = 32:=by omega
     by_cases d3:keysB.extract (i + 1) (i + 1 + s.size) = s
     ·have hhit:hit s i:=hh.2 ⟨by rw [show keysB.get! i = 32 from UInt8.toNat_inj.1 d1],by rw [show keysB.get! (i + s.size + 1) = 32 from UInt8.toNat_inj.1 d2],d3⟩
      have h2':=h2 i hs (by omega) (by omega) hhit
      simp [-W125_l7,hK,w1,w2,w3,w4,w5,c1,c2,k1,k2,k3,d1,d2,d3]
      refine sLoop_intro (fun k=>k ≤ s.size ∧ ∀ j,j < k → ¬ s.get! j = 32) (fun k=>s.size - k) (fun k=>[(0,.str s),(4,.int .i64 (k:Nat))]) (fun i=>[]) 0 (by simp) (by simp) (by simp) ?_
      rintro L2 k vt ⟨hk,hkj⟩ hL2
      by_cases c3:k < s.size
      ·have g3:=get_of s k c3
       have k4:sixV (.str s) (.int .i64 (k:Nat)) = some (.int .u8 (s.get! k).toNat):=by simp [sixV,g3]
       have w6:IntKind.wrap .i64 ((k:Int) + 1) = (k:Int) + 1:=wrap64 (by omega) (by omega)
       by_cases d4:(s.get! k).toNat = 32
       ·have d4':((s.get! k).toNat:Int) = 32:=by omega
        rw [h1 k c3 (UInt8.toNat_inj.1 d4)]
        simp [c3,k4,d4',d4,retW_eq]
       ·have d4':¬ ((s.get! k).toNat:Int) = 32:=by omega
        simp [c3,k4,d4',d4,w6]
        exact hL2 _ _ _ (k + 1) ⟨by omega,fun j hj'=>by
         by_cases e:j = k
         ·rw [e]; exact fun e=>d4 (by rw [e]; rfl)
         ·exact hkj j (by omega)⟩ (by omega) (by simp) (by simp)
      ·rw [h2' fun j hj'=>hkj j (by omega)]
       simp [c3,retW_eq]
     ·simp [-W125_l7,hK,w1,w2,w3,w4,w5,c1,c2,k1,k2,k3,d1,d2,d3]
      exact hL _ _ _ (i + 1) (next fun h=>d3 (hh.1 h).2.2) (by omega) (by simp) (by simp)
    ·have d2':¬ ((keysB.get! (i + s.size + 1)).toNat:Int) = 32:=by omega
     simp [-W125_l7,hK,w1,w2,w3,w4,w5,c1,c2,k1,k2,k3,d1,d2,d2']
     exact hL _ _ _ (i + 1) (next fun h=>d2 (by rw [Option.some.inj (hh.1 h).2.1]; rfl)) (by omega) (by simp) (by simp)
   ·have d1':¬ ((keysB.get! i).toNat:Int) = 32:=by omega
    simp [-W125_l7,hK,w1,w2,w3,w4,w5,c1,c2,k1,k2,k3,d1,d1']
    exact hL _ _ _ (i + 1) (next fun h=>d1 (by rw [Option.some.inj (hh.1 h).1]; rfl)) (by omega) (by simp) (by simp)
  ·rw [show isKey s = false by
    have:s = ⟨#[]⟩:=by
     obtain ⟨⟨l⟩⟩:=s
     have:l.length = 0:=by simpa [ByteArray.size] using c2
     rw [List.eq_nil_of_length_eq_zero this]
    rw [this]; decide +kernel]
   simp [-W125_l7,w1,w2,c1,c2,retW_eq]
 ·rw [h0 fun j hj'=>hj j (by omega)]
  simp [-W125_l7,w1,w2,c1,retW_eq]
theorem sp_rnm (s:ByteArray):Am.Spec Tryz.prog 93 [.str s] (.bool (nameOk s)):=by
 by_cases h1:1 ≤ s.size
 ·by_cases h2:s.size ≤ 20
  ·have hk:=sp_rky s h2
   rw [show nameOk s = (!isKey s && tailOk s 0) by simp [nameOk,h1,h2]]
   generalize isKey s = kk at *
   have h1':¬ (s.size:Int) < 1:=by omega
   have h2':¬ (20:Int) < s.size:=by omega
   cases kk
   ·refine W93_S (by simp) ?_
    intro vs
    simp [h1',h2']
    refine scall_pure hk (by simp) (by simp) ?_
    simp [h1',h2']
    refine sLoop_intro (fun i=>i ≤ s.size ∧ tailOk s 0 = tailOk s i) (fun i=>s.size - i) (fun i=>[(0,.str s),(3,.int .i64 (i:Nat))]) (fun i=>[]) 0 (by simp) (by simp) (by simp) ?_
    rintro L i vt ⟨hi,hj⟩ hL
    by_cases h:i < s.size
    ·have hst:=tailOk_step s i h
     have g3:=get_of s i h
     have k4:sixV (.str s) (.int .i64 (i:Nat)) = some (.int .u8 (s.get! i).toNat):=by simp [sixV,g3]
     have w6:IntKind.wrap .i64 ((i:Int) + 1) = (i:Int) + 1:=wrap64 (by omega) (by omega)
     have sw:=sp_wd (s.get! i).toNat (decide ((i:Int) = 0))
     have hB:byteOk s i = (isSmall (s.get! i).toNat || (!(decide ((i:Int) = 0)) && (isDigit (s.get! i).toNat || decide (((s.get! i).toNat:Int) = 95)))):=by
      have h0:decide (0 < i) = !decide ((i:Int) = 0):=by
       by_cases h0:i = 0
       ·simp [h0]
       ·have:0 < i:=by omega
        simp [h0,this]
      unfold byteOk isInner
      rw [h0]
      generalize isSmall (s.get! i).toNat = a1
      generalize isDigit (s.get! i).toNat = a2
      cases a1 <;> simp [Bool.and_comm]
     rw [← hB] at sw
     rw [hj,hst]
     generalize byteOk s i = bb at *
     simp [h,k4]
     refine scall_pure sw (by simp) (by simp) ?_
     cases bb
     ·simp [retW_eq]
     ·simp [w6]
      exact hL _ _ _ (i + 1) ⟨by omega,by rw [hj,hst]; simp⟩ (by omega) (by simp) (by simp)
    ·rw [hj,tailOk_end s i (by omega)]
     simp [h,retW_eq]
   ·refine W93_S (by simp) ?_
    intro vs
    simp [h1',h2']
    refine scall_pure hk (by simp) (by simp) ?_
    simp [h1',h2',retW_eq]
  ·have h2':(20:Int) < s.size:=by omega
   have h1':¬ (s.size:Int) < 1:=by omega
   rw [show nameOk s = false by simp [nameOk,h2]]
   refine W93_S (by simp) ?_
   intro vs
   simp [h1',h2',retW_eq]
 ·have h1':(s.size:Int) < 1:=by omega
  rw [show nameOk s = false by simp [nameOk,h1]]
  refine W93_S (by simp) ?_
  intro vs
  simp [h1',retW_eq]
end Go.Proofs.YtnngddgaobhkiaaGreat
namespace Go.Proofs.YtnngddgaobhkiaaGreat
open Go Go.Am Go.RowKit
attribute [local simp] W81 W81_rs W81_b1 W81_b2 W81_b4 W81_b5 W81_b10 W81_b12 W81_b15 W81_b18 W81_b23 W81_k3 W81_k13 W81_k16 W81_l11 W40 W40_rs
theorem rg_loop (v s p:Int) (t:Tm) (d d':Bool) (hd:d' = (d || decide (t.kind = 3))) (b:Bool) (hb:b = t.l.all fun x=>tmRight v s p x d') (hlen:t.l.length ≤ 137438953472)
  (ih:∀ z ∈ t.l,∀ d,Am.Spec Tryz.prog 81 [.agg [.int .i64 v,.int .i64 s,.int .i64 p],.agg (encT z),.bool d] (.bool (tmRight v s p z d)))
  (v3 v4:Nat) (T:List (Nat × AV)) (H:List (Nat × Blk)) (vs:Nat → Nat) (hT:Am.subT T [(2,.bool d),(3,.ref 3 v3 (.p 0)),(4,.ref 4 v4 (.p 0)),(77,.sl (t.l.map encT)),(78,.int .i64 t.l.length),(79,.int .i64 0)])
  (hH:subA H [(3,.box v3 133 [.int .i64 v,.int .i64 s,.int .i64 p]),(4,.box v4 35 (encT t))]) :
  @sLoop ⟨Am.look T,hls H vs,noG⟩ ⟨fun L0 s=>W81_l11 (retK Tryz.prog [.tmp 6] (.bool b)) L0 s⟩:=by
 subst hb
 refine sLoop_intro (fun i=>i ≤ t.l.length ∧ (t.l.all fun x=>tmRight v s p x d') = (t.l.drop i).all fun x=>tmRight v s p x d') (fun i=>t.l.length - i)
  (fun i=>[(2,.bool d),(3,.ref 3 v3 (.p 0)),(4,.ref 4 v4 (.p 0)),(77,.sl (t.l.map encT)),(78,.int .i64 t.l.length),(79,.int .i64 (i:Nat))])
  (fun _=>[(3,.box v3 133 [.int .i64 v,.int .i64 s,.int .i64 p]),(4,.box v4 35 (encT t))]) 0 (by simp) (by simpa using hT) (by simpa using hH) ?_
 rintro L i vt ⟨hi,hj⟩ hL
 by_cases h:i < t.l.length
 ·have h':(i:Int) < t.l.length:=by omega
  have hx:=ih _ (List.getElem_mem h) d'
  rw [all_drop _ _ _ h] at hj
  rw [hj]
  subst hd
  generalize hb:tmRight v s p t.l[i] (d || decide (t.kind = 3)) = b at *
  cases d
  ·cases b
   ·simp [h,h']
    refine scall_pure hx (by simp) (by simp) ?_
    simp [retW_eq]
   ·simp [h,h']
    refine scall_pure hx (by simp) (by simp) ?_
    simp
    rw [wrap64 (by omega) (by omega)]
    exact hL _ _ _ (i + 1) ⟨h,by rw [hj]; simp⟩ (by omega) (by simp) (by simp)
  ·cases b
   ·simp [h,h']
    refine scall_pure hx (by simp) (by simp) ?_
    simp [retW_eq]
   ·simp [h,h']
    refine scall_pure hx (by simp) (by simp) ?_
    simp
    rw [wrap64 (by omega) (by omega)]
    exact hL _ _ _ (i + 1) ⟨h,by rw [hj]; simp⟩ (by omega) (by simp) (by simp)
 ·have h':¬ (i:Int) < t.l.length:=by omega
  rw [hj,all_end _ _ _ (by omega)]
  simp [h,h',retW_eq]
set_option maxHeartbeats 1000000 in
theorem sp_rg (v s p:Int) (t:Tm) (d:Bool) (hw:t.lok):Am.Spec Tryz.prog 81 [.agg [.int .i64 v,.int .i64 s,.int .i64 p],.agg (encT t),.bool d] (.bool (tmRight v s p t d)):=by
 have hlen:=Tm.lok_len hw
 have ih:∀ z ∈ t.l,∀ d,Am.Spec Tryz.prog 81 [.agg [.int .i64 v,.int .i64 s,.int .i64 p],.agg (encT z),.bool d] (.bool (tmRight v s p z d)):=fun z hz d=>sp_rg v s p z d (Tm.lok_mem hw hz)
 have hloop:=rg_loop v s p t d _ rfl _ rfl hlen ih
 have he:=sp_ert t.e v (Tm.lok_e hw)
 have hsl:shapes.length = 15:=rfl
 have hocc:occLL shapes = []:=occLL_closed rfl
 rw [tmRight_eq]
 generalize (t.l.all fun x=>tmRight v s p x (d || decide (t.kind = 3))) = R at *
 by_cases c0:0 ≤ t.kind
 ·have c0':¬ t.kind < 0:=by omega
  by_cases c1:t.kind ≤ 14
  ·have c1':¬ 15 ≤ t.kind:=by omega
   by_cases c2:d = true ∧ t.kind = 14
   ·obtain ⟨rfl,c2⟩:=c2
    rw [decide_eq_true c2]
    simp only [Bool.and_self,Bool.not_true,Bool.false_and,Bool.and_false]
    refine W81_S (by simp) ?_
    intro vs
    simp [c0']
    refine scall0_pure sp_shp (by simp) (by simp) ?_
    simp [c0',hsl,c2,retW_eq]
   ·have hd2:(d && decide (t.kind = 14)) = false:=by
     cases d
     ·rfl
     ·simp; exact fun h=>c2 ⟨rfl,h⟩
    have hix:=shapes_at t.kind c0 c1
    have h1:=sp_num v s p (kA t.kind) t.a
    have h2:=sp_num v s p (kB t.kind) t.b
    have h3:=sp_non t.e
    have h4:=sp_name t.name
    have hok:tmOk v s p t = (numOk v s p (kA t.kind) t.a && (numOk v s p (kB t.kind) t.b && (decide ((t.l.length:Int) = kL t.kind) && ((if kN t.kind then nameOk t.name else decide (t.name = ⟨#[]⟩)) && (if kE t.kind then exRight v t.e else t.e.none))))):=rfl
    rw [hd2,hok,decide_eq_true c0,decide_eq_true c1]
    simp only [Bool.true_and,Bool.not_false]
    generalize numOk v s p (kA t.kind) t.a = b1 at *
    generalize numOk v s p (kB t.kind) t.b = b2 at *
    generalize exRight v t.e = b5 at *
    generalize nameOk t.name = b4 at *
    generalize t.e.none = b6 at *
    generalize kA t.kind = ka at *
    generalize kB t.kind = kb at *
    generalize kN t.kind = kn at *
    generalize kE t.kind = ke at *
    generalize kL t.kind = kl at *
    simp only [shapeOf] at hix
    cases d
    ·have c3:True:=trivial
     cases kn
     ·cases ke
      ·obtain ⟨C,hC⟩:∃ C,(b1 && (b2 && (decide ((t.l.length:Int) = kl) && (decide (t.name = ⟨#[]⟩) && b6)))) = C:=⟨_,rfl⟩
       have hN:(!b1 || (!b2 || (!decide ((t.l.length:Int) = kl) || (!decide (t.name = ⟨#[]⟩) || !b6)))) = !C:=by rw [← hC]; simp [Bool.not_and]
       simp only [if_true,Bool.false_eq_true,if_false,hC]
       refine W81_S (by simp) ?_
       intro vs
       simp [-W81_l11,c0']
       refine scall0_pure sp_shp (by simp) (by simp) ?_
       simp [-W81_l11,c0',c1',hsl,hocc]
       refine scall0_pure sp_shp (by simp) (by simp) ?_
       simp [-W81_l11,c0',c1',hsl,hocc,hix]
       refine scall0_pure h1 (by simp) (by simp) ?_
       simp [-W81_l11,c0',c1',hsl,hocc,hix]
       refine scall0_pure h2 (by simp) (by simp) ?_
       simp [-W81_l11,c0',c1',hsl,hocc,hix]
       refine scall0_pure h3 (by simp) (by simp) ?_
       simp [-W81_l11,hocc]
       rw [hN]
       cases C
       ·simp [-W81_l11,retW_eq]
       ·simp [-W81_l11]
        exact hloop (vs 3 + 1) (vs 4 + 1) _ _ _ (by simp) (by simp)
      ·obtain ⟨C,hC⟩:∃ C,(b1 && (b2 && (decide ((t.l.length:Int) = kl) && (decide (t.name = ⟨#[]⟩) && b5)))) = C:=⟨_,rfl⟩
       have hN:(!b1 || (!b2 || (!decide ((t.l.length:Int) = kl) || (!decide (t.name = ⟨#[]⟩) || !b5)))) = !C:=by rw [← hC]; simp [Bool.not_and]
       simp only [if_true,Bool.false_eq_true,if_false,hC]
       refine W81_S (by simp) ?_
       intro vs
       simp [-W81_l11,c0']
       refine scall0_pure sp_shp (by simp) (by simp) ?_
       simp [-W81_l11,c0',c1',hsl,hocc]
       refine scall0_pure sp_shp (by simp) (by simp) ?_
       simp [-W81_l11,c0',c1',hsl,hocc,hix]
       refine scall0_pure h1 (by simp) (by simp) ?_
       simp [-W81_l11,c0',c1',hsl,hocc,hix]
       refine scall0_pure h2 (by simp) (by simp) ?_
       simp [-W81_l11,c0',c1',hsl,hocc,hix]
       refine scall0_pure h3 (by simp) (by simp) ?_
       simp [-W81_l11,hocc]
       refine scall_pure he (by simp) (by simp) ?_
       simp [-W81_l11,hocc]
       rw [hN]
       cases C
       ·simp [-W81_l11,retW_eq]
       ·simp [-W81_l11]
        exact hloop (vs 3 + 1) (vs 4 + 1) _ _ _ (by simp) (by simp)
     ·cases ke
      ·obtain ⟨C,hC⟩:∃ C,(b1 && (b2 && (decide ((t.l.length:Int) = kl) && (b4 && b6)))) = C:=⟨_,rfl⟩
       have hN:(!b1 || (!b2 || (!decide ((t.l.length:Int) = kl) || (!b4 || !b6)))) = !C:=by rw [← hC]; simp [Bool.not_and]
       simp only [if_true,Bool.false_eq_true,if_false,hC]
       refine W81_S (by simp) ?_
       intro vs
       simp [-W81_l11,c0']
       refine scall0_pure sp_shp (by simp) (by simp) ?_
       simp [-W81_l11,c0',c1',hsl,hocc]
       refine scall0_pure sp_shp (by simp) (by simp) ?_
       simp [-W81_l11,c0',c1',hsl,hocc,hix]
       refine scall0_pure h1 (by simp) (by simp) ?_
       simp [-W81_l11,c0',c1',hsl,hocc,hix]
       refine scall0_pure h2 (by simp) (by simp) ?_
       simp [-W81_l11,c0',c1',hsl,hocc,hix]
       refine scall0_pure h3 (by simp) (by simp) ?_
       simp [-W81_l11,hocc]
       refine scall_pure h4 (by simp) (by simp) ?_
       simp [-W81_l11,hocc]
       rw [hN]
       cases C
       ·simp [-W81_l11,retW_eq]
       ·simp [-W81_l11]
        exact hloop (vs 3 + 1) (vs 4 + 1) _ _ _ (by simp) (by simp)
      ·obtain ⟨C,hC⟩:∃ C,(b1 && (b2 && (decide ((t.l.length:Int) = kl) && (b4 && b5)))) = C:=⟨_,rfl⟩
       have hN:(!b1 || (!b2 || (!decide ((t.l.length:Int) = kl) || (!b4 || !b5)))) = !C:=by rw [← hC]; simp [Bool.not_and]
       simp only [if_true,Bool.false_eq_true,if_false,hC]
       refine W81_S (by simp) ?_
       intro vs
       simp [-W81_l11,c0']
       refine scall0_pure sp_shp (by simp) (by simp) ?_
       simp [-W81_l11,c0',c1',hsl,hocc]
       refine scall0_pure sp_shp (by simp) (by simp) ?_
       simp [-W81_l11,c0',c1',hsl,hocc,hix]
       refine scall0_pure h1 (by simp) (by simp) ?_
       simp [-W81_l11,c0',c1',hsl,hocc,hix]
       refine scall0_pure h2 (by simp) (by simp) ?_
       simp [-W81_l11,c0',c1',hsl,hocc,hix]
       refine scall0_pure h3 (by simp) (by simp) ?_
       simp [-W81_l11,hocc]
       refine scall_pure h4 (by simp) (by simp) ?_
       simp [-W81_l11,hocc]
       refine scall_pure he (by simp) (by simp) ?_
       simp [-W81_l11,hocc]
       rw [hN]
       cases C
       ·simp [-W81_l11,retW_eq]
       ·simp [-W81_l11]
        exact hloop (vs 3 + 1) (vs 4 + 1) _ _ _ (by simp) (by simp)
    ·have c3:¬ t.kind = 14:=fun h=>c2 ⟨rfl,h⟩
     cases kn
     ·cases ke
      ·obtain ⟨C,hC⟩:∃ C,(b1 && (b2 && (decide ((t.l.length:Int) = kl) && (decide (t.name = ⟨#[]⟩) && b6)))) = C:=⟨_,rfl⟩
       have hN:(!b1 || (!b2 || (!decide ((t.l.length:Int) = kl) || (!decide (t.name = ⟨#[]⟩) || !b6)))) = !C:=by rw [← hC]; simp [Bool.not_and]
       simp only [if_true,Bool.false_eq_true,if_false,hC]
       refine W81_S (by simp) ?_
       intro vs
       simp [-W81_l11,c0',c3]
       refine scall0_pure sp_shp (by simp) (by simp) ?_
       simp [-W81_l11,c0',c1',hsl,hocc,c3]
       refine scall0_pure sp_shp (by simp) (by simp) ?_
       simp [-W81_l11,c0',c1',hsl,hocc,hix,c3]
       refine scall0_pure h1 (by simp) (by simp) ?_
       simp [-W81_l11,c0',c1',hsl,hocc,hix,c3]
       refine scall0_pure h2 (by simp) (by simp) ?_
       simp [-W81_l11,c0',c1',hsl,hocc,hix,c3]
       refine scall0_pure h3 (by simp) (by simp) ?_
       simp [-W81_l11,hocc]
       rw [hN]
       cases C
       ·simp [-W81_l11,retW_eq]
       ·simp [-W81_l11]
        exact hloop (vs 3 + 1) (vs 4 + 1) _ _ _ (by simp) (by simp)
      ·obtain ⟨C,hC⟩:∃ C,(b1 && (b2 && (decide ((t.l.length:Int) = kl) && (decide (t.name = ⟨#[]⟩) && b5)))) = C:=⟨_,rfl⟩
       have hN:(!b1 || (!b2 || (!decide ((t.l.length:Int) = kl) || (!decide (t.name = ⟨#[]⟩) || !b5)))) = !C:=by rw [← hC]; simp [Bool.not_and]
       simp only [if_true,Bool.false_eq_true,if_false,hC]
       refine W81_S (by simp) ?_
       intro vs
       simp [-W81_l11,c0',c3]
       refine scall0_pure sp_shp (by simp) (by simp) ?_
       simp [-W81_l11,c0',c1',hsl,hocc,c3]
       refine scall0_pure sp_shp (by simp) (by simp) ?_
       simp [-W81_l11,c0',c1',hsl,hocc,hix,c3]
       refine scall0_pure h1 (by simp) (by simp) ?_
       simp [-W81_l11,c0',c1',hsl,hocc,hix,c3]
       refine scall0_pure h2 (by simp) (by simp) ?_
       simp [-W81_l11,c0',c1',hsl,hocc,hix,c3]
       refine scall0_pure h3 (by simp) (by simp) ?_
       simp [-W81_l11,hocc]
       refine scall_pure he (by simp) (by simp) ?_
       simp [-W81_l11,hocc]
       rw [hN]
       cases C
       ·simp [-W81_l11,retW_eq]
       ·simp [-W81_l11]
        exact hloop (vs 3 + 1) (vs 4 + 1) _ _ _ (by simp) (by simp)
     ·cases ke
      ·obtain ⟨C,hC⟩:∃ C,(b1 && (b2 && (decide ((t.l.length:Int) = kl) && (b4 && b6)))) = C:=⟨_,rfl⟩
       have hN:(!b1 || (!b2 || (!decide ((t.l.length:Int) = kl) || (!b4 || !b6)))) = !C:=by rw [← hC]; simp [Bool.not_and]
       simp only [if_true,Bool.false_eq_true,if_false,hC]
       refine W81_S (by simp) ?_
       intro vs
       simp [-W81_l11,c0',c3]
       refine scall0_pure sp_shp (by simp) (by simp) ?_
       simp [-W81_l11,c0',c1',hsl,hocc,c3]
       refine scall0_pure sp_shp (by simp) (by simp) ?_
       simp [-W81_l11,c0',c1',hsl,hocc,hix,c3]
       refine scall0_pure h1 (by simp) (by simp) ?_
       simp [-W81_l11,c0',c1',hsl,hocc,hix,c3]
       refine scall0_pure h2 (by simp) (by simp) ?_
       simp [-W81_l11,c0',c1',hsl,hocc,hix,c3]
       refine scall0_pure h3 (by simp) (by simp) ?_
       simp [-W81_l11,hocc]
       refine scall_pure h4 (by simp) (by simp) ?_
       simp [-W81_l11,hocc]
       rw [hN]
       cases C
       ·simp [-W81_l11,retW_eq]
       ·simp [-W81_l11]
        exact hloop (vs 3 + 1) (vs 4 + 1) _ _ _ (by simp) (by simp)
      ·obtain ⟨C,hC⟩:∃ C,(b1 && (b2 && (decide ((t.l.length:Int) = kl) && (b4 && b5)))) = C:=⟨_,rfl⟩
       have hN:(!b1 || (!b2 || (!decide ((t.l.length:Int) = kl) || (!b4 || !b5)))) = !C:=by rw [← hC]; simp [Bool.not_and]
       simp only [if_true,Bool.false_eq_true,if_false,hC]
       refine W81_S (by simp) ?_
       intro vs
       simp [-W81_l11,c0',c3]
       refine scall0_pure sp_shp (by simp) (by simp) ?_
       simp [-W81_l11,c0',c1',hsl,hocc,c3]
       refine scall0_pure sp_shp (by simp) (by simp) ?_
       simp [-W81_l11,c0',c1',hsl,hocc,hix,c3]
       refine scall0_pure h1 (by simp) (by simp) ?_
       simp [-W81_l11,c0',c1',hsl,hocc,hix,c3]
       refine scall0_pure h2 (by simp) (by simp) ?_
       simp [-W81_l11,c0',c1',hsl,hocc,hix,c3]
       refine scall0_pure h3 (by simp) (by simp) ?_
       simp [-W81_l11,hocc]
       refine scall_pure h4 (by simp) (by simp) ?_
       simp [-W81_l11,hocc]
       refine scall_pure he (by simp) (by simp) ?_
       simp [-W81_l11,hocc]
       rw [hN]
       cases C
       ·simp [-W81_l11,retW_eq]
       ·simp [-W81_l11]
        exact hloop (vs 3 + 1) (vs 4 + 1) _ _ _ (by simp) (by simp)
  ·have c1':15 ≤ t.kind:=by omega
   rw [decide_eq_false c1]
   simp only [Bool.false_and,Bool.and_false]
   refine W81_S (by simp) ?_
   intro vs
   simp [c0']
   refine scall0_pure sp_shp (by simp) (by simp) ?_
   simp [c0',hsl,c1',retW_eq]
 ·have c0':t.kind < 0:=by omega
  rw [decide_eq_false c0]
  simp only [Bool.false_and]
  refine W81_S (by simp) ?_
  intro vs
  simp [c0',retW_eq]
termination_by SizeOf.sizeOf t
decreasing_by exact Tm.lt_of_mem hz
theorem sp_tr (t:Tm) (v s p:Int) (hw:t.lok):Am.Spec Tryz.prog 40 [.agg (encT t),.int .i64 v,.int .i64 s,.int .i64 p] (.bool (tmRight v s p t false)):=by
 refine W40_S (by simp) ?_
 intro vs
 simp
 refine scall_pure (sp_rg v s p t false hw) (by simp) (by simp) ?_
 simp [retW_eq]
end Go.Proofs.YtnngddgaobhkiaaGreat
