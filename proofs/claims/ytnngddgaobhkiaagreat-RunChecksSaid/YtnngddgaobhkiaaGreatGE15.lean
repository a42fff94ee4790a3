import Derived.Test.YtnngddgaobhkiaaGreatGJ12
import Derived.Test.YtnngddgaobhkiaaGreatGQ7
import Derived.Test.YtnngddgaobhkiaaGreatGW8
import Derived.Test.YtnngddgaobhkiaaGreatGW9
import Derived.Test.YtnngddgaobhkiaaGreatGC11
import Derived.Test.YtnngddgaobhkiaaGreatGD10
set_option linter.unusedVariables false
set_option linter.unusedSimpArgs false
namespace Go.Proofs.YtnngddgaobhkiaaGreat
open Go Go.Am Go.RowKit
def aN (t:Tm):Nat:=if t.kind = 12 ∨ t.kind = 7 then 1 else if t.kind = 11 then 2 else 0
def wk (t:Tm) (i:Nat):List Int:=(t.l.take i).flatMap Tm.waits
@[simp] theorem encI_cells' (p:List Int):(∀ x ∈ encI p,x.length = 1 ∧ ∀ c ∈ x,c.cell = true) ↔ True:=⟨fun _=>trivial,fun _=>encI_cell p⟩
end Go.Proofs.YtnngddgaobhkiaaGreat
namespace Go.Proofs.YtnngddgaobhkiaaGreat
open Go Go.Am Go.RowKit
attribute [local simp] W79 W79_rs W79_b1 W79_b3 W79_b4 W79_b6 W79_b8 W79_k2 W79_l7
theorem sp_s2_loop (x y:Ex) (hlm:x.l.length = y.l.length) (hw:x.l.length ≤ 137438953472) (ih:∀ z ∈ x.l,∀ y,Am.Spec Tryz.prog 79 [.agg (encE z),.agg (encE y)] (.bool (Ex.same z y)))
  (v2 v3:Nat) (T:List (Nat × AV)) (H:List (Nat × Blk)) (vs:Nat → Nat) (hT:Am.subT T [(2,.ref 2 v2 (.p 0)),(3,.ref 3 v3 (.p 0)),(5,.int .i64 0)]) (hH:subA H [(2,.box v2 33 (encE x)),(3,.box v3 33 (encE y))]) :
  @sLoop ⟨Am.look T,hls H vs,noG⟩ ⟨fun L0 s=>W79_l7 (retK Tryz.prog [.tmp 4] (.bool (eqL Ex.same x.l y.l))) L0 s⟩:=by
 refine sLoop_intro (fun i=>i ≤ y.l.length ∧ eqL Ex.same x.l y.l = eqL Ex.same (x.l.drop i) (y.l.drop i)) (fun i=>y.l.length - i) (fun i=>[(2,.ref 2 v2 (.p 0)),(3,.ref 3 v3 (.p 0)),(5,.int .i64 (i:Nat))])
  (fun _=>[(2,.box v2 33 (encE x)),(3,.box v3 33 (encE y))]) 0 (by simp) (by simpa using hT) (by simpa using hH) ?_
 rintro L i vt ⟨hi,hj⟩ hL
 by_cases h:i < y.l.length
 ·have hl2:i < x.l.length:=by omega
  have h':(i:Int) < x.l.length:=by omega
  have hd:=eqL_drop Ex.same x.l y.l i hl2 h
  have hx:=ih _ (List.getElem_mem hl2) y.l[i]
  generalize hb:Ex.same x.l[i] y.l[i] = b at *
  cases b
  ·rw [hj,hd]
   simp [h,h',hl2]
   refine scall0_pure hx (by simp) (by simp) ?_
   simp [retW_eq]
  ·simp [h,h',hl2]
   refine scall0_pure hx (by simp) (by simp) ?_
   simp
   rw [wrap64 (by omega) (by omega)]
   exact hL _ _ _ (i + 1) ⟨h,by rw [hj,hd]; simp⟩ (by omega) (by simp) (by simp)
 ·have e:=eqL_end Ex.same x.l y.l i (by omega) hlm
  have h2:¬ i < x.l.length:=by omega
  have h':¬ (i:Int) < x.l.length:=by omega
  rw [hj,e]
  simp [h,h',h2,retW_eq]
theorem sp_s2 (x y:Ex) (hw:x.lok):Am.Spec Tryz.prog 79 [.agg (encE x),.agg (encE y)] (.bool (Ex.same x y)):=by
 have hlen:=Ex.lok_len hw
 have ih:∀ z ∈ x.l,∀ y,Am.Spec Tryz.prog 79 [.agg (encE z),.agg (encE y)] (.bool (Ex.same z y)):=fun z hz y=>sp_s2 z y (Ex.lok_mem hw hz)
 rw [Ex.same_eq]
 by_cases c1:x.kind = y.kind
 ·by_cases c2:x.n = y.n
  ·by_cases c3:x.name = y.name
   ·by_cases c4:x.l.length = y.l.length
    ·have c4':(x.l.length:Int) = y.l.length:=by omega
     rw [decide_eq_true c1,decide_eq_true c2,decide_eq_true c3]
     simp only [Bool.true_and]
     refine W79_S (by simp) ?_
     intro vs
     simp [-W79_l7,c1,c2,c3,c4]
     exact sp_s2_loop x y c4 (by omega) ih (vs 2 + 1) (vs 3 + 1) _ _ _ (by simp) (by simp)
    ·have c4':¬ (x.l.length:Int) = y.l.length:=by omega
     rw [eqL_len _ _ _ c4]
     refine W79_S (by simp) ?_
     intro vs
     simp [c1,c2,c3,c4,c4',retW_eq]
   ·refine W79_S (by simp) ?_
    intro vs
    simp [c1,c2,c3,retW_eq]
  ·refine W79_S (by simp) ?_
   intro vs
   simp [c1,c2,retW_eq]
 ·refine W79_S (by simp) ?_
  intro vs
  simp [c1,retW_eq]
termination_by SizeOf.sizeOf x
decreasing_by exact Ex.lt_of_mem hz
end Go.Proofs.YtnngddgaobhkiaaGreat
namespace Go.Proofs.YtnngddgaobhkiaaGreat
open Go Go.Am Go.RowKit
end Go.Proofs.YtnngddgaobhkiaaGreat
namespace Go.Proofs.YtnngddgaobhkiaaGreat
open Go Go.Am Go.RowKit
attribute [local simp] W110 W110_rs W110_b1 W110_b3 W110_b16 W110_b18 W110_k2 W110_l17 W81 W81_rs W81_b1 W81_b2 W81_b4 W81_b5 W81_b10 W81_b12 W81_b15 W81_b18 W81_b23 W81_k3 W81_k13 W81_k16 W81_l11 W40 W40_rs
def payS:ByteArray:=⟨#[112,97,121]⟩
def wKn:Tm:=⟨14,3,-1,payS,.zero,[]⟩
end Go.Proofs.YtnngddgaobhkiaaGreat
namespace Go.Proofs.YtnngddgaobhkiaaGreat
open Go Go.Am Go.RowKit
end Go.Proofs.YtnngddgaobhkiaaGreat
namespace Go.Proofs.YtnngddgaobhkiaaGreat
open Go Go.Am Go.RowKit
inductive Nil:Nat → Tm → Prop
 | skip:Nil 0 .skip
 | blk {n:Nat} {t:Tm}:Nil n t → Nil (n + 1) (.of 7 [t])
 | seq1 {n:Nat} {t:Tm}:Nil n t → Nil (n + 1) (.of 12 [t,.skip])
 | seq2 {n:Nat} {t:Tm}:Nil n t → Nil (n + 1) (.of 12 [.skip,t])
 | par {n:Nat} {t:Tm}:Nil n t → Nil (n + 1) (.of 11 [t,.skip])
theorem skip_norm':Tm.skip.norm = .skip:=Tm.norm_else (by simp [Tm.skip,Tm.of]) (by simp [Tm.skip,Tm.of])
theorem Nil.norm {n:Nat} {t:Tm} (h:Nil n t):t.norm = .skip:=by
 induction h with
 | skip=>exact skip_norm'
 | @blk n t _ ih=>rw [Tm.norm_one (x:=t) rfl,ih]; rfl
 | @seq1 n t _ ih=>rw [Tm.norm_two (x:=t) (y:=.skip) rfl,ih,skip_norm']; rfl
 | @seq2 n t _ ih=>rw [Tm.norm_two (x:=.skip) (y:=t) rfl,ih,skip_norm']; rfl
 | @par n t _ ih=>rw [Tm.norm_two (x:=t) (y:=.skip) rfl,ih,skip_norm']; rfl
theorem acts_w:∀ l:List Tm,((Tm.acts l).filterMap fun x=>if x.kind = 14 then some x.a else none) = l.flatMap Tm.waits
 | []=>rfl
 | x :: l=>by
  rw [Tm.acts_cons,List.filterMap_append,acts_w l,List.flatMap_cons]
  rfl
theorem of_w (k:Int) (l:List Tm) (hk:k ≠ 14):(Tm.of k l).waits = (Tm.of k l).kidsA.flatMap Tm.waits:=by
 have e:(Tm.of k l).waits = ((Tm.of k l :: Tm.acts (Tm.of k l).kidsA).filterMap fun x=>if x.kind = 14 then some x.a else none):=by unfold Tm.waits; rw [Tm.act_eq]
 rw [e,List.filterMap_cons,if_neg (by simpa [Tm.of] using hk)]
 simp only
 rw [acts_w]
theorem skip_w:Tm.skip.waits = []:=by rw [Tm.skip,of_w _ _ (by omega)]; simp [Tm.kidsA,Tm.of]
theorem Nil.waits {n:Nat} {t:Tm} (h:Nil n t):t.waits = []:=by
 induction h with
 | skip=>exact skip_w
 | @blk n t _ ih=>rw [of_w _ _ (by omega)]; simp [Tm.kidsA,Tm.of,ih]
 | @seq1 n t _ ih=>rw [of_w _ _ (by omega)]; simp [Tm.kidsA,Tm.of,ih]
 | @seq2 n t _ ih=>rw [of_w _ _ (by omega)]; simp [Tm.kidsA,Tm.of,skip_w]
 | @par n t _ ih=>rw [of_w _ _ (by omega)]; simp [Tm.kidsA,Tm.of,ih,skip_w]
theorem Nil.wt {n:Nat} {t:Tm} (h:Nil n t):t.wt ≤ 2 + 4 * n:=by
 induction h with
 | skip=>simp [Tm.skip,Tm.of,Tm.wt,Ex.zero_wt,Tm.wts]
 | @blk n t _ ih=>simp only [Tm.of,Tm.wt,Ex.zero_wt,Tm.wts]; omega
 | @seq1 n t _ ih=>simp only [Tm.skip,Tm.of,Tm.wt,Ex.zero_wt,Tm.wts]; omega
 | @seq2 n t _ ih=>simp only [Tm.skip,Tm.of,Tm.wt,Ex.zero_wt,Tm.wts]; omega
 | @par n t _ ih=>simp only [Tm.skip,Tm.of,Tm.wt,Ex.zero_wt,Tm.wts]; omega
def exT:Tm:=.of 8 []
structure Bx (c:List AV) (t:Tm):Prop where
 len:c.length = 9
 rd:readA c 0 9 true = some (.agg c)
 pur:∀ H:Heap,c.map (pur0 H) = encT t
 frz:∀ H:Heap,c.foldl frz0 H = H
theorem Bx.nine {c:List AV} (h:c.length = 9):readA c 0 9 true = some (.agg c):=by rw [← h]; simp [readA]
theorem bx_of (k:Int) (rows:List (List AV)) (l:List Tm) (h:rows = l.map encT):Bx [.int .i64 k,.int .i64 0,.int .i64 0,.str ⟨#[]⟩,.int .i64 0,.int .i64 0,.str ⟨#[]⟩,.nils,.slt rows] (.of k l):=
 ⟨rfl,Bx.nine rfl,fun H=>by rw [encT_of,h]; simp,fun H=>by simp⟩
end Go.Proofs.YtnngddgaobhkiaaGreat
