import Derived.Test.YtnngddgaobhkiaaGreatGF13
import Derived.Test.YtnngddgaobhkiaaGreatGQ7
set_option linter.unusedVariables false
set_option linter.unusedSimpArgs false
namespace Go.Proofs.YtnngddgaobhkiaaGreat
open Go Go.Am Go.RowKit
attribute [local simp] W106 W106_rs W106_b1 W106_b3 W106_b4 W106_b6 W106_b8 W106_k2 W106_l7 W105 W105_rs W80 W80_rs W39 W39_rs W39_k1 W39_b2 W39_r3
mutual
def preT:Tm → List Tm
 | ⟨k,a,b,n,e,l⟩=>⟨k,a,b,n,e,l⟩ :: preTs l
def preTs:List Tm → List Tm
 | []=>[]
 | x :: l=>preT x ++ preTs l
end
theorem preT_eq (x:Tm):preT x = x :: preTs x.l:=by cases x; rfl
theorem preTs_drop (l:List Tm) (i:Nat) (h:i < l.length):preTs (l.drop i) = preT l[i] ++ preTs (l.drop (i + 1)):=by
 rw [List.drop_eq_getElem_cons h]; rfl
mutual
theorem preT_any:∀ x:Tm,((preT x).any fun y=>decide (y.kind = 14)) = tmAny x
 | ⟨k,a,b,n,e,l⟩=>by simp only [preT,tmAny,List.any_cons,preTs_any l]
theorem preTs_any:∀ l:List Tm,((preTs l).any fun y=>decide (y.kind = 14)) = tmAnys l
 | []=>rfl
 | x :: l=>by simp only [preTs,tmAnys,List.any_append,preT_any x,preTs_any l]
end
theorem sp_rwk (t:Tm) (hw:t.lok):Am.SpecY Tryz.prog 106 [.agg (encT t),.yld] ((preT t).map fun x=>[.agg (encT x)]) (.bool true) (.bool false):=by
 have hl:=Tm.lok_len hw
 refine Am.SpecY.of_W (W:=W106) Tryz.func106 (by kernel_rfl) (by kernel_rfl) (by kernel_rfl) Tryz.ntmps106 W106_eq (rs:=[.tmp 4]) (by kernel_rfl) (by simp) rfl rfl ?_
 intro vs rest
 rw [preT_eq]
 simp [-W106_l7]
 refine scall_yield _ (by simp) rfl (by simp) fun b=>?_
 cases b
 ·simp [retYW]
 ·simp [-W106_l7]
  refine sLoop_introG (fun i=>i ≤ t.l.length) (fun i=>t.l.length - i) (fun i=>[(1,.yld),(12,.sl (t.l.map encT)),(13,.int .i64 t.l.length),(14,.int .i64 (i:Nat))]) (fun _=>[]) (fun i=>⟨(preTs (t.l.drop i)).map (fun x=>[.agg (encT x)]) ++ rest,false⟩) 0 (by simp) (by simp) (by simp) (by simp) ?_
  intro K i vu hi hK
  by_cases h:i < t.l.length
  ·have hx:=List.getElem_mem h
   rw [preTs_drop t.l i h]
   simp [h]
   refine scall_ylds ((preTs (t.l.drop (i + 1))).map (fun x=>[.agg (encT x)]) ++ rest) (sp_rwk t.l[i] (Tm.lok_mem hw hx)) (by simp) (by simp) (by simp) ?_ fun q=>?_
   ·simp
    rw [wrap64 (by omega) (by omega)]
    exact hK _ _ _ _ (i + 1) h (by omega) (by simp) (by simp) rfl
   ·simp [retYW]
  ·have:t.l.drop i = []:=List.drop_of_length_le (by omega)
   rw [this]
   simp [h,retYW,preTs]
termination_by SizeOf.sizeOf t
decreasing_by exact Tm.lt_of_mem hx
theorem sp_nd1 (t:Tm) (hw:t.lok):Am.SpecY Tryz.prog 105 [.yld,.elt (encT t) 0] ((preT t).map fun x=>[.agg (encT x)]) (.tup []) (.tup []):=by
 refine Am.SpecY.of_W (W:=W105) Tryz.func105 (by kernel_rfl) (by kernel_rfl) (by kernel_rfl) Tryz.ntmps105 W105_eq (rs:=[]) (by kernel_rfl) (by simp) rfl rfl ?_
 intro vs rest
 simp
 refine scall_ylds rest (sp_rwk t hw) (by simp) (by simp) (by simp) ?_ fun q=>?_
 ·simp [retYW]
 ·simp [retYW]
theorem sp_nds (t:Tm):Am.Spec Tryz.prog 80 [.agg (encT t)] (.func 105 [.elt (encT t) 0]):=by
 refine W80_S (by simp) ?_
 intro vs
 simp [retW_eq]
theorem sp_rwt (t:Tm) (hw:t.lok):Am.Spec Tryz.prog 39 [.agg (encT t)] (.bool (tmAny t)):=by
 rw [← preT_any]
 refine W39_S (by simp) ?_
 intro vs
 simp
 refine scall_pure (sp_nds t) (by simp) (by simp) ?_
 simp
 refine sRange_introA (α:=Unit) ((preT t).map fun x=>[.agg (encT x)]) (.tup []) (.tup []) (fun i _=>((preT t).any fun y=>decide (y.kind = 14)) = ((preT t).drop i).any fun y=>decide (y.kind = 14))
  (fun _=>[(2,.box (vs 2 + 1) 4 [.bool false])]) () (sp_nd1 t hw) (by simp) (by simp) (by simp) ?_ ?_
 ·rintro i hi _ vt Ψ hj hn hr - -
  have hi':i < (preT t).length:=by simpa using hi
  rw [List.drop_eq_getElem_cons hi',List.any_cons] at hj
  simp only [List.getElem_map]
  generalize (preT t)[i] = x at *
  refine ⟨by simp,?_⟩
  by_cases k:x.kind = 14
  ·rw [hj,decide_eq_true k] at hr
   simp [k]
   refine hr _ _ ?_
   simp [blkK,thenK,retW_eq]
  ·rw [decide_eq_false k,Bool.false_or] at hj
   simp [k]
   exact hn _ _ _ () hj (by simp)
 ·rintro vt _ hj
  rw [hj,List.drop_of_length_le (by simp)]
  simp [retW_eq,blkK,thenK]
end Go.Proofs.YtnngddgaobhkiaaGreat
