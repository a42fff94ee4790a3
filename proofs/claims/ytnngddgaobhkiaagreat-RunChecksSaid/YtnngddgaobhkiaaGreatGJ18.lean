import Derived.Test.YtnngddgaobhkiaaGreatGH16
import Derived.Test.YtnngddgaobhkiaaGreatGC11
set_option linter.unusedVariables false
set_option linter.unusedSimpArgs false
namespace Go.Proofs.YtnngddgaobhkiaaGreat
open Go Go.Am Go.RowKit
mutual
def nrx:AV → AV
 | .nils=>.sl []
 | .agg cs=>.agg (nrxL cs)
 | .tup cs=>.tup (nrxL cs)
 | .sl rows=>.sl (nrxLL rows)
 | .slt rows=>.sl (nrxLL rows)
 | a=>a
def nrxL:List AV → List AV
 | []=>[]
 | a :: l=>nrx a :: nrxL l
def nrxLL:List (List AV) → List (List AV)
 | []=>[]
 | r :: l=>nrxL r :: nrxLL l
end
theorem nrxL_map:∀ l,nrxL l = l.map nrx
 | []=>rfl
 | a :: l=>by simp [nrxL,nrxL_map l]
theorem nrxLL_map:∀ l,nrxLL l = l.map nrxL
 | []=>rfl
 | a :: l=>by simp [nrxLL,nrxLL_map l]
theorem R_nrx {C:Ctx} {a:AV} {v:Value} (h:R C a v):R C (nrx a) v:=by
 induction h with
 | agg cs vs hl hh ih=>
  unfold nrx
  refine .agg _ vs (by rw [nrxL_map]; simpa using hl) fun i a ha=>?_
  rw [nrxL_map,List.getElem?_map] at ha
  obtain ⟨b,hb,rfl⟩:=Option.map_eq_some_iff.1 ha
  exact ih i b hb
 | tup cs vs hl hh ih=>
  unfold nrx
  refine .tup _ vs (by rw [nrxL_map]; simpa using hl) fun i a ha=>?_
  rw [nrxL_map,List.getElem?_map] at ha
  obtain ⟨b,hb,rfl⟩:=Option.map_eq_some_iff.1 ha
  exact ih i b hb
 | sl rows A cap g off sz f hA hcap hmax hsz hc hone hh ih=>
  unfold nrx
  have e:(nrxLL rows).length = rows.length:=by rw [nrxLL_map]; simp
  have:=R.sl (C:=C) (nrxLL rows) A cap g off sz f (fun hne=>hA fun e2=>hne (by rw [e2]; rfl)) (by rw [e]; exact hcap) (by rw [e]; exact hmax) (fun r hr=>by
   rw [nrxLL_map] at hr
   obtain ⟨q,hq,rfl⟩:=List.mem_map.1 hr
   rw [nrxL_map,List.length_map]
   exact hsz q hq) (by rw [e]; exact hc) hone (fun i r hr j a ha=>by
   rw [nrxLL_map,List.getElem?_map] at hr
   obtain ⟨q,hq,rfl⟩:=Option.map_eq_some_iff.1 hr
   rw [nrxL_map,List.getElem?_map] at ha
   obtain ⟨b,hb,rfl⟩:=Option.map_eq_some_iff.1 ha
   exact ih i q hq j b hb)
  rw [e] at this
  exact this
 | slt rows g off sz f hA hmax hsz hc hone hh ih=>
  unfold nrx
  have e:(nrxLL rows).length = rows.length:=by rw [nrxLL_map]; simp
  have:=R.slt (C:=C) (nrxLL rows) g off sz f hA (by rw [e]; exact hmax) (fun r hr=>by
   rw [nrxLL_map] at hr
   obtain ⟨q,hq,rfl⟩:=List.mem_map.1 hr
   rw [nrxL_map,List.length_map]
   exact hsz q hq) (by rw [e]; exact hc) hone (fun i r hr j a ha=>by
   rw [nrxLL_map,List.getElem?_map] at hr
   obtain ⟨q,hq,rfl⟩:=Option.map_eq_some_iff.1 hr
   rw [nrxL_map,List.getElem?_map] at ha
   obtain ⟨b,hb,rfl⟩:=Option.map_eq_some_iff.1 ha
   exact ih i q hq j b hb)
  rw [e] at this
  exact this.loose
 | nils=>exact R.nil_sl .nils
 | _=>first | exact R.any _ | (unfold nrx; constructor <;> assumption)
theorem Spec_nrx {P:Program} {f:FuncId} {args:List AV} {r:AV} (h:Am.Spec P f (nrxL args) r):Am.Spec P f args r where
 enters:=h.enters
 calls:=fun w S l vs hS hR=>h.calls w S l vs hS ⟨by rw [nrxL_map]; simpa using hR.1,fun i a ha=>by
  rw [nrxL_map,List.getElem?_map] at ha
  obtain ⟨b,hb,rfl⟩:=Option.map_eq_some_iff.1 ha
  exact R_nrx (hR.2 i b hb)⟩
theorem scall_nrx {P:Program} {f:FuncId} {args caps args':List AV} {d:Option Nat} {s:St} {K:Kt (St → Prop)} {r:AV} (h:Am.Spec P f args' r) (e:nrxL ((args ++ caps).map (pur (frzs s.H args))) = args')
  (hc:closedL ((args ++ caps).map (pur (frzs s.H args))) = true) (k:K.v (s.put d r (frzs s.H args))):@sCall P (.func f caps) args d s K:=
 scall_pure (Spec_nrx (by rw [e]; exact h)) rfl hc k
theorem nrxL_append (a b:List AV):nrxL (a ++ b) = nrxL a ++ nrxL b:=by simp [nrxL_map]
mutual
theorem nrxL_encE:∀ x:Ex,nrxL (encE x) = encE x
 | ⟨k,n,s,l⟩=>by simp [encE,nrxL,nrx,nrxLL_encEs l]
theorem nrxLL_encEs:∀ l:List Ex,nrxLL (encEs l) = encEs l
 | []=>rfl
 | x :: l=>by simp [encEs,nrxLL,nrxL_encE x,nrxLL_encEs l]
end
mutual
theorem nrxL_encT:∀ x:Tm,nrxL (encT x) = encT x
 | ⟨k,a,b,s,e,l⟩=>by simp [encT,nrxL,nrx,nrxL_append,nrxL_encE e,nrxLL_encTs l]
theorem nrxLL_encTs:∀ l:List Tm,nrxLL (encTs l) = encTs l
 | []=>rfl
 | x :: l=>by simp [encTs,nrxLL,nrxL_encT x,nrxLL_encTs l]
end
@[simp] theorem nrxL_encF (f:Cfg):nrxL (encF f) = encF f:=by rw [encF_eq,encSt_Q]; simp [nrxL,nrx,nrxLL_map,encI,nrxL_encE,nrxL_encT,encQ,Function.comp_def]
end Go.Proofs.YtnngddgaobhkiaaGreat
namespace Go.Proofs.YtnngddgaobhkiaaGreat
open Go Go.Am Go.RowKit
attribute [local simp] W57 W57_rs W57_k1 W57_b3 W57_l4
theorem sp_r5z (t:Tm) (hs:t.size < 9223372036854775808):Am.Spec Tryz.prog 57 [.agg (encT t)] (.int .i64 t.size):=by
 refine W57_S (by simp) ?_
 intro vs
 simp [-W57_l4]
 refine sLoop_intro (fun i=>i ≤ t.l.length) (fun i=>t.l.length - i)
  (fun i=>[(1,.ref 1 (vs 1 + 1) (.p 0)),(3,.int .i64 (1 + Tm.sizes (t.l.take i))),(4,.int .i64 (i:Nat))]) (fun _=>[(1,.box (vs 1 + 1) 35 (encT t))]) 0 (by simp) (by simp [Tm.sizes]) (by simp) ?_
 intro L i vs hi hL
 by_cases h:i < t.l.length
 ·have hsz:t.size = 1 + (Tm.sizes (t.l.take i) + (t.l[i].size + Tm.sizes (t.l.drop (i + 1)))):=by
   rw [Tm.size_eq,Tm.sizes_split t.l (i + 1),Tm.sizes_take _ _ h]; omega
  have h1:=Tm.sizes_nonneg (t.l.take i)
  have h2:=Tm.sizes_nonneg (t.l.drop (i + 1))
  have h3:=t.l[i].size_pos
  have h4:=Tm.sizes_length t.l
  have h5:=t.size_eq
  simp [h]
  refine scall_pure (sp_r5z t.l[i] (by omega)) (by simp) (by simp) ?_
  simp
  rw [wrap64 (by omega) (by omega),wrap64 (by omega) (by omega)]
  refine hL _ _ _ (i + 1) h (by omega) ?_ (by simp)
  simp [Tm.sizes_take _ _ h]
  omega
 ·simp [h,retW_eq]
  rw [Tm.size_eq,List.take_of_length_le (by omega)]
termination_by SizeOf.sizeOf t
decreasing_by exact Tm.lt_of_mem (List.getElem_mem h)
end Go.Proofs.YtnngddgaobhkiaaGreat
