import Derived.Test.YtahchfkmpcfefaaGA0
import Derived.Laws.StructEq
import Derived.ChangeKeysEq
set_option linter.unusedVariables false
set_option linter.unusedSimpArgs false
namespace Go.Am
open Go.RowKit
theorem foldl_set (vs:List Value):∀ (k off:Nat) (cs:Array Value),off + k + vs.length ≤ cs.size →
  ((vs.zipIdx k).foldl (fun cs (p:Value × Nat)=>cs.setIfInBounds (off + p.2) p.1) cs).toList = cs.toList.take (off + k) ++ vs ++ cs.toList.drop (off + k + vs.length):=by
 induction vs with
 | nil=>intro k off cs h; simp
 | cons v vs ih=>
  intro k off cs h
  simp only [List.length_cons] at h
  rw [List.zipIdx_cons,List.foldl_cons,ih (k + 1) off _ (by simp; omega)]
  simp only [Array.toList_setIfInBounds,List.length_cons]
  have hlt:off + k < cs.toList.length:=by simp; omega
  have e1:(cs.toList.set (off + k) v).take (off + (k + 1)) = cs.toList.take (off + k) ++ [v]:=by
   rw [← Nat.add_assoc,List.take_succ_eq_append_getElem (by simpa using hlt),List.take_set_of_le (by omega)]
   simp
  have e2:(cs.toList.set (off + k) v).drop (off + (k + 1) + vs.length) = cs.toList.drop (off + k + (vs.length + 1)):=by
   rw [List.drop_set_of_lt (by omega)]
   congr 1
   omega
  rw [e1,e2]
  simp
def fillA (place:Nat → Option (Nat × Nat)):List AV → List (Nat × AV) → Option (List AV)
 | cells,[]=>some cells
 | cells,(i,x) :: rest=>match place i with
  | none=>none
  | some (o,n)=>if okCells x.cells = true ∧ x.cells.length = n ∧ o + n ≤ cells.length then fillA place (setL cells o x.cells) rest else none
theorem fillA_sound {C:Ctx} (place:Nat → Option (Nat × Nat)):∀ (ps:List (Nat × AV)) (qs:List (Nat × Value)) (cells cells':List AV) (cs:Array Value),cs.size = cells.length → Holds C cs cells →
  qs.map (·.1) = ps.map (·.1) → (∀ (i:Nat) (p:Nat × AV) (q:Nat × Value),ps[i]? = some p → qs[i]? = some q → R C p.2 q.2) → fillA place cells ps = some cells' →
  ∃ cs',Instr.fill place cs qs = some cs' ∧ cs'.size = cells'.length ∧ Holds C cs' cells'
 | [],qs,cells,cells',cs,hs,hh,he,_,hf=>by
  cases qs with
  | nil=>cases hf; exact ⟨cs,rfl,hs,hh⟩
  | cons q qs=>simp at he
 | (i,x) :: ps,qs,cells,cells',cs,hs,hh,he,hR,hf=>by
  cases qs with
  | nil=>simp at he
  | cons q qs=>
   obtain ⟨j,v⟩:=q
   simp only [List.map_cons,List.cons.injEq] at he
   obtain ⟨rfl,he⟩:=he
   unfold fillA at hf
   cases hp:place j with
   | none=>rw [hp] at hf; cases hf
   | some on=>
    obtain ⟨o,n⟩:=on
    rw [hp] at hf
    dsimp only at hf
    split at hf
    ·rename_i hc
     obtain ⟨hok,hxl,hle⟩:=hc
     have hx:R C x v:=hR 0 _ _ rfl rfl
     obtain ⟨g1,g2⟩:=hx.holds hok
     have hset:(v.cells.zipIdx.foldl (fun cs (p:Value × Nat)=>cs.setIfInBounds (o + p.2) p.1) cs) = (cs.toList.take o ++ v.cells.toList ++ cs.toList.drop (o + v.cells.toList.length)).toArray:=by
      apply Array.toList_inj.1
      have:=foldl_set v.cells.toList 0 o cs (by rw [Array.length_toList]; omega)
      simp only [Nat.add_zero] at this
      rw [← this,← Array.foldl_toList,Array.toList_zipIdx]
     obtain ⟨cs',r1,r2,r3⟩:=fillA_sound place ps qs _ cells' (cs.toList.take o ++ v.cells.toList ++ cs.toList.drop (o + v.cells.toList.length)).toArray
      (by simp only [List.size_toArray,List.length_append,List.length_take,List.length_drop,Array.length_toList]; rw [setL_length _ _ _ (by omega)]; omega)
      (Holds.set hh (us:=v.cells.toList) (by rw [Array.length_toList]; omega) (by simpa using g2) (by omega) (by omega)) he (fun i p q hp hq=>hR (i + 1) p q hp hq) hf
     refine ⟨cs',?_,r2,r3⟩
     unfold Instr.fill
     rw [hp]
     dsimp only
     have hnb:(decide (v.cells.size ≠ n) || decide (o + v.cells.size > cs.size)) = false:=by
      rw [Bool.or_eq_false_iff]
      exact ⟨decide_eq_false (by omega),decide_eq_false (by omega)⟩
     rw [hnb]
     simp only [Bool.false_eq_true,if_false]
     rw [← r1,← hset]
    ·cases hf
theorem R_agg_of {C:Ctx} {cs:Array Value} {cells:List AV} (hs:cs.size = cells.length) (hh:Holds C cs cells):R C (.agg cells) (.agg cs):=by
 have:=R.agg (C:=C) cells cs.toList (by simpa using hs) (fun i a ha=>by
  obtain ⟨v,hv,hr,_⟩:=hh i a ha
  rw [List.getD_eq_getElem?_getD,Array.getElem?_toList,hv]
  exact hr)
 simpa using this
def placeOf (P:Program) (t:TypeId):Nat → Option (Nat × Nat):=fun i=>match arOf P t with
 | some (_,e)=>(szOf P e).map fun n=>(i * n,n)
 | none=>fldOf P t i
theorem mapM_fields {P:Program} (w:World) (l:List Field) (h:∀ x ∈ l,∃ n,szOf P x.type = some n) :
  (l.mapM fun f=>(do pure (f.offset,← sizeOf f.type):Sem (Nat × Nat))).run P w = .ok (l.map fun f=>(f.offset,(szOf P f.type).getD 0)) w:=by
 induction l with
 | nil=>rfl
 | cons x l ih=>
  obtain ⟨n,hn⟩:=h x (by simp)
  rw [List.mapM_cons]
  simp only [Sem.run_bind,run_sz w hn,Result.andThen_ok,Sem.run_pure,ih fun y hy=>h y (by simp [hy])]
  simp [hn]
def fldsOk (P:Program) (t:TypeId):Bool:=match P.underlying t with
 | some (.struct fs)=>fs.toList.all fun f=>(szOf P f.type).isSome
 | some (.array _ e)=>(szOf P e).isSome
 | _=>false
theorem run_build {P:Program} {t:TypeId} {z:Value} (hz:zeroOf P t = some z) (hok:fldsOk P t = true) {C:Ctx} (hzc:okCells (ofVal z).cells = true) {ps:List (Nat × AV)} {qs:Array (Nat × Value)} {cells:List AV}
  (he:qs.toList.map (·.1) = ps.map (·.1)) (hR:∀ (i:Nat) (p:Nat × AV) (q:Nat × Value),ps[i]? = some p → qs.toList[i]? = some q → R C p.2 q.2) (hf:fillA (placeOf P t) (ofVal z).cells ps = some cells) :
  ∃ u,(Instr.build t qs).run P C.w = .ok u C.w ∧ R C (.agg cells) u:=by
 obtain ⟨g1,g2⟩:=(R_ofVal C z).holds hzc
 obtain ⟨cs',r1,r2,r3⟩:=fillA_sound (placeOf P t) ps qs.toList _ cells z.cells g1 g2 he hR hf
 refine ⟨.agg cs',?_,R_agg_of r2 r3⟩
 unfold Instr.build
 simp only [Sem.run_bind,run_zero C.w hz,Result.andThen_ok]
 unfold fldsOk at hok
 split at hok
 ·rename_i fs hu
  obtain ⟨l,rfl⟩:∃ l:List Field,fs = l.toArray:=⟨fs.toList,by simp⟩
  have har:arOf P t = none:=by simp [arOf,hu]
  simp only [run_underlying hu,Result.andThen_ok]
  have hok':∀ x ∈ l,∃ n,szOf P x.type = some n:=fun x hx=>Option.isSome_iff_exists.1 (List.all_eq_true.1 hok x (by simpa using hx))
  have hm:(l.toArray.mapM fun f=>(do pure (f.offset,← sizeOf f.type):Sem (Nat × Nat))).run P C.w = .ok (l.map fun f=>(f.offset,(szOf P f.type).getD 0)).toArray C.w:=by
   rw [List.mapM_toArray]
   simp only [Sem.run_map,mapM_fields C.w l hok',Result.andThen_ok]
  simp only [Sem.run_bind,hm,Result.andThen_ok]
  have hpl:(fun i=>((l.map fun f=>(f.offset,(szOf P f.type).getD 0)).toArray)[i]?) = placeOf P t:=by
   funext i
   unfold placeOf
   rw [har]
   unfold fldOf
   rw [hu]
   simp only [List.getElem?_toArray,List.getElem?_map]
   cases hx:l[i]? with
   | none=>rfl
   | some x=>
    obtain ⟨n,hn⟩:=hok' x (List.mem_of_getElem? hx)
    simp [hn]
  rw [hpl,r1]
  rfl
 ·rename_i len e hu
  obtain ⟨n,hn⟩:=Option.isSome_iff_exists.1 hok
  simp only [run_underlying hu,Result.andThen_ok,Sem.run_bind,run_sz C.w hn]
  have hpl:(fun i=>some (i * n,n)) = placeOf P t:=by
   funext i
   simp [placeOf,arOf,hu,hn]
  rw [hpl,r1]
  rfl
 ·cases hok
def fillR (n:Nat):List (List AV) → List (Nat × AV) → Option (List (List AV))
 | rows,[]=>some rows
 | rows,(i,x) :: rest=>if okCells x.cells = true ∧ x.cells.length = n ∧ i < rows.length then fillR n (rows.set i x.cells) rest else none
theorem fillR_fillA {n:Nat}:∀ (ps:List (Nat × AV)) (rows rows':List (List AV)),(∀ r ∈ rows,r.length = n) → fillR n rows ps = some rows' →
  fillA (fun i=>some (i * n,n)) rows.flatten ps = some rows'.flatten ∧ (∀ r ∈ rows',r.length = n) ∧ rows'.length = rows.length
 | [],rows,rows',h,hf=>by cases hf; exact ⟨rfl,h,rfl⟩
 | (i,x) :: ps,rows,rows',h,hf=>by
  unfold fillR at hf
  split at hf
  ·rename_i hc
   obtain ⟨hok,hxl,hi⟩:=hc
   have hri:rows[i]? = some rows[i]:=List.getElem?_eq_getElem hi
   have hfl:rows.flatten.length = rows.length * n:=flatten_length h
   have hle:i * n + n ≤ rows.length * n:=by
    have:(i + 1) * n ≤ rows.length * n:=Nat.mul_le_mul_right _ hi
    rwa [Nat.add_mul,Nat.one_mul] at this
   have h':∀ r ∈ rows.set i x.cells,r.length = n:=fun r hr=>by
    rcases List.mem_or_eq_of_mem_set hr with hm | rfl
    ·exact h r hm
    ·exact hxl
   obtain ⟨q1,q2,q3⟩:=fillR_fillA ps _ rows' h' hf
   refine ⟨?_,q2,by rw [q3,List.length_set]⟩
   unfold fillA
   dsimp only
   rw [if_pos ⟨hok,hxl,by omega⟩]
   rw [← q1,flatten_set h hri,setL_eq _ _ _ (by omega),hxl]
  ·cases hf
theorem replicate_flatten_zero (z:List AV) (len:Nat):(List.replicate len z).flatten.length = len * z.length:=by
 rw [flatten_length (sz:=z.length) (fun r hr=>by rw [(List.mem_replicate.1 hr).2]),List.length_replicate]
def zeroRow (z:Array Value) (len:Nat):Array Value:=(Array.range (len * z.size)).map (z[· % z.size]!)
theorem zeroRow_holds {C:Ctx} {z:Value} (hz:okCells (ofVal z).cells = true) (len:Nat):(zeroRow z.cells len).size = (List.replicate len (ofVal z).cells).flatten.length ∧ Holds C (zeroRow z.cells len) (List.replicate len (ofVal z).cells).flatten:=by
 obtain ⟨g1,g2⟩:=(R_ofVal C z).holds hz
 have hsz:(zeroRow z.cells len).size = len * z.cells.size:=by simp [zeroRow]
 refine ⟨by rw [hsz,replicate_flatten_zero,g1],fun i a ha=>?_⟩
 have hlt:i < len * z.cells.size:=by
  have:=(List.getElem?_eq_some_iff.1 ha).1
  rwa [replicate_flatten_zero,← g1] at this
 have hpos:0 < z.cells.size:=by
  rcases Nat.eq_zero_or_pos z.cells.size with h0 | h0
  ·rw [h0] at hlt; simp at hlt
  ·exact h0
 have hd:i = i / z.cells.size * z.cells.size + i % z.cells.size:=by rw [Nat.mul_comm]; exact (Nat.div_add_mod i z.cells.size).symm
 have hdl:i / z.cells.size < len:=by rwa [Nat.div_lt_iff_lt_mul hpos]
 have hm:i % z.cells.size < z.cells.size:=Nat.mod_lt _ hpos
 have hu:∀ r ∈ List.replicate len (ofVal z).cells,r.length = z.cells.size:=fun r hr=>by rw [(List.mem_replicate.1 hr).2,g1]
 have hrow:(List.replicate len (ofVal z).cells)[i / z.cells.size]? = some (ofVal z).cells:=by rw [List.getElem?_replicate,if_pos hdl]
 rw [hd,flatten_get hu hrow hm] at ha
 obtain ⟨v,h1,h2,h3⟩:=g2 _ a ha
 refine ⟨v,?_,h2,h3⟩
 have e1:(zeroRow z.cells len)[i]? = some (z.cells[i % z.cells.size]!):=by
  unfold zeroRow
  rw [Array.getElem?_map,Array.getElem?_range,if_pos hlt]
  rfl
 rw [e1,getElem!_pos z.cells _ hm]
 rw [Array.getElem?_eq_getElem hm] at h1
 exact h1
theorem flatten_replicate_prefix (z:List AV) {l c:Nat} (h:l ≤ c) {i:Nat} {a:AV} (ha:(List.replicate l z).flatten[i]? = some a):(List.replicate c z).flatten[i]? = some a:=by
 obtain ⟨k,rfl⟩:=Nat.exists_eq_add_of_le h
 rw [← List.replicate_append_replicate,List.flatten_append,List.getElem?_append_left (List.getElem?_eq_some_iff.1 ha).1]
 exact ha
theorem run_makeSlice {P:Program} {t e:TypeId} {n b len cap:Nat} {z:Value} (he:elOf P t = some e) (hn:szOf P e = some n) (hb:byOf P e = some b) (hz:zeroOf P e = some z) (hzc:okCells (ofVal z).cells = true) (hzn:(ofVal z).cells.length = n)
  (kl kc:IntKind) (hlc:len ≤ cap) (hlim:b * cap ≤ 281474976710656) (h63:cap ≤ maxLen) {C:Ctx} :
  ∃ cs,(Instr.makeSlice t (.int kl len) (.int kc cap)).run P C.w = .ok (.slice (some ⟨C.w.heap.size,0,none⟩) len cap) (C.w.alloc (.cells cs e)) ∧ cs.size = cap * n ∧ Holds C cs (List.replicate len (ofVal z).cells).flatten:=by
 obtain ⟨i,hi,hzi⟩:=Option.bind_eq_some_iff.1 hz
 have hni:i.size = n:=by unfold szOf at hn; rw [hi] at hn; simpa using hn
 have hbi:i.bytes = b:=by unfold byOf at hb; rw [hi] at hb; simpa using hb
 obtain ⟨g3,_⟩:=(R_ofVal C z).holds hzc
 have hzs:z.cells.size = n:=by rw [g3,hzn]
 obtain ⟨g1,g2⟩:=zeroRow_holds (C:=C) hzc cap
 have h1:(i.bytes:Int) * (cap:Int) ≤ 281474976710656:=by
  rw [hbi]
  have h:((b * cap:Nat):Int) ≤ 281474976710656:=by omega
  rwa [Int.natCast_mul] at h
 have h2:(cap:Int) ≤ 9223372036854775807:=by
  simp [maxLen] at h63
  omega
 have hr:=run_make (P:=P) C.w t e i z (elOf_iff he) hi hzi kl kc len cap (by omega) (by omega) h1 h2
 simp only [Int.toNat_natCast] at hr
 have e1:madeCells z.cells (cap * i.size) = zeroRow z.cells cap:=by
  unfold madeCells zeroRow
  rw [hni,hzs]
 rw [e1] at hr
 exact ⟨_,hr,by rw [g1,replicate_flatten_zero,hzn],fun j a ha=>g2 j a (flatten_replicate_prefix _ hlc ha)⟩
theorem run_buildSlice {P:Program} {t e:TypeId} {n len:Nat} {z:Value} (he:elOf P t = some e) (hn:szOf P e = some n) (hz:zeroOf P e = some z) (hzc:okCells (ofVal z).cells = true) (hzn:(ofVal z).cells.length = n) (hlim:len * n ≤ 2 ^ 24) {C:Ctx}
  {ps:List (Nat × AV)} {qs:Array (Nat × Value)} {rows:List (List AV)} (hq:qs.toList.map (·.1) = ps.map (·.1)) (hR:∀ (i:Nat) (p:Nat × AV) (q:Nat × Value),ps[i]? = some p → qs.toList[i]? = some q → R C p.2 q.2)
  (hf:fillR n (List.replicate len (ofVal z).cells) ps = some rows) :
  ∃ cs,(Instr.buildSlice t len qs).run P C.w = .ok (.slice (some ⟨C.w.heap.size,0,none⟩) len len) (C.w.alloc (.cells cs e)) ∧ cs.size = len * n ∧ Holds C cs rows.flatten ∧ (∀ r ∈ rows,r.length = n) ∧ rows.length = len:=by
 obtain ⟨q1,q2,q3⟩:=fillR_fillA ps _ rows (fun r hr=>by rw [(List.mem_replicate.1 hr).2,hzn]) hf
 obtain ⟨g1,g2⟩:=zeroRow_holds (C:=C) hzc len
 obtain ⟨g3,g4⟩:=(R_ofVal C z).holds hzc
 obtain ⟨cs,r1,r2,r3⟩:=fillA_sound _ ps qs.toList _ _ _ g1 g2 hq hR q1
 refine ⟨cs,?_,by rw [r2,flatten_length q2,q3,List.length_replicate],r3,q2,by rw [q3,List.length_replicate]⟩
 unfold Instr.buildSlice
 simp only [Sem.run_bind,run_underlying (elOf_iff he),Result.andThen_ok,run_sz C.w hn]
 rw [if_neg (by omega)]
 have hzs:z.cells.size = n:=by rw [g3,hzn]
 by_cases h0:len * n = 0
 ·rw [if_pos h0]
  have hcells:((Array.range (len * n)).map ((#[]:Array Value)[· % (#[]:Array Value).size]!)) = zeroRow z.cells len:=by
   unfold zeroRow
   rw [hzs]
   simp [h0]
  simp only [Sem.run_bind,Sem.run_pure,Result.andThen_ok,hcells,r1]
  simp [newRow,newObj,Sem.run]
 ·rw [if_neg h0]
  have hcells:((Array.range (len * n)).map (z.cells[· % z.cells.size]!)) = zeroRow z.cells len:=by
   unfold zeroRow
   rw [hzs]
  simp only [Sem.run_bind,run_zero C.w hz,Sem.run_pure,Result.andThen_ok,hcells,r1]
  simp [newRow,newObj,Sem.run]
end Go.Am
namespace Go.Am
open Go.RowKit
def Src (C:Ctx) (v:Value) (n:Nat) (rows:List (List AV)):Prop:=
 ∃ (A:Option Addr) (cap:Nat) (news:List Value),v = .slice A rows.length cap ∧ news.length = rows.length * n ∧ (∀ ad,A = some ad → ∀ j u,news[j]? = some u → C.w.cell? (ad.add j) = some u) ∧ (rows ≠ [] → A ≠ none) ∧ Holds C news.toArray rows.flatten ∧ (∀ u ∈ news,u.oneCell' = true) ∧
  (∀ r ∈ rows,r.length = n)
theorem Holds.src {C:Ctx} {g:Nat} {cs:Array Value} {t:TypeId} {fr:Nat × Nat} {rows:List (List AV)} {n cap:Nat} (hg:C.w.heap[g]? = some (.cells cs t fr)) (hh:Holds C cs rows.flatten) (hr:∀ r ∈ rows,r.length = n) :
  Src C (.slice (some ⟨g,0,none⟩) rows.length cap) n rows:=by
 have hfl:=flatten_length hr
 have hle:rows.flatten.length ≤ cs.size:=by
  rcases Nat.eq_zero_or_pos rows.flatten.length with h0 | h0
  ·omega
  ·obtain ⟨v,hv,_⟩:=hh (rows.flatten.length - 1) rows.flatten[rows.flatten.length - 1] (List.getElem?_eq_getElem (by omega))
   have:=(Array.getElem?_eq_some_iff.1 hv).1
   omega
 have key:∀ j,j < rows.flatten.length → (cs.toList.take rows.flatten.length)[j]? = cs[j]?:=fun j hj=>by rw [List.getElem?_take,if_pos hj,Array.getElem?_toList]
 have hH:Holds C (cs.toList.take rows.flatten.length).toArray rows.flatten:=fun i a ha=>by
  obtain ⟨v,hv,h2⟩:=hh i a ha
  exact ⟨v,by rw [List.getElem?_toArray,key i (List.getElem?_eq_some_iff.1 ha).1,hv],h2⟩
 have e3:cs.toList.length = cs.size:=by simp
 refine ⟨some ⟨g,0,none⟩,cap,cs.toList.take rows.flatten.length,rfl,by rw [List.length_take,← hfl]; omega,fun ad e j u hj=>?_,fun _=>by simp,hH,?_,hr⟩
 ·cases e
  have hlt:j < rows.flatten.length:=by
   have:=(List.getElem?_eq_some_iff.1 hj).1
   rw [List.length_take] at this
   omega
  rw [addr_add,Nat.zero_add,cell_of_row C.w g j cs t fr hg,← key j hlt]
  exact hj
 ·have:=hH.one (by rw [List.size_toArray,List.length_take]; omega)
  simpa using this
section
variable {E : Env} {s : St} {a : Act} {w : World} {S : Nat → Prop} {own : Nat → Option Nat} {C D : Nat → Prop} {Ds : List Nat}
def srcA (H:Heap) (n:Nat):AV → Option (List (List AV))
 | .sl rows=>if (rows.all fun r=>r.length == n && okCells r) then some rows else none
 | .slt rows=>if (rows.all fun r=>r.length == n && okCells r) then some rows else none
 | .nils=>some []
 | .ref k ver .o=>match H k with
  | some (.row v _ sz rows)=>if v = ver ∧ sz = n then some rows else none
  | some (.froz v rows)=>if v = ver ∧ (rows.all fun r=>r.length == n && okCells r) = true then some rows else none
  | _=>none
 | _=>none
theorem R.src {C:Ctx} {rows:List (List AV)} {v:Value} (h:R C (.sl rows) v) {n:Nat} (ha:(rows.all fun r=>r.length == n && okCells r) = true):Src C v n rows:=by
 have hr:∀ r ∈ rows,r.length = n ∧ okCells r = true:=fun r hr=>by simpa using List.all_eq_true.1 ha r hr
 cases h with
 | sl _ A cap g off sz f hA hcap hmax hsz hc hone hh=>
  have e1:rows ≠ [] → sz = n:=fun hne=>by
   obtain ⟨r,hm⟩:=List.exists_mem_of_ne_nil rows hne
   rw [← hsz r hm,(hr r hm).1]
  have hfl:rows.flatten.length = rows.length * n:=flatten_length fun r h=>(hr r h).1
  have hH:Holds C ((List.range (rows.length * n)).map fun k=>f (k / n) (k % n)).toArray rows.flatten:=fun i b hb=>by
   have hlt:i < rows.length * n:=by have:=(List.getElem?_eq_some_iff.1 hb).1; omega
   have hn0:0 < n:=by
    rcases Nat.eq_zero_or_pos n with h0 | h0
    ·rw [h0] at hlt; simp at hlt
    ·exact h0
   have hi:i / n < rows.length:=by rwa [Nat.div_lt_iff_lt_mul hn0]
   have hj:i % n < n:=Nat.mod_lt _ hn0
   have hd:i = i / n * n + i % n:=by rw [Nat.mul_comm]; exact (Nat.div_add_mod i n).symm
   have hrow:rows[i / n]? = some rows[i / n]:=List.getElem?_eq_getElem hi
   have hb':=hb
   rw [hd,flatten_get (fun r h=>(hr r h).1) hrow hj] at hb'
   refine ⟨f (i / n) (i % n),?_,hh _ _ hrow _ _ hb',okCells_get (hr _ (List.getElem_mem hi)).2 hb'⟩
   rw [List.getElem?_toArray,List.getElem?_map,List.getElem?_range hlt]
   rfl
  refine ⟨A,cap,(List.range (rows.length * n)).map fun k=>f (k / n) (k % n),rfl,by simp,fun ad e j u hj=>?_,fun hne=>by rw [(hA hne).1]; simp,hH,fun u hu=>?_,fun r h=>(hr r h).1⟩
  ·have hlt:j < rows.length * n:=by
    have:=(List.getElem?_eq_some_iff.1 hj).1
    simpa using this
   have hne:rows ≠ []:=fun e=>by subst e; simp at hlt
   have hn0:0 < n:=by
    rcases Nat.eq_zero_or_pos n with h0 | h0
    ·rw [h0] at hlt; simp at hlt
    ·exact h0
   rw [List.getElem?_map,List.getElem?_range hlt] at hj
   cases hj
   rw [(hA hne).1] at e
   cases e
   have hd:j = j / n * n + j % n:=by rw [Nat.mul_comm]; exact (Nat.div_add_mod j n).symm
   have:=hc (j / n) (by rwa [Nat.div_lt_iff_lt_mul hn0]) (j % n) (by rw [e1 hne]; exact Nat.mod_lt _ hn0)
   rw [e1 hne,Nat.add_assoc,← hd] at this
   rw [addr_add]
   exact this
  ·obtain ⟨k,_,rfl⟩:=List.mem_map.1 hu
   exact hone _ _
theorem RelAt.srcA (h:RelAt E s a w S own C D Ds) {x:AV} {vx:Value} (hx:R (ctx E s w S own) x vx) {n:Nat} {rows:List (List AV)} (hr:srcA s.H n x = some rows):Src (ctx E s w S own) vx n rows:=by
 unfold Am.srcA at hr
 split at hr
 ·split at hr
  ·cases hr; exact hx.src (by assumption)
  ·cases hr
 ·split at hr
  ·cases hr; exact hx.loose.src (by assumption)
  ·cases hr
 ·cases hr; exact hx.nil_sl.src (by simp)
 ·rename_i k ver
  split at hr
  ·rename_i v t sz rows' hk
   split at hr
   ·rename_i hv
    cases hr
    obtain ⟨g1,g2⟩:=h.ref_at hx hk hv.1
    cases hog:own k with
    | none=>
     rw [hog] at g1 g2
     have e:rows = []:=g2.1
     subst e
     have e2:vx = .slice none 0 0:=g1
     subst e2
     exact (R.nil_sl .nils).src (by simp)
    | some g=>
     rw [hog] at g1 g2
     obtain ⟨cap,rfl,_⟩:=g1
     obtain ⟨cs,cap',q1,q2,q3,q4,q5,q6,q7⟩:=g2
     exact Holds.src q1 q7 (fun r hr=>by rw [q6 r hr,hv.2])
   ·cases hr
  ·rename_i v rows' hk
   split at hr
   ·rename_i hv
    cases hr
    have hp:=R.pur0 (C:=ctx E s w S own) h.heap hx
    have e1:pur0 s.H (.ref k ver .o) = .sl rows:=by simp [pur0,hk,hv.1]
    rw [e1] at hp
    exact hp.src hv.2
   ·cases hr
  ·cases hr
 ·cases hr
end
theorem run_append_of_nil {P:Program} (w:World) (base:Nat) (t ty e:TypeId) (i:TypeInfo) (size:Nat) (ht:P.underlying t = some (.slice e)) (hi:P.info? e = some i)
  (v:Value) (n:Nat) (xs:List Value) (hown:w.ownsRow base e size v n xs) (c:Nat):(Builtin.append_ #[t,t] ty #[v,.slice none 0 c]).run P w = .ok v w:=by
 rcases hown.2 with ⟨rfl,rfl⟩ | ⟨g,cap,cur,rfl,_,_,hnc,_⟩
 ·simp [Builtin.append_,run_underlying ht,sizeOf,typeInfo,hi,Builtin.lenOf,Builtin.firstCells]
 ·simp [Builtin.append_,run_underlying ht,sizeOf,typeInfo,hi,Builtin.lenOf,Builtin.firstCells,hnc,storeCells]
def elemOk (P:Program) (e:TypeId) (n b:Nat):Bool:=match P.info? e with
 | some i=>i.size == n && i.bytes == b && decide (0 < n) && decide (0 < b) && (match i.zero with | some z=>z.cells.size == n | none=>false)
 | none=>false
theorem run_append_any {P:Program} {C:Ctx} (t ty e:TypeId) {n b:Nat} (he:elOf P t = some e) (hok:elemOk P e n b = true) {v vx:Value} {m:Nat} {xs:List Value} (hown:C.w.ownsRow 0 e n v m xs)
  {rows:List (List AV)} (hs:Src C vx n rows) (hb:(m + rows.length) * b ≤ 140737488355328) :
  ∃ v' w' news,(Builtin.append_ #[t,t] ty #[v,vx]).run P C.w = .ok v' w' ∧ w'.ownsRow 0 e n v' (m + rows.length) (xs ++ news) ∧ C.w.grownBy w' v.ownBlock ∧ (v'.ownBlock = v.ownBlock ∨ v'.ownBlock = some C.w.heap.size) ∧
   Holds C news.toArray rows.flatten ∧ news.length = rows.length * n:=by
 obtain ⟨A,cap,news,rfl,h1,h2,h3,h4,h5,h6⟩:=hs
 unfold elemOk at hok
 cases hi:P.info? e with
 | none=>rw [hi] at hok; cases hok
 | some i=>
  rw [hi] at hok
  dsimp only at hok
  cases hz:i.zero with
  | none=>rw [hz] at hok; simp at hok
  | some z=>
   rw [hz] at hok
   simp only [Bool.and_eq_true,beq_iff_eq,decide_eq_true_eq] at hok
   obtain ⟨⟨⟨⟨q1,q2⟩,q3⟩,q4⟩,q5⟩:=hok
   cases A with
   | none=>
    have hr:rows = []:=Classical.byContradiction fun hne=>h3 hne rfl
    subst hr
    have hn:news = []:=List.eq_nil_of_length_eq_zero (by simpa using h1)
    subst hn
    exact ⟨v,C.w,[],run_append_of_nil C.w 0 t ty e i n (elOf_iff he) hi v m xs hown cap,by simpa using hown,World.grownBy.refl C.w _,.inl rfl,h4,by simp⟩
   | some ad=>
    have hm:m + rows.length ≤ maxLen:=by
     have:m + rows.length ≤ (m + rows.length) * b:=Nat.le_mul_of_pos_right _ q4
     simp only [maxLen]
     omega
    obtain ⟨v',w',r1,r2,r3,_,r5⟩:=run_append_own_at (P:=P) C.w 0 t ty e i z n b (elOf_iff he) hi hz q1 q2 q5 q3 v m xs hown ad rows.length cap news h1 (h2 ad rfl) h5 hm hb (Nat.zero_le _)
    exact ⟨v',w',news,r1,r2,r3,r5,h4,h1⟩
section
variable {E : Env} {s : St} {a : Act} {w : World} {S : Nat → Prop} {own : Nat → Option Nat} {C D : Nat → Prop} {Ds : List Nat}
theorem RelAt.owns (h:RelAt E s a w S own C D Ds) {k ver:Nat} {t:TypeId} {n:Nat} {rows:List (List AV)} {v:Value} (hr:R (ctx E s w S own) (.ref k ver .o) v) (hk:s.H k = some (.row ver t n rows)) :
  ∃ xs:List Value,w.ownsRow 0 t n v rows.length xs ∧ Holds (ctx E s w S own) xs.toArray rows.flatten ∧ v.ownBlock = own k ∧ xs.length = rows.flatten.length ∧ (∀ r ∈ rows,r.length = n) ∧ 0 < n:=by
 obtain ⟨g1,g2⟩:=h.ref_at hr hk rfl
 cases hog:own k with
 | none=>
  rw [hog] at g1 g2
  obtain ⟨e,hn⟩:=g2
  subst e
  have e2:v = .slice none 0 0:=g1
  subst e2
  exact ⟨[],⟨by simp,.inl ⟨rfl,rfl⟩⟩,fun i a hi=>by simp at hi,rfl,rfl,by simp,hn⟩
 | some g=>
  rw [hog] at g1 g2
  obtain ⟨cap,rfl,hcap⟩:=g1
  obtain ⟨cs,cap',q1,q2,q3,q4,q5,q6,q7⟩:=g2
  have e1:=hcap cs t (0,0) q1
  rw [q2] at e1
  have e2:cap' = cap:=Nat.eq_of_mul_eq_mul_right q5 e1
  subst e2
  have hfl:rows.flatten.length = rows.length * n:=flatten_length q6
  have hle:rows.length * n ≤ cap' * n:=Nat.mul_le_mul_right _ q3
  have e3:cs.toList.length = cs.size:=by simp
  refine ⟨cs.toList.take (rows.length * n),⟨by rw [List.length_take]; omega,.inr ⟨g,cap',cs,rfl,Nat.zero_le _,q1,q3,q4,q2,rfl⟩⟩,fun i a hi=>?_,rfl,by rw [List.length_take]; omega,q6,q5⟩
  obtain ⟨u,h1,h2⟩:=q7 i a hi
  refine ⟨u,?_,h2⟩
  rw [List.getElem?_toArray,List.getElem?_take,if_pos (by have:=(List.getElem?_eq_some_iff.1 hi).1; omega),Array.getElem?_toList,h1]
theorem Holds.append {C:Ctx} {xs ys:List Value} {as bs:List AV} (h1:Holds C xs.toArray as) (h2:Holds C ys.toArray bs) (hl:xs.length = as.length):Holds C (xs ++ ys).toArray (as ++ bs):=fun i a ha=>by
 rw [List.getElem?_append] at ha
 simp only [List.getElem?_toArray]
 rw [List.getElem?_append,hl]
 split at ha
 ·rename_i hi
  rw [if_pos hi]
  obtain ⟨v,h3,h4⟩:=h1 i a ha
  exact ⟨v,by simpa using h3,h4⟩
 ·rename_i hi
  rw [if_neg hi]
  obtain ⟨v,h3,h4⟩:=h2 _ a ha
  exact ⟨v,by simpa using h3,h4⟩
theorem flatten_append' (a b:List (List AV)):(a ++ b).flatten = a.flatten ++ b.flatten:=List.flatten_append
theorem RelAt.append (h:RelAt E s a w S own C D Ds) (hJ:JOk E.J) {k:Nat} {t ty e:TypeId} {n b:Nat} (he:elOf E.P t = some e) (hok:elemOk E.P e n b = true) {base src:AV} {v vx:Value} {rows new:List (List AV)} {ver:Nat}
  (hv:R (ctx E s w S own) base v) (hx:R (ctx E s w S own) src vx) (hsrc:Am.srcA s.H n src = some new) (hb:(rows.length + new.length) * b ≤ 140737488355328)
  (hbase:(base = .ref k ver .o ∧ s.H k = some (.row ver e n rows)) ∨ (base = .nils ∧ rows = [] ∧ ver + 1 = nv s.H k + 1)) {d:Option Nat} (hd:∀ k,d = some k → k < E.n) :
  ∃ v' w',(Builtin.append_ #[t,t] ty #[v,vx]).run E.P w = .ok v' w' ∧
   Rel E (s.put d (.ref k (nv s.H k) .o) (upd s.H k (some (.row (nv s.H k) e n (rows ++ new))))) (a.put d v') w':=by
 have hs:=h.srcA hx hsrc
 have hn:0 < n:=by
  unfold elemOk at hok
  split at hok
  ·simp only [Bool.and_eq_true,decide_eq_true_eq] at hok
   exact hok.1.1.2
  ·cases hok
 have hnew:∀ r ∈ new,r.length = n:=by obtain ⟨_,_,_,_,_,_,_,_,_,h6⟩:=hs; exact h6
 obtain ⟨xs,hown,hh,hob,hxl,hrl⟩:∃ xs:List Value,w.ownsRow 0 e n v rows.length xs ∧ Holds (ctx E s w S own) xs.toArray rows.flatten ∧ (∀ g,v.ownBlock = some g → LiveAt s own k g) ∧ xs.length = rows.flatten.length ∧ (∀ r ∈ rows,r.length = n):=by
  rcases hbase with ⟨rfl,hk⟩ | ⟨rfl,rfl,_⟩
  ·obtain ⟨xs,h1,h2,h3,h4,h5,_⟩:=h.owns hv hk
   exact ⟨xs,h1,h2,fun g hg=>⟨_,hk,rfl,by rw [← h3,hg]⟩,h4,h5⟩
  ·cases hv
   exact ⟨[],⟨by simp,.inl ⟨rfl,rfl⟩⟩,fun i a hi=>by simp at hi,fun g hg=>by simp [Value.ownBlock] at hg,rfl,by simp⟩
 obtain ⟨v',w',news,r1,r2,r3,r4,r5,r6⟩:=run_append_any (C:=ctx E s w S own) t ty e he hok hown hs hb
 have hgr:Grows w w' (LiveAt s own k):=Grows.of_grownBy r3 _ fun g hg=>hob g hg
 have hall:∀ r ∈ rows ++ new,r.length = n:=fun r hr=>by
  rcases List.mem_append.1 hr with hr | hr
  ·exact hrl r hr
  ·exact hnew r hr
 have hlen:(rows ++ new).length = rows.length + new.length:=List.length_append
 have hg':∀ g,v'.ownBlock = some g → (w.heap.size ≤ g ∧ g < w'.heap.size) ∨ LiveAt s own k g:=fun g hg=>by
  rcases r4 with r4 | r4
  ·exact .inr (hob g (r4 ▸ hg))
  ·rw [r4] at hg
   cases hg
   rcases r2.2 with ⟨rfl,_⟩ | ⟨g',cap,cur,rfl,_,hg2,_⟩
   ·simp [Value.ownBlock] at r4
   ·have:g' = w.heap.size:=by simpa [Value.ownBlock] using r4
    subst this
    exact .inl ⟨Nat.le_refl _,(Array.getElem?_eq_some_iff.1 hg2).1⟩
 refine ⟨v',w',r1,S,upd own k v'.ownBlock,C,D,Ds,h.key hJ k v'.ownBlock (.row (nv s.H k) e n (rows ++ new)) hgr (fun blk hk=>?_) hg' (fun hle=>?_) (put_size a _ _) (put_defers a _ _) fun hle=>?_⟩
 ·have:=nv_gt hk
  exact ⟨Nat.le_of_lt this,fun e=>by have e2:nv s.H k = blk.ver:=e; omega⟩
 ·rcases r2.2 with ⟨rfl,h0⟩ | ⟨g,cap,cur,rfl,_,q1,q2,q3,q4,q5⟩
  ·have:rows ++ new = []:=List.eq_nil_of_length_eq_zero (by rw [hlen]; exact h0)
   exact ⟨this,hn⟩
  ·refine ⟨cur,cap,q1,q4,by rw [hlen]; exact q2,q3,hn,hall,fun i b hbi=>?_⟩
   rw [flatten_append'] at hbi
   obtain ⟨u,hu,hu2,hu3⟩:=(Holds.append hh r5 hxl) i b hbi
   refine ⟨u,?_,hu2.mono hle,hu3⟩
   rw [List.getElem?_toArray,← q5,List.getElem?_take] at hu
   split at hu
   ·simpa using hu
   ·cases hu
 ·refine R_put (fun i=>(h.tmps i).mono hle) h.size hd ?_
  refine .ref k (nv s.H k) .o _ _ (upd_same _ _ _) (Nat.le_refl _) ?_ fun _=>?_
  ·rcases r2.2 with ⟨rfl,h0⟩ | ⟨g,cap,cur,rfl,_⟩ <;> rfl
  ·show RefVal w' (upd own k v'.ownBlock k) _ _ _
   rw [upd_same]
   rcases r2.2 with ⟨rfl,h0⟩ | ⟨g,cap,cur,rfl,_,q1,q2,q3,q4,q5⟩
   ·rfl
   ·refine ⟨cap,by rw [hlen],fun cs t' fr hcs=>?_⟩
    rw [q1] at hcs
    cases hcs
    exact q4
end
end Go.Am
namespace Go.Am
open Go.RowKit
def mapD (P:Program) (t:TypeId):Option (KD × TypeId):=match P.underlying t with
 | some (.map k e)=>match P.underlying k with
  | some (.int .i64)=>some (.i,e)
  | some .string=>some (.s,e)
  | _=>none
 | _=>none
theorem mapD_some {P:Program} {t:TypeId} {d:KD} {e:TypeId} (h:mapD P t = some (d,e)):∃ k,P.underlying t = some (.map k e) ∧ P.underlying k = some d.td:=by
 unfold mapD at h
 split at h
 ·rename_i k e' ht
  split at h
  ·rename_i hk; cases h; exact ⟨k,ht,hk⟩
  ·rename_i hk; cases h; exact ⟨k,ht,hk⟩
  ·cases h
 ·cases h
def keyA:KD → AV → Bool
 | .i,.int .i64 _=>true
 | .s,.str _=>true
 | _,_=>false
def sc0A:AV → Bool
 | .int .. | .bool _ | .str _=>true
 | _=>false
def scA:AV → Bool
 | .agg cs=>cs.all sc0A
 | a=>sc0A a
def eqK:AV → AV → Bool
 | .int _ a,.int _ b=>decide (a = b)
 | .str a,.str b=>decide (a = b)
 | _,_=>false
def getM (i:AV):List (AV × AV) → Option AV
 | []=>none
 | p :: l=>if eqK p.1 i then some p.2 else getM i l
def setM (i y:AV):List (AV × AV) → List (AV × AV)
 | []=>[(i,y)]
 | p :: l=>if eqK p.1 i then (p.1,y) :: l else p :: setM i y l
def delM (i:AV):List (AV × AV) → List (AV × AV)
 | []=>[]
 | p :: l=>if eqK p.1 i then l else p :: delM i l
def mpAt (H:Heap) (d:KD):AV → Option (Nat × Nat × List (AV × AV))
 | .ref k ver .o=>match H k with
  | some (.obj v (.mp d' es))=>if v = ver ∧ d' = d then some (k,ver,es) else none
  | _=>none
 | _=>none
def lkR (co:Bool) (z:AV):Option AV → AV
 | some v=>if co then .tup [v,.bool true] else v
 | none=>if co then .tup [z,.bool false] else z
def lkV (H:Heap) (d:KD) (z:AV) (co:Bool) (x i:AV):Option AV:=
 (mpAt H d x).bind fun q=>if keyA d i = true then some (lkR co z (getM i q.2.2)) else none
def mupV (H:Heap) (d:KD) (x i y:AV):Option Heap:=
 (mpAt H d x).bind fun q=>if keyA d i = true ∧ scA y = true then some (upd H q.1 (some (.obj q.2.1 (.mp d (setM i y q.2.2))))) else none
def mdlV (H:Heap) (d:KD) (x i:AV):Option Heap:=
 (mpAt H d x).bind fun q=>if keyA d i = true then some (upd H q.1 (some (.obj q.2.1 (.mp d (delM i q.2.2))))) else none
def mclV (H:Heap) (d:KD) (x:AV):Option Heap:=
 (mpAt H d x).map fun q=>upd H q.1 (some (.obj q.2.1 (.mp d [])))
theorem mpAt_some {H:Heap} {d:KD} {x:AV} {q:Nat × Nat × List (AV × AV)} (h:mpAt H d x = some q):x = .ref q.1 q.2.1 .o ∧ H q.1 = some (.obj q.2.1 (.mp d q.2.2)):=by
 unfold mpAt at h
 split at h
 ·rename_i k ver
  split at h
  ·rename_i v d' es hk
   split at h
   ·rename_i e
    obtain ⟨rfl,rfl⟩:=e
    cases h
    exact ⟨rfl,hk⟩
   ·cases h
  ·cases h
 ·cases h
section
variable {C : Ctx}
theorem R.sc0 {a:AV} {v:Value} (h:R C a v) (ha:sc0A a = true):Sc0 a v:=by
 cases h <;> first | (simp [sc0A] at ha; done) | rfl | exact ⟨rfl,by assumption⟩
theorem Sc0.r {a:AV} {v:Value} (h:Sc0 a v):R C a v:=by
 unfold Sc0 at h
 split at h
 ·subst h; exact .int _ _
 ·subst h; exact .bool _
 ·obtain ⟨rfl,h⟩:=h; exact .str _ h
 ·exact h.elim
theorem Sc0s.of:∀ {cs:List AV} {vs:List Value},vs.length = cs.length → cs.all sc0A = true → (∀ i a,cs[i]? = some a → R C a (vs.getD i undef)) → Sc0s cs vs
 | [],[],_,_,_=>trivial
 | a :: cs,v :: vs,hl,ha,h=>by
  simp only [List.all_cons,Bool.and_eq_true] at ha
  exact ⟨(h 0 a rfl).sc0 ha.1,Sc0s.of (by simpa using hl) ha.2 fun i b hb=>by simpa using h (i + 1) b (by simpa using hb)⟩
 | [],_ :: _,hl,_,_=>by simp at hl
 | _ :: _,[],hl,_,_=>by simp at hl
theorem Sc0s.r:∀ {cs:List AV} {vs:List Value},Sc0s cs vs → vs.length = cs.length ∧ ∀ i a,cs[i]? = some a → R C a (vs.getD i undef)
 | [],[],_=>⟨rfl,fun i a h=>by simp at h⟩
 | a :: cs,v :: vs,h=>by
  obtain ⟨q1,q2⟩:=Sc0s.r h.2
  refine ⟨by simp [q1],fun i b hb=>?_⟩
  match i,hb with
  | 0,hb=>simp at hb; subst hb; exact h.1.r
  | i + 1,hb=>simpa using q2 i b (by simpa using hb)
 | [],_ :: _,h=>h.elim
 | _ :: _,[],h=>h.elim
theorem R.sc {a:AV} {v:Value} (h:R C a v) (ha:scA a = true):Sc a v:=by
 unfold scA at ha
 split at ha
 ·cases h with
  | agg cs vs hl hh=>exact ⟨vs,rfl,Sc0s.of hl ha hh⟩
 ·rename_i hne
  unfold Sc
  split
  ·exact (hne _ rfl).elim
  ·exact h.sc0 ha
theorem Sc.r {a:AV} {v:Value} (h:Sc a v):R C a v:=by
 unfold Sc at h
 split at h
 ·obtain ⟨vs,rfl,h⟩:=h
  obtain ⟨q1,q2⟩:=Sc0s.r (C:=C) h
  exact .agg _ vs q1 q2
 ·exact h.r
theorem keyA_sc0 {d:KD} {i:AV} (h:keyA d i = true):sc0A i = true:=by
 unfold keyA at h
 split at h <;> first | rfl | cases h
theorem Sc0.key {d:KD} {i:AV} {v:Value} (h:Sc0 i v) (hk:keyA d i = true):MapKept.IsKey d.td v:=by
 unfold keyA at hk
 split at hk
 ·cases h; exact rfl
 ·obtain ⟨rfl,_⟩:=h; trivial
 ·cases hk
end
theorem eqK_iff {d:KD} {p i:AV} {e v:Value} (hp:Sc0 p e) (hi:Sc0 i v) (he:MapKept.IsKey d.td e) (hv:MapKept.IsKey d.td v):eqK p i = true ↔ e = v:=by
 cases d <;> unfold Sc0 at hp hi <;> split at hp <;> split at hi <;> simp_all [KD.td,MapKept.IsKey,eqK]
theorem find_mp {d:KD} {i:AV} {kv:Value} (hi:Sc0 i kv) (hk:MapKept.IsKey d.td kv):∀ {es:List (AV × AV)} {l:List MapEntry} (n:Nat),MpIs es l → (∀ x ∈ l,MapKept.IsKey d.td x.key) →
  (Instr.findNow d.td kv l n = some none ∧ (∀ x ∈ l,x.key ≠ kv) ∧ getM i es = none ∧ (∀ y v b,Sc y v → MpIs (setM i y es) (l ++ [{ key:=kv,val:=v,born:=b }])) ∧ delM i es = es) ∨
  ∃ j e a,Instr.findNow d.td kv l n = some (some (n + j,e.val)) ∧ l[j]? = some e ∧ e.key = kv ∧ getM i es = some a ∧ Sc a e.val ∧ (∀ y v,Sc y v → MpIs (setM i y es) (l.set j { e with val:=v })) ∧ MpIs (delM i es) (l.eraseIdx j)
 | [],[],n,_,_=>.inl ⟨rfl,by simp,rfl,fun y v b hy=>⟨hi,hy,trivial⟩,rfl⟩
 | p :: ps,e :: l,n,h,hks=>by
  obtain ⟨h1,h2,h3⟩:=h
  have hke:=hks e (by simp)
  have hiff:=eqK_iff h1 hi hke hk
  obtain ⟨r,hr,hr2⟩:=MapKept.sameNow_of_keys hk hke
  by_cases hq:eqK p.1 i = true
  ·have hek:=hiff.1 hq
   have hrt:r = true:=hr2.2 hek.symm
   subst hrt
   refine .inr ⟨0,e,p.2,by simp [Instr.findNow,hr],rfl,hek,by simp [getM,hq],h2,fun y v hy=>?_,?_⟩
   ·simp only [setM,if_pos hq,List.set_cons_zero]
    exact ⟨h1,hy,h3⟩
   ·simp only [delM,if_pos hq,List.eraseIdx_cons_zero]
    exact h3
  ·have hek:e.key ≠ kv:=fun q=>hq (hiff.2 q)
   have hrf:r = false:=by cases r with | false=>rfl | true=>exact (hek (hr2.1 rfl).symm).elim
   subst hrf
   rcases find_mp hi hk (n + 1) h3 fun x hx=>hks x (by simp [hx]) with ⟨q1,q2,q3,q4,q5⟩ | ⟨j,e',a,q1,q2,q3,q4,q5,q6,q7⟩
   ·refine .inl ⟨by simp [Instr.findNow,hr,q1],fun x hx=>?_,by simp [getM,hq,q3],fun y v b hy=>?_,by simp [delM,hq,q5]⟩
    ·rcases List.mem_cons.1 hx with rfl | hx
     ·exact hek
     ·exact q2 x hx
    ·simp only [setM,if_neg hq,List.cons_append]
     exact ⟨h1,h2,q4 y v b hy⟩
   ·refine .inr ⟨j + 1,e',a,by simp [Instr.findNow,hr,q1]; omega,by simpa using q2,q3,by simp [getM,hq,q4],q5,fun y v hy=>?_,?_⟩
    ·simp only [setM,if_neg hq,List.set_cons_succ]
     exact ⟨h1,h2,q6 y v hy⟩
    ·simp only [delM,if_neg hq,List.eraseIdx_cons_succ]
     exact ⟨h1,h2,q7⟩
 | [],_ :: _,_,h,_=>h.elim
 | _ :: _,[],_,h,_=>h.elim
section
variable {E : Env} {s : St} {a : Act} {w : World} {S : Nat → Prop} {own : Nat → Option Nat} {C D : Nat → Prop} {Ds : List Nat}
theorem RelAt.mapAt (h:RelAt E s a w S own C D Ds) {d:KD} {x:AV} {v:Value} {q:Nat × Nat × List (AV × AV)} (hx:R (ctx E s w S own) x v) (hm:mpAt s.H d x = some q) :
  ∃ g en clock,own q.1 = some g ∧ v = .map (some g) ∧ w.heap[g]? = some (.map en clock) ∧ MapKept.Stamped en clock ∧ (∀ y ∈ en.toList,MapKept.IsKey d.td y.key) ∧ MpIs q.2.2 en.toList:=by
 obtain ⟨rfl,hk⟩:=mpAt_some hm
 obtain ⟨q1,q2⟩:=h.ref_at hx hk rfl
 cases hog:own q.1 with
 | none=>rw [hog] at q2; exact q2.elim
 | some g=>
  rw [hog] at q1 q2
  obtain ⟨o,g1,en,clock,rfl,g2,g3,g4⟩:=q2
  exact ⟨g,en,clock,rfl,q1,g1,g2,g3,g4⟩
theorem RelAt.mapPut (h:RelAt E s a w S own C D Ds) (hJ:JOk E.J) {d:KD} {q:Nat × Nat × List (AV × AV)} (hk:s.H q.1 = some (.obj q.2.1 (.mp d q.2.2))) {g:Nat} (hog:own q.1 = some g) {o:Obj} (hg:w.heap[g]? = some o)
  {es:List (AV × AV)} {en:Array MapEntry} {clock:Nat} (h1:MapKept.Stamped en clock) (h2:∀ y ∈ en.toList,MapKept.IsKey d.td y.key) (h3:MpIs es en.toList)
  {dst:Option Nat} (hd:∀ k,dst = some k → k < E.n) {u:Value} (hu:u = undef ∨ u = .tuple #[]) :
  Rel E (s.put dst (.tup []) (upd s.H q.1 (some (.obj q.2.1 (.mp d es))))) (a.put dst u) (w.putObj g (.map en clock)):=by
 have hgr:Grows w (w.putObj g (.map en clock)) (LiveAt s own q.1):=⟨rfl,rfl,rfl,Nat.le_of_eq World.putObj_size.symm,fun b hb hn=>World.putObj_heap_other fun e=>hn ⟨_,hk,rfl,by rw [hog,e]⟩⟩
 refine ⟨S,upd own q.1 (some g),C,D,Ds,h.key hJ q.1 (some g) (.obj q.2.1 (.mp d es)) hgr (fun blk hk'=>?_) (fun g' e=>by cases e; exact .inr ⟨_,hk,rfl,hog⟩) (fun hle'=>?_) (put_size a _ _) (put_defers a _ _) fun hle'=>?_⟩
 ·rw [hk] at hk'
  cases hk'
  refine ⟨Nat.le_refl _,fun _ r u hu=>?_⟩
  rw [hog] at hu
  cases r <;> exact hu
 ·exact ⟨_,World.putObj_heap_same (Array.getElem?_eq_some_iff.1 hg).1,en,clock,rfl,h1,h2,h3⟩
 ·refine R_put (fun i=>(h.tmps i).mono hle') h.size hd ?_
  rcases hu with rfl | rfl
  ·exact .tup [] [] rfl fun i a hi=>by simp at hi
  ·exact .tup [] [] rfl fun i a hi=>by simp at hi
theorem RelAt.mapLk (h:RelAt E s a w S own C D Ds) {d:KD} {x i r:AV} {vx vi z:Value} {t e:TypeId} {co:Bool} (hx:R (ctx E s w S own) x vx) (hi:R (ctx E s w S own) i vi) (ht:mapD E.P t = some (d,e)) (hz:zeroOf E.P e = some z)
  (hr:lkV s.H d (ofVal z) co x i = some r):∃ u,(Instr.lookup t vx vi co).run E.P w = .ok u w ∧ R (ctx E s w S own) r u:=by
 obtain ⟨q,hm,hr⟩:=Option.bind_eq_some_iff.1 hr
 split at hr
 case isFalse=>cases hr
 rename_i hki
 cases hr
 obtain ⟨k,ht1,ht2⟩:=mapD_some ht
 obtain ⟨g,en,clock,hog,rfl,hg,h1,h2,h3⟩:=h.mapAt hx hm
 have hs:=hi.sc0 (keyA_sc0 hki)
 have hkv:=hs.key hki
 have hb:∀ (C:Ctx) (b:Bool) (y:AV) (u:Value),R C y u → R C (.tup [y,.bool b]) (.tuple #[u,.bool b]):=fun C b y u hy=>.tup [y,.bool b] [u,.bool b] rfl fun j x hx=>by
  match j,hx with
  | 0,hx=>simp at hx; subst hx; exact hy
  | 1,hx=>simp at hx; subst hx; exact .bool _
  | j + 2,hx=>simp at hx
 rcases find_mp hs hkv 0 h3 h2 with ⟨q1,q2,q3,q4,q5⟩ | ⟨j,en',y,q1,q2,q3,q4,q5,q6,q7⟩
 ·refine ⟨if co then .tuple #[z,.bool false] else z,?_,?_⟩
  ·unfold Instr.lookup
   simp only [Sem.run_bind,run_underlying ht1,Result.andThen_ok,MapKept.run_getObj_map hg,MapKept.run_checkKey ht2 hkv,MapKept.run_findKey ht2 q1,run_zero w hz,Sem.run_pure]
  ·rw [q3]
   cases co
   ·exact R_ofVal _ z
   ·exact hb _ _ _ _ (R_ofVal _ z)
 ·refine ⟨if co then .tuple #[en'.val,.bool true] else en'.val,?_,?_⟩
  ·unfold Instr.lookup
   simp only [Sem.run_bind,run_underlying ht1,Result.andThen_ok,MapKept.run_getObj_map hg,MapKept.run_checkKey ht2 hkv,MapKept.run_findKey ht2 q1,Sem.run_pure]
  ·rw [q4]
   cases co
   ·exact q5.r
   ·exact hb _ _ _ _ q5.r
theorem modify_set {en:Array MapEntry} {j:Nat} {e:MapEntry} (h:en.toList[j]? = some e) (f:MapEntry → MapEntry):(en.modify j f).toList = en.toList.set j (f e):=by
 apply List.ext_getElem?
 intro k
 rw [Array.getElem?_toList,Array.getElem?_modify,List.getElem?_set]
 rw [Array.getElem?_toList] at h
 by_cases hk:j = k
 ·subst hk
  obtain ⟨hl,he⟩:=Array.getElem?_eq_some_iff.1 h
  simp [hl,he]
 ·simp [hk,Array.getElem?_toList]
theorem RelAt.mapUp (h:RelAt E s a w S own C D Ds) (hJ:JOk E.J) {d:KD} {x i y:AV} {vx vi vy:Value} {t e:TypeId} (hx:R (ctx E s w S own) x vx) (hi:R (ctx E s w S own) i vi) (hy:R (ctx E s w S own) y vy) (ht:mapD E.P t = some (d,e))
  {H':Heap} (hr:mupV s.H d x i y = some H') {dst:Option Nat} (hd:∀ k,dst = some k → k < E.n) :
  ∃ w',(Instr.mapUpdate t vx vi vy).run E.P w = .ok () w' ∧ Rel E (s.put dst (.tup []) H') (a.put dst undef) w':=by
 obtain ⟨q,hm,hr⟩:=Option.bind_eq_some_iff.1 hr
 split at hr
 case isFalse=>cases hr
 rename_i hki
 obtain ⟨hki,hsy⟩:=hki
 cases hr
 obtain ⟨k,ht1,ht2⟩:=mapD_some ht
 obtain ⟨rfl,hk⟩:=mpAt_some hm
 obtain ⟨g,en,clock,hog,rfl,hg,h1,h2,h3⟩:=h.mapAt hx hm
 have hs:=hi.sc0 (keyA_sc0 hki)
 have hkv:=hs.key hki
 have hyv:=hy.sc hsy
 rcases find_mp hs hkv 0 h3 h2 with ⟨q1,q2,q3,q4,q5⟩ | ⟨j,en',b,q1,q2,q3,q4,q5,q6,q7⟩
 ·refine ⟨w.putObj g (.map (en.push { key:=vi,val:=vy,born:=clock }) (clock + 1)),?_,h.mapPut hJ hk hog hg (MapKept.stamped_push h1 q2) ?_ ?_ hd (.inl rfl)⟩
  ·unfold Instr.mapUpdate
   simp only [Sem.run_bind,run_underlying ht1,Result.andThen_ok,MapKept.run_getObj_map hg,MapKept.run_checkKey ht2 hkv,MapKept.run_findKey ht2 q1,MapKept.run_setObj_map _ hg]
   rfl
  ·intro z hz
   simp only [Array.toList_push,List.mem_append,List.mem_singleton] at hz
   rcases hz with hz | rfl
   ·exact h2 z hz
   ·exact hkv
  ·rw [Array.toList_push]
   exact q4 y vy clock hyv
 ·have hes:(en[0 + j]?).map (·.key) = some vi:=by
   rw [Array.getElem?_toList] at q2
   simp [q2,q3]
  have hset:(en.modify (0 + j) fun e=>{ e with key:=vi,val:=vy }).toList = en.toList.set j { en' with val:=vy }:=by
   rw [Nat.zero_add,modify_set q2,← q3]
  refine ⟨w.putObj g (.map (en.modify (0 + j) fun e=>{ e with key:=vi,val:=vy }) clock),?_,h.mapPut hJ hk hog hg ?_ ?_ ?_ hd (.inl rfl)⟩
  ·unfold Instr.mapUpdate
   simp only [Sem.run_bind,run_underlying ht1,Result.andThen_ok,MapKept.run_getObj_map hg,MapKept.run_checkKey ht2 hkv,MapKept.run_findKey ht2 q1,hes,Option.getD_some,MapKept.run_keyThatStays hkv,MapKept.run_setObj_map _ hg]
   rfl
  ·refine MapKept.stamped_modify h1 _ _ (fun _ _=>rfl) fun e he hej=>?_
   rw [Nat.zero_add] at hes
   rw [Nat.zero_add] at hej
   rw [hej] at hes
   exact (Option.some.inj hes).symm
  ·exact MapKept.isKey_modify h2 _ _ fun e hej=>by
    rw [hej] at hes
    exact (Option.some.inj hes).symm
  ·rw [hset]
   exact q6 y vy hyv
theorem RelAt.mapDl (h:RelAt E s a w S own C D Ds) (hJ:JOk E.J) {d:KD} {x i:AV} {vx vi:Value} {t u e ty:TypeId} (hx:R (ctx E s w S own) x vx) (hi:R (ctx E s w S own) i vi) (ht:mapD E.P t = some (d,e))
  {H':Heap} (hr:mdlV s.H d x i = some H') {dst:Option Nat} (hd:∀ k,dst = some k → k < E.n) :
  ∃ w',(Builtin.delete_ #[t,u] ty #[vx,vi]).run E.P w = .ok (.tuple #[]) w' ∧ Rel E (s.put dst (.tup []) H') (a.put dst (.tuple #[])) w':=by
 obtain ⟨q,hm,hr⟩:=Option.bind_eq_some_iff.1 hr
 split at hr
 case isFalse=>cases hr
 rename_i hki
 cases hr
 obtain ⟨k,ht1,ht2⟩:=mapD_some ht
 obtain ⟨rfl,hk⟩:=mpAt_some hm
 obtain ⟨g,en,clock,hog,rfl,hg,h1,h2,h3⟩:=h.mapAt hx hm
 have hs:=hi.sc0 (keyA_sc0 hki)
 have hkv:=hs.key hki
 rcases find_mp hs hkv 0 h3 h2 with ⟨q1,q2,q3,q4,q5⟩ | ⟨j,en',b,q1,q2,q3,q4,q5,q6,q7⟩
 ·refine ⟨w.putObj g (.map en clock),?_,h.mapPut hJ hk hog hg h1 h2 (by rw [q5]; exact h3) hd (.inr rfl)⟩
  unfold Builtin.delete_
  simp [run_underlying ht1,MapKept.run_getObj_map hg,MapKept.run_checkKey ht2 hkv,MapKept.run_findKey ht2 q1,MapKept.run_setObj_map _ hg,Result.andThen]
  rfl
 ·have her:(en.eraseIdxIfInBounds (0 + j)).toList = en.toList.eraseIdx j:=by
   rw [Nat.zero_add]
   have hl:=(List.getElem?_eq_some_iff.1 q2).1
   unfold Array.eraseIdxIfInBounds
   rw [dif_pos (by simpa using hl),Array.toList_eraseIdx]
  refine ⟨w.putObj g (.map (en.eraseIdxIfInBounds (0 + j)) clock),?_,h.mapPut hJ hk hog hg (MapKept.stamped_erase h1 _) (fun z hz=>?_) (by rw [her]; exact q7) hd (.inr rfl)⟩
  ·unfold Builtin.delete_
   simp [run_underlying ht1,MapKept.run_getObj_map hg,MapKept.run_checkKey ht2 hkv,MapKept.run_findKey ht2 q1,MapKept.run_setObj_map _ hg,Result.andThen]
   rfl
  ·rw [her] at hz
   exact h2 z ((List.eraseIdx_sublist _ _).subset hz)
theorem RelAt.mapCl (h:RelAt E s a w S own C D Ds) (hJ:JOk E.J) {d:KD} {x:AV} {vx:Value} {t e ty:TypeId} (hx:R (ctx E s w S own) x vx) (ht:mapD E.P t = some (d,e))
  {H':Heap} (hr:mclV s.H d x = some H') {dst:Option Nat} (hd:∀ k,dst = some k → k < E.n) :
  ∃ w',(Builtin.clear_ #[t] ty #[vx]).run E.P w = .ok (.tuple #[]) w' ∧ Rel E (s.put dst (.tup []) H') (a.put dst (.tuple #[])) w':=by
 obtain ⟨q,hm,hr⟩:=Option.map_eq_some_iff.1 hr
 subst hr
 obtain ⟨k,ht1,ht2⟩:=mapD_some ht
 obtain ⟨rfl,hk⟩:=mpAt_some hm
 obtain ⟨g,en,clock,hog,rfl,hg,h1,h2,h3⟩:=h.mapAt hx hm
 refine ⟨w.putObj g (.map #[] clock),?_,h.mapPut hJ hk hog hg (es:=[]) (MapKept.stamped_empty _) (by simp) trivial hd (.inr rfl)⟩
 unfold Builtin.clear_
 simp [run_underlying ht1,MapKept.run_getObj_map hg,MapKept.run_setObj_map _ hg,Result.andThen]
 rfl
end
theorem mpAt_congr {H H2:Heap} {d:KD} {x:AV} (h:∀ k ver,x = .ref k ver .o → H2 k = H k):mpAt H2 d x = mpAt H d x:=by
 unfold mpAt
 split
 ·rename_i k ver; rw [h k ver rfl]
 ·rfl
end Go.Am
namespace Go.Am
open Go.RowKit
inductive LK where
 | int | str | bool
def eqFs (P:Program) (rec:TypeId → Option (List (Nat × LK))):List Field → Option (List (Nat × LK))
 | []=>some []
  | f :: fs => if f.name = "_" then none else match szOf P f.type, rec f.type, eqFs P rec fs with
  | some sz,some p,some r=>if p.all fun q=>decide (q.1 < sz) then some ((p.map fun q=>(f.offset + q.1,q.2)) ++ r) else none
  | _,_,_=>none
def eqP (P:Program):Nat → TypeId → Option (List (Nat × LK))
 | 0,_=>none
 | d + 1,t=>match P.underlying t with
  | some (.int _)=>some [(0,.int)]
  | some .string=>some [(0,.str)]
  | some .bool=>some [(0,.bool)]
  | some (.struct fs)=>if P.stoodInHeld t then none else eqFs P (eqP P d) fs.toList
  | some (.array n e)=>match szOf P e,eqP P d e with
   | some sz,some p=>if p.all fun q=>decide (q.1 < sz) then some ((List.range n).flatMap fun i=>p.map fun q=>(i * sz + q.1,q.2)) else none
   | _,_=>none
  | _=>none
def leafV:LK → Value → Value → Option Bool
 | .int,.int k a,.int k' b=>if k = k' then some (decide (a = b)) else none
 | .str,.string a,.string b=>some (decide (a = b))
 | .bool,.bool a,.bool b=>some (a == b)
 | _,_,_=>none
def cellsT (ag:Bool) (v:Value) (o:Nat):Option Value:=if ag then (match v with | .agg cs=>cs[o]? | _=>none) else if o = 0 then some v else none
inductive PlanV (x y:Nat → Option Value):List (Nat × LK) → Bool → Prop
 | nil:PlanV x y [] true
 | cons {o:Nat} {k:LK} {u v:Value} {b c:Bool} {p:List (Nat × LK)} (hx:x o = some u) (hy:y o = some v) (h:leafV k u v = some b) (hp:PlanV x y p c):PlanV x y ((o,k) :: p) (b && c)
theorem PlanV.split {x y:Nat → Option Value}:∀ {p r:List (Nat × LK)} {b:Bool},PlanV x y (p ++ r) b → ∃ b1 b2,PlanV x y p b1 ∧ PlanV x y r b2 ∧ b = (b1 && b2)
 | [],r,b,h=>⟨true,b,.nil,h,by simp⟩
 | (o,k) :: p,r,b,h=>by
  cases h with
  | cons hx hy hl hp=>
   obtain ⟨b1,b2,h1,h2,rfl⟩:=hp.split
   exact ⟨_,b2,.cons hx hy hl h1,h2,by simp [Bool.and_assoc]⟩
theorem PlanV.shift {x y x' y':Nat → Option Value} {off sz:Nat} (hx:∀ o,o < sz → x' o = x (off + o)) (hy:∀ o,o < sz → y' o = y (off + o)):∀ {p:List (Nat × LK)} {b:Bool},(p.all fun q=>decide (q.1 < sz)) = true → PlanV x y (p.map fun q=>(off + q.1,q.2)) b → PlanV x' y' p b
 | [],b,_,h=>by cases h; exact .nil
 | (o,k) :: p,b,ha,h=>by
  simp only [List.all_cons,Bool.and_eq_true,decide_eq_true_eq] at ha
  cases h with
  | cons h1 h2 hl hp=>exact .cons ((hx o ha.1).trans h1) ((hy o ha.1).trans h2) hl (PlanV.shift hx hy ha.2 hp)
section
variable {P : Program} (w : World)
theorem eqP_ag {d:Nat} {t:TypeId} {p:List (Nat × LK)} (h:eqP P d t = some p):aggOf P t = some true ∨ (aggOf P t = some false ∧ ∃ k,p = [(0,k)]):=by
 cases d with
 | zero=>simp [eqP] at h
 | succ d=>
  unfold eqP at h
  unfold aggOf
  split at h
  ·rename_i hu; rw [hu]; cases h; exact .inr ⟨rfl,_,rfl⟩
  ·rename_i hu; rw [hu]; cases h; exact .inr ⟨rfl,_,rfl⟩
  ·rename_i hu; rw [hu]; cases h; exact .inr ⟨rfl,_,rfl⟩
  ·rename_i hu; rw [hu]; exact .inl rfl
  ·rename_i hu; rw [hu]; exact .inl rfl
  ·cases h
theorem run_part_ok {d:Nat} {t:TypeId} {xs ys:Array Value} {off sz:Nat} {p:List (Nat × LK)} {b:Bool} (hsz:szOf P t = some sz) (hp:eqP P d t = some p) (hall:(p.all fun q=>decide (q.1 < sz)) = true)
  (h:PlanV (fun o=>xs[o]?) (fun o=>ys[o]?) (p.map fun q=>(off + q.1,q.2)) b) :
  ∃ ag vx vy,aggOf P t = some ag ∧ (part t xs off).run P w = .ok vx w ∧ (part t ys off).run P w = .ok vy w ∧ (ag = true → (∃ cs,vx = .agg cs) ∧ ∃ cs,vy = .agg cs) ∧ PlanV (cellsT ag vx) (cellsT ag vy) p b:=by
 rcases eqP_ag hp with ha | ⟨ha,k,rfl⟩
 ·refine ⟨true,.agg (xs.extract off (off + sz)),.agg (ys.extract off (off + sz)),ha,?_,?_,fun _=>⟨⟨_,rfl⟩,_,rfl⟩,PlanV.shift (sz:=sz) (fun o ho=>?_) (fun o ho=>?_) hall h⟩
  ·unfold part
   simp only [Sem.run_bind,run_agg w ha,Result.andThen_ok,if_true,run_sz w hsz,Sem.run_pure]
  ·unfold part
   simp only [Sem.run_bind,run_agg w ha,Result.andThen_ok,if_true,run_sz w hsz,Sem.run_pure]
  ·show (xs.extract off (off + sz))[o]? = _
   rw [Array.getElem?_extract]
   by_cases h2:o < min (off + sz) xs.size - off
   ·rw [if_pos h2]
   ·rw [if_neg h2,Array.getElem?_eq_none (by omega)]
  ·show (ys.extract off (off + sz))[o]? = _
   rw [Array.getElem?_extract]
   by_cases h2:o < min (off + sz) ys.size - off
   ·rw [if_pos h2]
   ·rw [if_neg h2,Array.getElem?_eq_none (by omega)]
 ·cases h with
  | cons hx hy hl hq=>
   rename_i u v b1 c1
   cases hq
   have hx:xs[off]? = some u:=hx
   have hy:ys[off]? = some v:=hy
   refine ⟨false,u,v,ha,?_,?_,(fun e=>by cases e),.cons (u:=u) (v:=v) rfl rfl hl .nil⟩
   ·unfold part
    simp only [Sem.run_bind,run_agg w ha,Result.andThen_ok,Bool.false_eq_true,if_false,hx,Sem.run_pure]
   ·unfold part
    simp only [Sem.run_bind,run_agg w ha,Result.andThen_ok,Bool.false_eq_true,if_false,hy,Sem.run_pure]
theorem run_equal_ok:∀ (d:Nat) (t:TypeId) (p:List (Nat × LK)),eqP P d t = some p → ∀ (D:Nat) (ag:Bool) (vx vy:Value) (b:Bool),d ≤ D → aggOf P t = some ag → (ag = true → (∃ cs,vx = .agg cs) ∧ ∃ cs,vy = .agg cs) →
  PlanV (cellsT ag vx) (cellsT ag vy) p b → (Op.equalIn D t vx vy).run P w = .ok b w
 | 0,t,p,h,_,_,_,_,_,_,_,_,_=>by simp [eqP] at h
 | d + 1,t,p,h,0,_,_,_,_,hD,_,_,_=>by omega
 | d + 1,t,p,h,D + 1,ag,vx,vy,b,hD,hag,hsh,hpl=>by
  unfold eqP at h
  have leaf:∀ k,aggOf P t = some false → p = [(0,k)] → leafV k vx vy = some b:=fun k ha hp=>by
   rw [ha] at hag
   cases hag
   subst hp
   cases hpl with
   | cons hx hy hl hq=>
    cases hq
    cases hx
    cases hy
    simpa using hl
  split at h
  ·rename_i k hu
   cases h
   have hl:=leaf .int (by unfold aggOf; rw [hu]) rfl
   unfold leafV at hl
   split at hl <;> first | (cases hl; done) | skip
   ·split at hl
    ·rename_i e
     subst e
     cases hl
     rw [run_equalIn_int w D t _ k _ _ hu]
     rfl
    ·cases hl
   ·simp_all
   ·simp_all
  ·rename_i hu
   cases h
   have hl:=leaf .str (by unfold aggOf; rw [hu]) rfl
   unfold leafV at hl
   split at hl <;> first | (cases hl; done) | skip
   ·simp_all
   ·cases hl
    rw [run_equalIn_string w D t _ _ hu,toList_eq_iff]
   ·simp_all
  ·rename_i hu
   cases h
   have hl:=leaf .bool (by unfold aggOf; rw [hu]) rfl
   unfold leafV at hl
   split at hl <;> first | (cases hl; done) | skip
   ·simp_all
   ·simp_all
   ·cases hl
    rw [run_equalIn_bool' w D t _ _ hu]
  ·rename_i fs hu
   split at h
   ·cases h
   ·rename_i hst
    have ha:aggOf P t = some true:=by unfold aggOf; rw [hu]
    rw [ha] at hag
    cases hag
    obtain ⟨⟨xs,rfl⟩,ys,rfl⟩:=hsh rfl
    have hfs:P.fieldsOf t = fs:=by unfold Program.fieldsOf; rw [hu]
    rw [run_equalIn_struct w D t xs ys (by rw [hfs]; exact hu) (by simpa using hst),hfs]
    have hpl:PlanV (fun o=>xs[o]?) (fun o=>ys[o]?) p b:=hpl
    clear hu hfs hst ha hsh leaf
    have go:∀ (l:List Field) (p:List (Nat × LK)) (b:Bool),eqFs P (eqP P d) l = some p → PlanV (fun o=>xs[o]?) (fun o=>ys[o]?) p b → (Op.eqFields D xs ys l).run P w = .ok b w:=by
     intro l
     induction l with
     | nil=>intro p b h hpl; simp [eqFs] at h; subst h; cases hpl; simp [Op.eqFields]
     | cons f l ih=>
      intro p b h hpl
      unfold eqFs at h
      split at h
      ·cases h
      ·rename_i hname
       split at h
       ·rename_i sz q r e1 e2 e3
        split at h
        ·rename_i hall
         cases h
         obtain ⟨b1,b2,h1,h2,rfl⟩:=hpl.split
         obtain ⟨ag,ux,uy,hag,r1,r2,hsh,hq⟩:=run_part_ok w e1 e2 hall h1
         have hrun:=run_equal_ok d f.type q e2 D ag ux uy b1 (by omega) hag hsh hq
         unfold Op.eqFields
         rw [if_pos (by simpa using hname)]
         simp only [Sem.run_bind,r1,r2,hrun,Result.andThen_ok]
         cases b1
         ·simp
         ·simpa using ih r b2 e3 h2
        ·cases h
       ·cases h
    exact go _ _ _ h hpl
  ·rename_i n e hu
   split at h
   ·rename_i sz q e1 e2
    split at h
    ·rename_i hall
     cases h
     have ha:aggOf P t = some true:=by unfold aggOf; rw [hu]
     rw [ha] at hag
     cases hag
     obtain ⟨⟨xs,rfl⟩,ys,rfl⟩:=hsh rfl
     obtain ⟨i,hi,hisz⟩:=Option.map_eq_some_iff.1 e1
     have hcells:P.cellsOf e = sz:=by
      unfold Program.cellsOf
      simp [hi,hisz]
     rw [run_equalIn_array w D xs ys hu hi,hcells]
     have hpl:PlanV (fun o=>xs[o]?) (fun o=>ys[o]?) ((List.range n).flatMap fun i=>q.map fun r=>(i * sz + r.1,r.2)) b:=hpl
     clear hu hsh leaf ha
     have go:∀ (l:List Nat) (b:Bool),PlanV (fun o=>xs[o]?) (fun o=>ys[o]?) (l.flatMap fun i=>q.map fun r=>(i * sz + r.1,r.2)) b → (Op.eqItems D e sz xs ys l).run P w = .ok b w:=by
      intro l
      induction l with
      | nil=>intro b hpl; cases hpl; simp [Op.eqItems]
      | cons i l ih=>
       intro b hpl
       rw [List.flatMap_cons] at hpl
       obtain ⟨b1,b2,h1,h2,rfl⟩:=hpl.split
       obtain ⟨ag,ux,uy,hag,r1,r2,hsh,hq⟩:=run_part_ok w e1 e2 hall h1
       have hrun:=run_equal_ok d e q e2 D ag ux uy b1 (by omega) hag hsh hq
       unfold Op.eqItems
       simp only [Sem.run_bind,r1,r2,hrun,Result.andThen_ok]
       cases b1
       ·simp
       ·simpa using ih b2 h2
     exact go _ _ hpl
    ·cases h
   ·cases h
  ·cases h
end
theorem eqP_guard {P:Program}:∀ (d:Nat) (t:TypeId) (p:List (Nat × LK)),eqP P d t = some p → ∀ D,d ≤ D → P.eqGuardType D t = false
 | 0,t,p,h,_,_=>by simp [eqP] at h
 | d + 1,t,p,h,0,hD=>by omega
 | d + 1,t,p,h,D + 1,hD=>by
  unfold eqP at h
  unfold Program.eqGuardType
  split at h
  ·rename_i hu; rw [hu]
  ·rename_i hu; rw [hu]
  ·rename_i hu; rw [hu]
  ·rename_i fs hu
   rw [hu]
   split at h
   ·cases h
   ·have go:∀ (l:List Field) (p:List (Nat × LK)),eqFs P (eqP P d) l = some p → ∀ f ∈ l,P.eqGuardType D f.type = false:=by
     intro l
     induction l with
     | nil=>intro p h f hf; simp at hf
     | cons g l ih=>
      intro p h f hf
      unfold eqFs at h
      split at h
      ·cases h
      ·split at h
       ·rename_i sz q r e1 e2 e3
        rcases List.mem_cons.1 hf with rfl | hf
        ·exact eqP_guard d _ q e2 D (by omega)
        ·exact ih r e3 f hf
       ·cases h
    dsimp only
    rw [Array.any_eq_false]
    intro i hi
    have:=go fs.toList _ h fs[i] (Array.getElem_mem_toList hi)
    simp [this]
  ·rename_i n e hu
   rw [hu]
   split at h
   ·rename_i sz q e1 e2
    exact eqP_guard d e q e2 D (by omega)
   ·cases h
  ·cases h
theorem depth_ge (P:Program):8 ≤ P.depth:=by unfold Program.depth Made.depth; omega
def leafA:LK → AV → AV → Option Bool
 | .int,.int k a,.int k' b=>if k = k' then some (decide (a = b)) else none
 | .str,.str a,.str b=>some (decide (a = b))
 | .bool,.bool a,.bool b=>some (a == b)
 | _,_,_=>none
def planA (x y:List AV):List (Nat × LK) → Option Bool
 | []=>some true
 | (o,k) :: p=>(x[o]?).bind fun u=>(y[o]?).bind fun v=>(leafA k u v).bind fun b=>(planA x y p).map fun c=>b && c
def eqPlan (P:Program) (op:BinOp) (t:TypeId):Option (Bool × List (Nat × LK)):=match op with
 | .eql=>if aggOf P t = some true then (eqP P 8 t).map fun p=>(false,p) else none
 | .neq=>if aggOf P t = some true then (eqP P 8 t).map fun p=>(true,p) else none
 | _=>none
def eqA (ng:Bool) (p:List (Nat × LK)):AV → AV → Option AV
 | .agg x,.agg y=>(planA x y p).map fun b=>.bool (b != ng)
 | _,_=>none
theorem planA_sound {C:Ctx} {x y:List AV} {vx vy:List Value} (hx:∀ i a,x[i]? = some a → R C a (vx.getD i undef)) (hlx:vx.length = x.length) (hy:∀ i a,y[i]? = some a → R C a (vy.getD i undef)) (hly:vy.length = y.length) :
  ∀ {p:List (Nat × LK)} {b:Bool},planA x y p = some b → PlanV (fun o=>vx.toArray[o]?) (fun o=>vy.toArray[o]?) p b
 | [],b,h=>by cases h; exact .nil
 | (o,k) :: p,b,h=>by
  unfold planA at h
  obtain ⟨u,hu,h⟩:=Option.bind_eq_some_iff.1 h
  obtain ⟨v,hv,h⟩:=Option.bind_eq_some_iff.1 h
  obtain ⟨b1,h1,h⟩:=Option.bind_eq_some_iff.1 h
  obtain ⟨c,h2,rfl⟩:=Option.map_eq_some_iff.1 h
  have hou:o < vx.length:=by have:=(List.getElem?_eq_some_iff.1 hu).1; omega
  have hov:o < vy.length:=by have:=(List.getElem?_eq_some_iff.1 hv).1; omega
  have ru:=hx o u hu
  have rv:=hy o v hv
  rw [List.getD_eq_getElem?_getD,List.getElem?_eq_getElem hou] at ru
  rw [List.getD_eq_getElem?_getD,List.getElem?_eq_getElem hov] at rv
  refine .cons (u:=vx[o]) (v:=vy[o]) (by simp [hou]) (by simp [hov]) ?_ (planA_sound hx hlx hy hly h2)
  generalize hgu:(some vx[o]).getD undef = gu at ru
  generalize hgv:(some vy[o]).getD undef = gv at rv
  have e1:vx[o] = gu:=hgu
  have e2:vy[o] = gv:=hgv
  rw [e1,e2]
  unfold leafA at h1
  split at h1 <;> first | (cases h1; done) | skip
  ·cases ru; cases rv; simpa [leafV] using h1
  ·cases ru; cases rv; simpa [leafV] using h1
  ·cases ru; cases rv; simpa [leafV] using h1
theorem eqA_sound {P:Program} {C:Ctx} {t:TypeId} {op:BinOp} {ng:Bool} {p:List (Nat × LK)} {x y v:AV} {vx vy:Value} (ox oy:Operand) (hp:eqPlan P op t = some (ng,p)) (hx:R C x vx) (hy:R C y vy) (h:eqA ng p x y = some v) (w:World) :
  ∃ u,(do eqGuard op t ox oy vx vy; binOp op t vx vy:Sem Value).run P w = .ok u w ∧ R C v u:=by
 unfold eqA at h
 split at h
 case h_2=>cases h
 obtain ⟨b,hb,rfl⟩:=Option.map_eq_some_iff.1 h
 cases hx with
 | agg _ us hlu hu=>
  cases hy with
  | agg _ ws hlw hw=>
   have hpl:=planA_sound hu hlu hw hlw hb
   unfold eqPlan at hp
   split at hp
   ·split at hp
    ·rename_i hc
     obtain ⟨q,hq,e⟩:=Option.map_eq_some_iff.1 hp
     cases e
     have hr:=run_equal_ok (P:=P) w 8 t p hq 10000 true (.agg us.toArray) (.agg ws.toArray) b (by omega) hc (fun _=>⟨⟨_,rfl⟩,_,rfl⟩) hpl
     refine ⟨.bool b,?_,by simpa using R.bool (C:=C) b⟩
     simp only [Sem.run_bind,run_eqGuard_agg w .eql t ox oy _ _ (eqP_guard 8 t p hq _ (depth_ge P)),Result.andThen_ok,run_eql_struct,hr]
    ·cases hp
   ·split at hp
    ·rename_i hc
     obtain ⟨q,hq,e⟩:=Option.map_eq_some_iff.1 hp
     cases e
     have hr:=run_equal_ok (P:=P) w 8 t p hq 10000 true (.agg us.toArray) (.agg ws.toArray) b (by omega) hc (fun _=>⟨⟨_,rfl⟩,_,rfl⟩) hpl
     refine ⟨.bool (!b),?_,by simpa using R.bool (C:=C) (!b)⟩
     simp only [Sem.run_bind,run_eqGuard_agg w .neq t ox oy _ _ (eqP_guard 8 t p hq _ (depth_ge P)),Result.andThen_ok,run_neq_struct,hr]
    ·cases hp
   ·cases hp
end Go.Am
namespace Go.Am
open Go.RowKit
def Enters (P:Program) (f:FuncId):Prop:=∀ args w,(callFunc f args).run P w = .ok (.enter f args) w
def RL (C:Ctx) (as:List AV) (vs:List Value):Prop:=vs.length = as.length ∧ ∀ (i:Nat) (a:AV),as[i]? = some a → R C a (vs.getD i undef)
structure Spec (P:Program) (f:FuncId) (args:List AV) (r:AV):Prop where
 enters:Enters P f
 calls:∀ (w:World) (S:Nat → Prop) (l:Nat) (vs:List Value),(∀ b,S b → b < w.heap.size) → RL (bare S w l) args vs →
  CallsIn (FW none) 0 P f vs.toArray w fun e w'=>∃ v,e = .returned v ∧ Below w.heap.size w w' ∧ R (bare (fun b=>S b ∨ (w.heap.size ≤ b ∧ b < w'.heap.size)) w' l) r v
def frz0 (H:Heap):AV → Heap
 | .ref k ver .o=>match H k with
  | some (.row v _ _ rows)=>if v = ver then upd H k (some (.froz v rows)) else H
  | _=>H
 | _=>H
def frzB (H:Heap):AV → Heap
 | .ref k ver (.p _)=>match H k with
  | some (.box v _ cells)=>if v = ver then upd H k (some (.fbox v cells)) else H
  | _=>H
 | a=>frz0 H a
def frz1 (H:Heap):AV → Heap
 | .agg cs=>cs.foldl frz0 H
 | .func _ cs=>cs.foldl frzB H
 | a=>frz0 H a
def frz (H:Heap):AV → Heap
 | .tup cs=>cs.foldl frz1 H
 | a=>frz1 H a
def frzs (H:Heap) (xs:List AV):Heap:=xs.foldl frz H
def frzX (H:Heap) (x:AV):Heap:=frz (frzB H x) x
def frzXs (H:Heap) (xs:List AV):Heap:=xs.foldl frzX H
section
variable {E : Env} {s : St} {a : Act} {w : World} {own : Nat → Option Nat} {C D : Nat → Prop} {Ds : List Nat} {S : Nat → Prop}
def Frz (f:Heap → AV → Heap):Prop:=∀ (E:Env) (s:St) (a:Act) (w:World) (S:Nat → Prop) (own:Nat → Option Nat) (C D:Nat → Prop) (Ds:List Nat) (x:AV),RelAt E s a w S own C D Ds →
 ∃ S',RelAt E { s with H:=f s.H x } a w S' own C D Ds ∧ (ctx E s w S own).le ⟨f s.H x,own,S',w,E.l⟩
theorem frz0_ok:Frz frz0:=fun E s a w S own C D Ds x h=>by
 unfold Am.frz0
 split
 ·split
  ·rename_i k ver _ v t sz rows hk
   split
   ·exact ⟨_,h.freeze hk rfl⟩
   ·exact ⟨S,h,.refl _⟩
  ·exact ⟨S,h,.refl _⟩
 ·exact ⟨S,h,.refl _⟩
theorem frzB_ok:Frz frzB:=fun E s a w S own C D Ds x h=>by
 unfold Am.frzB
 split
 ·split
  ·rename_i k ver _ _ v t cells hk
   split
   ·exact ⟨_,h.freeze hk rfl⟩
   ·exact ⟨S,h,.refl _⟩
  ·exact ⟨S,h,.refl _⟩
 ·exact frz0_ok E s a w S own C D Ds x h
theorem Frz.fold {f:Heap → AV → Heap} (hf:Frz f):∀ (xs:List AV) (E:Env) (s:St) (a:Act) (w:World) (S:Nat → Prop) (own:Nat → Option Nat) (C D:Nat → Prop) (Ds:List Nat),RelAt E s a w S own C D Ds →
  ∃ S',RelAt E { s with H:=xs.foldl f s.H } a w S' own C D Ds ∧ (ctx E s w S own).le ⟨xs.foldl f s.H,own,S',w,E.l⟩
 | [],E,s,a,w,S,own,C,D,Ds,h=>⟨S,h,.refl _⟩
 | x :: xs,E,s,a,w,S,own,C,D,Ds,h=>by
  obtain ⟨S1,h1,l1⟩:=hf E s a w S own C D Ds x h
  obtain ⟨S2,h2,l2⟩:=Frz.fold hf xs E _ a w S1 own C D Ds h1
  exact ⟨S2,h2,l1.trans l2⟩
theorem frz1_ok:Frz frz1:=fun E s a w S own C D Ds x h=>by
 unfold Am.frz1
 split
 ·exact frz0_ok.fold _ E s a w S own C D Ds h
 ·exact frzB_ok.fold _ E s a w S own C D Ds h
 ·exact frz0_ok E s a w S own C D Ds x h
theorem frz_ok:Frz frz:=fun E s a w S own C D Ds x h=>by
 unfold Am.frz
 split
 ·exact frz1_ok.fold _ E s a w S own C D Ds h
 ·exact frz1_ok E s a w S own C D Ds x h
theorem frzX_ok:Frz frzX:=fun E s a w S own C D Ds x h=>by
 obtain ⟨S1,h1,l1⟩:=frzB_ok E s a w S own C D Ds x h
 obtain ⟨S2,h2,l2⟩:=frz_ok E _ a w S1 own C D Ds x h1
 exact ⟨S2,h2,l1.trans l2⟩
theorem Rel.frzXs (h:Rel E s a w) (xs:List AV):Rel E { s with H:=frzXs s.H xs } a w:=by
 obtain ⟨S,own,C,D,Ds,h⟩:=h
 obtain ⟨S',h',_⟩:=frzX_ok.fold xs E s a w S own C D Ds h
 exact ⟨S',own,C,D,Ds,h'⟩
theorem Rel.frzs (h:Rel E s a w) (xs:List AV):Rel E { s with H:=frzs s.H xs } a w:=by
 obtain ⟨S,own,C,D,Ds,h⟩:=h
 obtain ⟨S',h',_⟩:=frz_ok.fold xs E s a w S own C D Ds h
 exact ⟨S',own,C,D,Ds,h'⟩
end
def minV:AV → AV → Option AV
 | .int k a,.int _ b=>some (.int k (if b < a then b else a))
 | _,_=>none
def maxV:AV → AV → Option AV
 | .int k a,.int _ b=>some (.int k (if b > a then b else a))
 | _,_=>none
def notV:AV → Option AV
 | .bool b=>some (.bool (!b))
 | _=>none
def okPtr (H:Heap):AV → Bool
 | .ref k ver (.p _)=>match H k with
  | some (.box v _ _) | some (.fbox v _)=>v == ver
  | _=>false
 | .ref k ver (.e i _)=>match H k with
  | some (.row v _ _ rows)=>v == ver && decide (i < rows.length)
  | _=>false
 | .elt _ _=>true
 | .func _ _ | .yld=>true
 | _=>false
def callArgs (τ:Nat → AV) (H:Heap) (c:Call) (caps:List AV):List AV:=(c.args.toList.map (ev τ) ++ caps).map (pur H)
def ixV (τ:Nat → AV) (x:Option Operand):Option (Option (IntKind × Int)):=match x with
 | none=>some none
 | some o=>match ev τ o with
  | .int k i=>some (some (k,i))
  | _=>none
def flat0:AV → Bool
 | .bool _ | .int _ _ | .str _=>true
 | _=>false
def flat:AV → Bool
 | .tup cs | .agg cs=>cs.all flat0
 | a=>flat0 a
theorem R.flat0 {C C':Ctx} {x:AV} {v:Value} (h:R C x v) (hf:Am.flat0 x = true):R C' x v:=by
 cases h with
 | bool b=>exact .bool b
 | int k n=>exact .int k n
 | str s hs=>exact .str s hs
 | _=>simp [Am.flat0] at hf
theorem R.flat {C C':Ctx} {x:AV} {v:Value} (h:R C x v) (hf:Am.flat x = true):R C' x v:=by
 cases h with
 | tup cs vs hl hh=>
  simp only [Am.flat] at hf
  exact .tup cs vs hl fun i a ha=>(hh i a ha).flat0 (List.all_eq_true.1 hf a (List.mem_of_getElem? ha))
 | agg cs vs hl hh=>
  simp only [Am.flat] at hf
  exact .agg cs vs hl fun i a ha=>(hh i a ha).flat0 (List.all_eq_true.1 hf a (List.mem_of_getElem? ha))
 | bool b=>exact .bool b
 | int k n=>exact .int k n
 | str s hs=>exact .str s hs
 | _=>simp [Am.flat,Am.flat0] at hf
structure RowSpec (P:Program) (f:FuncId) (args:List AV) (t:TypeId) (sz:Nat) (rows:List (List AV)):Prop where
 enters:Enters P f
 shut:closedLL rows = true
 calls:∀ (w:World) (S:Nat → Prop) (l:Nat) (vs:List Value),(∀ b,S b → b < w.heap.size) → RL (bare S w l) args vs →
  CallsIn (FW none) 0 P f vs.toArray w fun e w'=>∃ v og S',e = .returned v ∧ Below w.heap.size w w' ∧ (∀ g,og = some g → w.heap.size ≤ g ∧ g < w'.heap.size) ∧ HRel (bare S' w' l) og (.row 0 t sz rows) ∧ RefVal w' og (.row 0 t sz rows) .o v ∧ v.oneCell' = true ∧
   (∀ b,S' b → S b ∨ (w.heap.size ≤ b ∧ b < w'.heap.size)) ∧ ∀ g,og = some g → ¬ S' g
theorem closedLL_mem:∀ {rows:List (List AV)},closedLL rows = true → ∀ r ∈ rows,closedL r = true
 | x :: l,h,r,hr=>by
  simp only [closedLL,Bool.and_eq_true] at h
  rcases List.mem_cons.1 hr with rfl | hr
  ·exact h.1
  ·exact closedLL_mem h.2 r hr
theorem HRel.shutRow {C C':Ctx} {og:Option Nat} {v v':Nat} {t:TypeId} {sz:Nat} {rows:List (List AV)} (h:HRel C og (.row v t sz rows)) (hc:closedLL rows = true) (hS:∀ b,C.S b → C'.S b) (hw:C'.w = C.w) (hl:C'.l = C.l):HRel C' og (.row v' t sz rows):=by
 cases og with
 | none=>exact h
 | some g=>
  obtain ⟨cs,cap,h1,h2,h3,h4,h5,h6,h7⟩:=h
  refine ⟨cs,cap,by rw [hw]; exact h1,h2,h3,h4,h5,h6,fun i a ha=>?_⟩
  obtain ⟨u,k1,k2,k3⟩:=h7 i a ha
  have hm:=List.mem_of_getElem? ha
  obtain ⟨r,hr,har⟩:=List.mem_flatten.1 hm
  obtain ⟨q,hq,hqa⟩:=List.getElem_of_mem har
  have hca:=closedL_get (closedLL_mem hc r hr) (List.getElem?_eq_some_iff.2 ⟨hq,hqa⟩)
  exact ⟨u,k1,R.mono (C:=bare C.S C.w C.l) (C':=C') ⟨fun b hb=>⟨hS b hb,by rw [hw]⟩,fun k blk hk=>(by cases hk),hl⟩ (k2.bare C.l hca),k3⟩
inductive OpR (P:Program) (τ:Nat → AV) (H:Heap) (o:Oper):AV → Heap → Prop
 | move (x:Operand) (h:o.op = .move x):OpR P τ H o (ev τ x) H
 | assign (x:Operand) (h:o.op = .assign x):OpR P τ H o (ev τ x) H
 | pick (c x y:Operand) (t:Bool) (h:o.op = .pick c x y) (hc:ev τ c = .bool t):OpR P τ H o (if t then ev τ x else ev τ y) H
 | alloc (e:TypeId) (d:Nat) (z:Value) (h:o.op = .alloc e) (hd:o.dst = some d) (hz:zeroOf P e = some z) (hok:okCells (ofVal z).cells = true) :
   OpR P τ H o (.ref d (nv H d) (.p 0)) (upd H d (some (.box (nv H d) e (ofVal z).cells)))
 | box (e:TypeId) (x:Operand) (d:Nat) (h:o.op = .box e x) (hd:o.dst = some d) (hok:okCells (ev τ x).cells = true) :
   OpR P τ H o (.ref d (nv H d) (.p 0)) (upd H d (some (.box (nv H d) e (ev τ x).cells)))
 | build (t:TypeId) (parts:Array (Nat × Operand)) (z:Value) (cells:List AV) (h:o.op = .build t parts) (hz:zeroOf P t = some z) (hok:fldsOk P t = true) (hzc:okCells (ofVal z).cells = true)
   (hf:fillA (placeOf P t) (ofVal z).cells (parts.toList.map fun p=>(p.1,ev τ p.2)) = some cells):OpR P τ H o (.agg cells) H
 | lit (t:TypeId) (len:Nat) (parts:Array (Nat × Operand)) (e:TypeId) (n:Nat) (z:Value) (rows:List (List AV)) (H1:Heap) (h:o.op = .buildSlice t len parts) (he:elOf P t = some e) (hn:szOf P e = some n) (hn0:0 < n) (hz:zeroOf P e = some z)
   (hzc:okCells (ofVal z).cells = true) (hzn:(ofVal z).cells.length = n) (hlim:len * n ≤ 2 ^ 24) (hH:H1 = frzs H (parts.toList.map fun p=>ev τ p.2))
   (hf:fillR n (List.replicate len (ofVal z).cells) (parts.toList.map fun p=>(p.1,pur H1 (ev τ p.2))) = some rows):OpR P τ H o (.slt rows) H1
 | litOwn (t:TypeId) (len:Nat) (parts:Array (Nat × Operand)) (e:TypeId) (n d:Nat) (z:Value) (rows:List (List AV)) (H1:Heap) (h:o.op = .buildSlice t len parts) (hd:o.dst = some d) (he:elOf P t = some e) (hn:szOf P e = some n) (hn0:0 < n) (hz:zeroOf P e = some z)
   (hzc:okCells (ofVal z).cells = true) (hzn:(ofVal z).cells.length = n) (hlim:len * n ≤ 2 ^ 24) (hH:H1 = frzs H (parts.toList.map fun p=>ev τ p.2))
   (hf:fillR n (List.replicate len (ofVal z).cells) (parts.toList.map fun p=>(p.1,pur H1 (ev τ p.2))) = some rows):OpR P τ H o (.ref d (nv H1 d) .o) (upd H1 d (some (.row (nv H1 d) e n rows)))
 | makeSlice (t e:TypeId) (l c:Operand) (n b d:Nat) (z:Value) (kl kc:IntKind) (len cap:Nat) (h:o.op = .makeSlice t l c) (hd:o.dst = some d) (he:elOf P t = some e) (hn:szOf P e = some n) (hb:byOf P e = some b) (hn0:0 < n) (hz:zeroOf P e = some z)
   (hzc:okCells (ofVal z).cells = true) (hzn:(ofVal z).cells.length = n) (hl:ev τ l = .int kl len) (hc:ev τ c = .int kc cap) (hlc:len ≤ cap) (hlim:b * cap ≤ 281474976710656) (h63:cap ≤ maxLen) :
   OpR P τ H o (.ref d (nv H d) .o) (upd H d (some (.row (nv H d) e n (List.replicate len (ofVal z).cells))))
 | load (t:TypeId) (x:Operand) (n:Nat) (ag:Bool) (v:AV) (h:o.op = .load t x) (hn:szOf P t = some n) (ha:aggOf P t = some ag) (hr:rdV H n ag (ev τ x) = some v):OpR P τ H o v H
 | store (t:TypeId) (x y:Operand) (n:Nat) (H':Heap) (h:o.op = .store t x y) (hn:szOf P t = some n) (hw:wrV H n (ev τ y).cells (ev τ x) = some H'):OpR P τ H o (.tup []) H'
 | binOp (op:BinOp) (t yt:TypeId) (x y:Operand) (v:AV) (h:o.op = .binOp op t x y yt) (hv:binV (boolOf P t) op (ev τ x) (ev τ y) = some v):OpR P τ H o v H
 | eqAgg (op:BinOp) (t yt:TypeId) (x y:Operand) (ng:Bool) (p:List (Nat × LK)) (v:AV) (h:o.op = .binOp op t x y yt) (hp:eqPlan P op t = some (ng,p)) (hv:eqA ng p (ev τ x) (ev τ y) = some v):OpR P τ H o v H
 | index (t:TypeId) (x ix:Operand) (s:ByteArray) (k:IntKind) (i:Int) (b:UInt8) (h:o.op = .index t x ix) (ht:P.underlying t = some .string) (hx:ev τ x = .str s) (hi:ev τ ix = .int k i) (h0:0 ≤ i) (hb:s[i.toNat]? = some b):OpR P τ H o (.int .u8 b.toNat) H
 | sliceStr (t:TypeId) (x:Operand) (lo hi:Option Operand) (s:ByteArray) (l' h':Option (IntKind × Int)) (l hh:Nat) (h:o.op = .slice t x lo hi none) (ht:P.underlying t = some .string) (hx:ev τ x = .str s) (hlo:ixV τ lo = some l') (hhi:ixV τ hi = some h')
   (hl:(l'.map (·.2)).getD 0 = (l:Int)) (hh':(h'.map (·.2)).getD (s.size:Int) = (hh:Int)) (hlh:l ≤ hh) (hhr:hh ≤ s.size):OpR P τ H o (.str (s.extract l hh)) H
 | rangeStr (t:TypeId) (x:Operand) (d:Nat) (s:ByteArray) (h:o.op = .range t x) (hd:o.dst = some d) (ht:P.underlying t = some .string) (hx:ev τ x = .str s):OpR P τ H o (.ref d (nv H d) (.p 0)) (upd H d (some (.obj (nv H d) (.siter s 0))))
 | nextStr (x:Operand) (k ver:Nat) (s:ByteArray) (pos:Nat) (h:o.op = .next x true) (hx:ev τ x = .ref k ver (.p 0)) (hk:H k = some (.obj ver (.siter s pos))) (hlt:pos < s.size) :
   OpR P τ H o (.tup [.bool true,.int .i64 pos,.int .i32 (Utf8.decode s pos).1]) (upd H k (some (.obj ver (.siter s (pos + (Utf8.decode s pos).2)))))
 | nextEnd (x:Operand) (k ver:Nat) (s:ByteArray) (pos:Nat) (h:o.op = .next x true) (hx:ev τ x = .ref k ver (.p 0)) (hk:H k = some (.obj ver (.siter s pos))) (hge:¬ pos < s.size):OpR P τ H o (.tup [.bool false]) H
 | not (t:TypeId) (x:Operand) (v:AV) (h:o.op = .unOp .not t x) (hv:notV (ev τ x) = some v):OpR P τ H o v H
 | neg (t:TypeId) (x:Operand) (k:IntKind) (i:Int) (h:o.op = .unOp .neg t x) (hx:ev τ x = .int k i):OpR P τ H o (.int k (k.wrap (0 - i))) H
 | slice3 (t e:TypeId) (x hi mx:Operand) (n:Nat) (k k':IntKind) (rows:List (List AV)) (h:o.op = .slice t x none (some hi) (some mx)) (he:elOf P t = some e) (hn:szOf P e = some n) (hx:rowsA H (ev τ x) = some rows)
   (hsz:(rows.all fun r=>r.length == n) = true) (hhi:ev τ hi = .int k rows.length) (hmx:ev τ mx = .int k' rows.length):OpR P τ H o (.sl rows) H
 | fieldAddr (t:TypeId) (x:Operand) (f off n:Nat) (v:AV) (h:o.op = .fieldAddr t x f) (hf:fldOf P t f = some (off,n)) (hn:n ≠ 0) (hv:addA H off (ev τ x) = some v):OpR P τ H o v H
 | field (t:TypeId) (x:Operand) (f off n:Nat) (ag:Bool) (cs:List AV) (v:AV) (h:o.op = .field t x f) (hf:fldOf P t f = some (off,n)) (ha:fldAgOf P t f = some ag) (hx:ev τ x = .agg cs) (hv:readA cs off n ag = some v):OpR P τ H o v H
 | indexAddr (t e:TypeId) (x ix:Operand) (n:Nat) (k:IntKind) (i:Int) (v:AV) (h:o.op = .indexAddr t x ix) (he:elOf P t = some e) (hn:szOf P e = some n) (hi:ev τ ix = .int k i) (hv:ixA H n i (ev τ x) = some v):OpR P τ H o v H
 | indexArr (t e:TypeId) (x ix:Operand) (len n:Nat) (k:IntKind) (i:Int) (v:AV) (h:o.op = .indexAddr t x ix) (he:arOf P t = some (len,e)) (hn:szOf P e = some n) (hi:ev τ ix = .int k i) (h0:0 ≤ i) (h1:i < len)
   (hv:addA H (i.toNat * n) (ev τ x) = some v):OpR P τ H o v H
 | extract (x:Operand) (i:Nat) (vs:List AV) (v:AV) (h:o.op = .extract x i) (hx:ev τ x = .tup vs) (hv:vs[i]? = some v):OpR P τ H o v H
 | slice (t e:TypeId) (x:Operand) (lo hi:Option Operand) (n:Nat) (l' h':Option (IntKind × Int)) (rows:List (List AV)) (l hh:Nat) (h:o.op = .slice t x lo hi none) (he:elOf P t = some e) (hn:szOf P e = some n) (hx:rowsA H (ev τ x) = some rows)
   (hsz:(rows.all fun r=>r.length == n) = true) (hlo:ixV τ lo = some l') (hhi:ixV τ hi = some h') (hl:(l'.map (·.2)).getD 0 = (l:Int)) (hh':(h'.map (·.2)).getD (rows.length:Int) = (hh:Int)) (hlh:l ≤ hh) (hhr:hh ≤ rows.length) :
   OpR P τ H o (.sl ((rows.drop l).take (hh - l))) H
 | makeFunc (f:FuncId) (caps:Array Operand) (h:o.op = .makeFunc (.func f) #[] caps):OpR P τ H o (.func f (caps.toList.map (ev τ))) H
 | nilCheck (x:Operand) (h:o.op = .nilCheck x) (hx:okPtr H (ev τ x) = true):OpR P τ H o (ev τ x) H
 | convInt (st dt:TypeId) (x:Operand) (k k':IntKind) (i:Int) (h:o.op = .convert st dt x) (hs:(P.underlying st).isSome = true) (hd:P.underlying dt = some (.int k)) (hx:ev τ x = .int k' i):OpR P τ H o (.int k (k.wrap i)) H
 | len (t:TypeId) (x:Operand) (n:Nat) (h:o.op = .call { callee:=.builtin .len,args:=#[x],argTypes:=#[t] }) (ht:(elOf P t).isSome = true) (hx:lenA H (ev τ x) = some n):OpR P τ H o (.int .i64 n) H
 | lenStr (t:TypeId) (x:Operand) (b:ByteArray) (h:o.op = .call { callee:=.builtin .len,args:=#[x],argTypes:=#[t] }) (ht:P.underlying t = some .string) (hx:ev τ x = .str b):OpR P τ H o (.int .i64 b.size) H
 | makeMap (t e:TypeId) (d:Nat) (kd:KD) (h:o.op = .makeMap t none) (hd:o.dst = some d) (ht:mapD P t = some (kd,e)):OpR P τ H o (.ref d (nv H d) .o) (upd H d (some (.obj (nv H d) (.mp kd []))))
 | lookup (t e:TypeId) (x i:Operand) (co:Bool) (kd:KD) (z:Value) (r:AV) (h:o.op = .lookup t x i co) (ht:mapD P t = some (kd,e)) (hz:zeroOf P e = some z) (hr:lkV H kd (ofVal z) co (ev τ x) (ev τ i) = some r):OpR P τ H o r H
 | mapUpdate (t e:TypeId) (x i y:Operand) (kd:KD) (H':Heap) (h:o.op = .mapUpdate t x i y) (ht:mapD P t = some (kd,e)) (hr:mupV H kd (ev τ x) (ev τ i) (ev τ y) = some H'):OpR P τ H o (.tup []) H'
 | mapDel (t u e:TypeId) (x i:Operand) (kd:KD) (H':Heap) (h:o.op = .call { callee:=.builtin .delete,args:=#[x,i],argTypes:=#[t,u] }) (ht:mapD P t = some (kd,e)) (hr:mdlV H kd (ev τ x) (ev τ i) = some H'):OpR P τ H o (.tup []) H'
 | mapClr (t e:TypeId) (x:Operand) (kd:KD) (H':Heap) (h:o.op = .call { callee:=.builtin .clear,args:=#[x],argTypes:=#[t] }) (ht:mapD P t = some (kd,e)) (hr:mclV H kd (ev τ x) = some H'):OpR P τ H o (.tup []) H'
 | min (t1 t2:TypeId) (x y:Operand) (v:AV) (h:o.op = .call { callee:=.builtin .min,args:=#[x,y],argTypes:=#[t1,t2] }) (hv:minV (ev τ x) (ev τ y) = some v):OpR P τ H o v H
 | append (t e:TypeId) (x y:Operand) (n b k ver:Nat) (rows new:List (List AV)) (h:o.op = .call { callee:=.builtin .append,args:=#[x,y],argTypes:=#[t,t] }) (he:elOf P t = some e) (hok:elemOk P e n b = true)
   (hx:ev τ x = .ref k ver .o) (hk:H k = some (.row ver e n rows)) (hy:srcA H n (ev τ y) = some new) (hb:(rows.length + new.length) * b ≤ 140737488355328):OpR P τ H o (.ref k (nv H k) .o) (upd H k (some (.row (nv H k) e n (rows ++ new))))
 | appendNil (t e:TypeId) (x y:Operand) (n b d:Nat) (new:List (List AV)) (h:o.op = .call { callee:=.builtin .append,args:=#[x,y],argTypes:=#[t,t] }) (he:elOf P t = some e) (hok:elemOk P e n b = true)
   (hx:ev τ x = .nils) (hd:o.dst = some d) (hy:srcA H n (ev τ y) = some new) (hb:new.length * b ≤ 140737488355328):OpR P τ H o (.ref d (nv H d) .o) (upd H d (some (.row (nv H d) e n new)))
 | call (f:Operand) (c:Call) (fid:FuncId) (caps:List AV) (r:AV) (H1:Heap) (h:o.op = .call c) (hc:c.callee = .value f) (hf:ev τ f = .func fid caps) (hH:H1 = frzs H (c.args.toList.map (ev τ)))
   (hcl:closedL (callArgs τ H1 c caps) = true) (hs:Spec P fid (callArgs τ H1 c caps) r):OpR P τ H o r H1
 | callFlat (f:Operand) (c:Call) (fid:FuncId) (caps:List AV) (r:AV) (H1:Heap) (h:o.op = .call c) (hc:c.callee = .value f) (hf:ev τ f = .func fid caps) (hH:H1 = frzs H (c.args.toList.map (ev τ)))
   (hcl:closedL (callArgs τ H1 c caps) = true) (hs:Spec P fid (callArgs τ H1 c caps) r) (hfl:flat r = true):OpR P τ H o r H
 | callRow (f:Operand) (c:Call) (fid:FuncId) (caps:List AV) (H1:Heap) (t:TypeId) (sz:Nat) (rows:List (List AV)) (d:Nat) (h:o.op = .call c) (hc:c.callee = .value f) (hf:ev τ f = .func fid caps) (hH:H1 = frzs H (c.args.toList.map (ev τ)))
   (hcl:closedL (callArgs τ H1 c caps) = true) (hd:o.dst = some d) (hs:RowSpec P fid (callArgs τ H1 c caps) t sz rows):OpR P τ H o (.ref d (nv H1 d) .o) (upd H1 d (some (.row (nv H1 d) t sz rows)))
end Go.Am
