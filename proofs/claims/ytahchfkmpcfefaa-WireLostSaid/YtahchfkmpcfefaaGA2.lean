import Derived.Test.YtahchfkmpcfefaaGA1
set_option linter.unusedVariables false
set_option linter.unusedSimpArgs false
namespace Go.Am
open Go.RowKit
theorem map_vals {C:Ctx} {τ:Nat → AV} {a:Act} (h:∀ i,R C (τ i) (a.tmps.getD i undef)) (f:AV → AV) (hf:∀ x v,R C x v → R C (f x) v) (parts:Array (Nat × Operand)) :
  ((parts.map fun (i,x)=>(i,a.eval x)).toList.map (·.1) = (parts.toList.map fun p=>(p.1,f (ev τ p.2))).map (·.1)) ∧
  (∀ (i:Nat) (p:Nat × AV) (q:Nat × Value),(parts.toList.map fun p=>(p.1,f (ev τ p.2)))[i]? = some p → (parts.map fun (i,x)=>(i,a.eval x)).toList[i]? = some q → R C p.2 q.2):=by
 refine ⟨by simp [Function.comp_def],fun i p q hp hq=>?_⟩
 rw [Array.toList_map,List.getElem?_map] at hq
 rw [List.getElem?_map] at hp
 cases hx:parts.toList[i]? with
 | none=>rw [hx] at hp; cases hp
 | some x=>
  rw [hx] at hp hq
  cases hp
  cases hq
  exact hf _ _ (R_ev h x.2)
section
variable {P : Program} (w : World)
theorem run_index_str {t:TypeId} {s:ByteArray} {k:IntKind} {i:Int} {b:UInt8} (ht:P.underlying t = some .string) (h0:0 ≤ i) (hb:s[i.toNat]? = some b):(Instr.index t (.string s) (.int k i)).run P w = .ok (.int .u8 b.toNat) w:=by
 unfold Instr.index
 simp only [asIntOf,Sem.run_bind,Sem.run_pure,Result.andThen_ok,run_underlying ht,if_pos h0,hb]
theorem run_slice_str {t:TypeId} {s:ByteArray} (ht:P.underlying t = some .string) (lo hi:Option (IntKind × Int)) {l h:Nat} (hl:(lo.map (·.2)).getD 0 = (l:Int)) (hh':(hi.map (·.2)).getD (s.size:Int) = (h:Int)) (hlh:l ≤ h) (hhr:h ≤ s.size) :
  (Instr.sliceAt t (.string s) (lo.map fun p=>.int p.1 p.2) (hi.map fun p=>.int p.1 p.2) none).run P w = .ok (.string (s.extract l h)) w:=by
 have hb:(Instr.sliceBounds false s.size s.size (lo.map fun p=>.int p.1 p.2) (hi.map fun p=>.int p.1 p.2) none).run P w = .ok (l,h,s.size) w:=by
  cases lo with
  | none=>
   have hl0:l = 0:=by simp at hl; omega
   subst hl0
   cases hi with
   | none=>
    have e:s.size = h:=by simp at hh'; omega
    subst e
    rfl
   | some p=>
    obtain ⟨k1,i1⟩:=p
    have e:i1 = (h:Int):=by simpa using hh'
    subst e
    simp only [Instr.sliceBounds,Option.map_some,Option.map_none,Sem.run_bind,Sem.run_pure,Result.andThen_ok,run_sliceBound w k1 (h:Int) s.size _ (by omega) (by omega),Int.toNat_natCast]
  | some q=>
   obtain ⟨k2,i2⟩:=q
   have e2:i2 = (l:Int):=by simpa using hl
   subst e2
   cases hi with
   | none=>
    have e:s.size = h:=by simp at hh'; omega
    subst e
    simp only [Instr.sliceBounds,Option.map_some,Option.map_none,Sem.run_bind,Sem.run_pure,Result.andThen_ok,run_sliceBound w k2 (l:Int) s.size _ (by omega) (by omega),Int.toNat_natCast]
   | some p=>
    obtain ⟨k1,i1⟩:=p
    have e:i1 = (h:Int):=by simpa using hh'
    subst e
    simp only [Instr.sliceBounds,Option.map_some,Option.map_none,Sem.run_bind,Sem.run_pure,Result.andThen_ok,run_sliceBound w k1 (h:Int) s.size _ (by omega) (by omega),Int.toNat_natCast,run_sliceBound w k2 (l:Int) h _ (by omega) (by omega)]
 unfold Instr.sliceAt
 simp only [Sem.run_bind,run_underlying ht,Result.andThen_ok]
 unfold Instr.slice
 simp only [Sem.run_bind,run_underlying ht,Result.andThen_ok,Option.isSome_none,Bool.false_eq_true,if_false,hb,Sem.run_pure]
theorem run_range_str {t:TypeId} {s:ByteArray} (ht:P.underlying t = some .string):(Instr.range t (.string s)).run P w = .ok (.pointer (some ⟨w.heap.size,0,none⟩)) (w.alloc (.stringIter s 0)):=by
 unfold Instr.range
 simp only [Sem.run_bind,run_underlying ht,Result.andThen_ok,Sem.run_pure,run_newObj_alloc]
theorem run_next_str {g:Nat} {s:ByteArray} {pos:Nat} (t:TypeId) (h:w.heap[g]? = some (.stringIter s pos)) (hlt:pos < s.size) :
  (Instr.next (.pointer (some ⟨g,0,none⟩)) true t).run P w = .ok (.tuple #[.bool true,.int .i64 pos,.int .i32 (Utf8.decode s pos).1]) (w.putObj g (.stringIter s (pos + (Utf8.decode s pos).2))):=by
 have hg:(getObj g).run P w = .ok (.stringIter s pos) w:=by simp [getObj,Sem.run,h]
 have hs:∀ o,(setObj g o).run P w = .ok () (w.putObj g o):=fun o=>by simp [setObj,Sem.run,h,World.putObj]
 unfold Instr.next
 simp only [Sem.run_bind,hg,Result.andThen_ok,if_pos hlt,hs,Sem.run_pure]
 rfl
theorem run_next_end {g:Nat} {s:ByteArray} {pos:Nat} (t:TypeId) (h:w.heap[g]? = some (.stringIter s pos)) (hge:¬ pos < s.size) :
  (Instr.next (.pointer (some ⟨g,0,none⟩)) true t).run P w = .ok (.tuple #[.bool false]) w:=by
 have hg:(getObj g).run P w = .ok (.stringIter s pos) w:=by simp [getObj,Sem.run,h]
 unfold Instr.next
 simp only [Sem.run_bind,hg,Result.andThen_ok,if_neg hge,Sem.run_pure]
end
section
variable {E : Env} {s : St} {o : Oper} {v : AV} {H' : Heap} {a : Act} {w : World} {next : Act → World → Prop} {ro : Option Nat} {Q : Exit → Act → World → Prop}
theorem run_op {P:Program} {x:Sem Value} {u:Value} {w w':World} (h:x.run P w = .ok u w'):(do pure (.value (← x)):Sem Next).run P w = .ok (.value u) w':=by
 simp only [Sem.run_bind,h,Result.andThen_ok,Sem.run_pure]
theorem OpR.sound (hJ:JOk E.J) (hd:∀ d,o.dst = some d → d < E.n) (h:OpR E.P s.τ s.H o v H') (hr:Rel E s a w) (hnx:∀ a' w',Rel E (s.put o.dst v H') a' w' → next a' w'):o.wpIn (FW ro) 0 E.P a w next Q:=by
 cases h with
 | move x h=>
  obtain ⟨S,own,C,D,Ds,hr⟩:=hr
  exact wpIn_value (v:=a.eval x) (w':=w) (by simp [h,Op.isDefer]) (by simp [execOp,h]) (hnx _ _ (hr.putOld hJ hd (R_ev hr.tmps x) (Grows.refl w _)))
 | assign x h=>
  obtain ⟨S,own,C,D,Ds,hr⟩:=hr
  exact wpIn_value (v:=a.eval x) (w':=w) (by simp [h,Op.isDefer]) (by simp [execOp,h]) (hnx _ _ (hr.putOld hJ hd (R_ev hr.tmps x) (Grows.refl w _)))
 | pick c x y t h hc=>
  obtain ⟨S,own,C,D,Ds,hr⟩:=hr
  have h1:=R_ev hr.tmps c
  rw [hc] at h1
  have e:a.eval c = .bool t:=by generalize a.eval c = z at h1; cases h1; rfl
  refine wpIn_value (v:=if t then a.eval x else a.eval y) (w':=w) (by simp [h,Op.isDefer]) (by simp only [execOp,h,e,asBool,Sem.run_bind,Sem.run_pure,Result.andThen_ok]) (hnx _ _ (hr.putOld hJ hd ?_ (Grows.refl w _)))
  cases t
  ·exact R_ev hr.tmps y
  ·exact R_ev hr.tmps x
 | alloc e d z h hdd hz hok=>
  obtain ⟨S,own,C,D,Ds,hr⟩:=hr
  obtain ⟨g1,g2⟩:=(R_ofVal (ctx E s w S own) z).holds hok
  have hrel:=hr.putBox hJ (hd d hdd) e g1 g2
  rw [← hdd] at hrel
  refine wpIn_value (by simp [h,Op.isDefer]) ?_ (hnx _ _ hrel)
  simp only [execOp,h]
  refine run_op ?_
  unfold Instr.alloc
  simp only [Sem.run_bind,run_zero w hz,Result.andThen_ok]
  simp [newVar,newRow,newObj,Sem.run]
 | box e x d h hdd hok=>
  obtain ⟨S,own,C,D,Ds,hr⟩:=hr
  obtain ⟨g1,g2⟩:=(R_ev hr.tmps x).holds hok
  have hrel:=hr.putBox hJ (hd d hdd) e g1 g2
  rw [← hdd] at hrel
  refine wpIn_value (by simp [h,Op.isDefer]) ?_ (hnx _ _ hrel)
  simp only [execOp,h]
  refine run_op ?_
  simp [Instr.box,newVar,newRow,newObj,Sem.run]
 | build t parts z cells h hz hok hzc hf=>
  obtain ⟨S,own,C,D,Ds,hr⟩:=hr
  obtain ⟨q1,q2⟩:=map_vals hr.tmps id (fun x v h=>h) parts
  obtain ⟨u,r1,r2⟩:=run_build (C:=ctx E s w S own) hz hok hzc q1 q2 hf
  refine wpIn_value (v:=u) (w':=w) (by simp [h,Op.isDefer]) ?_ (hnx _ _ (hr.putOld hJ hd r2 (Grows.refl w _)))
  simp only [execOp,h]
  exact run_op r1
 | lit t len parts e n z rows H1 h he hn hn0 hz hzc hzn hlim hH hf=>
  subst hH
  obtain ⟨S,own,C,D,Ds,hr⟩:=hr.frzs (parts.toList.map fun p=>ev s.τ p.2)
  obtain ⟨q1,q2⟩:=map_vals hr.tmps (pur (frzs s.H (parts.toList.map fun p=>ev s.τ p.2))) (fun x v h=>h.pur hr.heap) parts
  obtain ⟨cs,r1,r2,r3,r4,r5⟩:=run_buildSlice (C:=ctx E { s with H:=frzs s.H (parts.toList.map fun p=>ev s.τ p.2) } w S own) he hn hz hzc hzn hlim q1 q2 hf
  have hgr:=Grows.alloc w (.cells cs e) fun _=>False
  have hlen:len ≤ maxLen:=by
   have:len ≤ len * n:=Nat.le_mul_of_pos_right _ hn0
   simp only [maxLen]
   omega
  have hput:=hr.putNew hJ (d:=o.dst) hd (x:=.slt rows) (v:=.slice (some ⟨w.heap.size,0,none⟩) len len) hgr (by
   have hle:=hr.leQuiet hgr (S':=fun b=>S b ∨ (w.heap.size ≤ b ∧ b < (w.alloc (.cells cs e)).heap.size)) fun b hb=>.inl hb
   have hres:=R_slt_of (C:=ctx E { s with H:=frzs s.H (parts.toList.map fun p=>ev s.τ p.2) } (w.alloc (.cells cs e)) (fun b=>S b ∨ (w.heap.size ≤ b ∧ b < (w.alloc (.cells cs e)).heap.size)) own)
    (heap_alloc_new w (.cells cs e)) (.inr ⟨Nat.le_refl _,by simp⟩) (r3.mono hle) r4 (by omega)
   rwa [r5] at hres)
  refine wpIn_value (by simp [h,Op.isDefer]) ?_ (hnx _ _ hput)
  simp only [execOp,h]
  exact run_op r1
 | litOwn t len parts e n d z rows H1 h hdd he hn hn0 hz hzc hzn hlim hH hf=>
  subst hH
  obtain ⟨S,own,C,D,Ds,hr⟩:=hr.frzs (parts.toList.map fun p=>ev s.τ p.2)
  obtain ⟨q1,q2⟩:=map_vals hr.tmps (pur (frzs s.H (parts.toList.map fun p=>ev s.τ p.2))) (fun x v h=>h.pur hr.heap) parts
  obtain ⟨cs,r1,r2,r3,r4,r5⟩:=run_buildSlice (C:=ctx E { s with H:=frzs s.H (parts.toList.map fun p=>ev s.τ p.2) } w S own) he hn hz hzc hzn hlim q1 q2 hf
  have hlen:len ≤ maxLen:=by
   have:len ≤ len * n:=Nat.le_mul_of_pos_right _ hn0
   simp only [maxLen]
   omega
  refine wpIn_value (v:=.slice (some ⟨w.heap.size,0,none⟩) len len) (w':=w.alloc (.cells cs e)) (by simp [h,Op.isDefer]) ?_ (hnx _ _ ?_)
  ·simp only [execOp,h]
   exact run_op r1
  ·rw [hdd]
   refine ⟨S,upd own d (some w.heap.size),C,D,Ds,hr.key hJ d (some w.heap.size) (.row (nv (frzs s.H (parts.toList.map fun p=>ev s.τ p.2)) d) e n rows) (Grows.alloc w _ _) (fun blk hk=>?_)
    (fun g e=>.inl (by cases e; exact ⟨Nat.le_refl _,by simp⟩)) (fun hle=>?_) (put_size a _ _) (put_defers a _ _) fun hle=>?_⟩
   ·have:=nv_gt hk
    exact ⟨Nat.le_of_lt this,fun e=>absurd e (by show nv (frzs s.H _) d ≠ blk.ver; exact Nat.ne_of_gt this)⟩
   ·exact ⟨cs,len,heap_alloc_new w _,r2,by omega,hlen,hn0,r4,r3.mono hle⟩
   ·refine R_put (fun i=>(hr.tmps i).mono hle) hr.size (fun k e=>by cases e; exact hd d hdd) ?_
    refine .ref d _ .o _ _ (upd_same _ _ _) (Nat.le_refl _) rfl fun _=>?_
    show RefVal (w.alloc (.cells cs e)) (upd own d (some w.heap.size) d) _ _ _
    rw [upd_same]
    refine ⟨len,by rw [r5],fun cs' t' fr hcs=>?_⟩
    rw [heap_alloc_new w (.cells cs e)] at hcs
    cases hcs
    exact r2
 | makeSlice t e l c n b d z kl kc len cap h hdd he hn hb hn0 hz hzc hzn hl hc hlc hlim h63=>
  obtain ⟨S,own,C,D,Ds,hr⟩:=hr
  have hval:∀ (y:Operand) (k:IntKind) (i:Int),ev s.τ y = .int k i → a.eval y = .int k i:=fun y k i hy=>by
   have h1:=R_ev hr.tmps y
   rw [hy] at h1
   generalize a.eval y = z at h1
   cases h1; rfl
  obtain ⟨cs,r1,r2,r3⟩:=run_makeSlice (C:=ctx E s w S own) he hn hb hz hzc hzn kl kc hlc hlim h63
  refine wpIn_value (v:=.slice (some ⟨w.heap.size,0,none⟩) len cap) (w':=w.alloc (.cells cs e)) (by simp [h,Op.isDefer]) ?_ (hnx _ _ ?_)
  ·simp only [execOp,h,hval l kl len hl,hval c kc cap hc]
   exact run_op r1
  ·rw [hdd]
   refine ⟨S,upd own d (some w.heap.size),C,D,Ds,hr.key hJ d (some w.heap.size) (.row (nv s.H d) e n (List.replicate len (ofVal z).cells)) (Grows.alloc w _ _) (fun blk hk=>?_)
    (fun g e=>.inl (by cases e; exact ⟨Nat.le_refl _,by simp⟩)) (fun hle=>?_) (put_size a _ _) (put_defers a _ _) fun hle=>?_⟩
   ·have:=nv_gt hk
    exact ⟨Nat.le_of_lt this,fun e=>absurd e (by show nv s.H d ≠ blk.ver; exact Nat.ne_of_gt this)⟩
   ·exact ⟨cs,cap,heap_alloc_new w _,r2,by rw [List.length_replicate]; exact hlc,h63,hn0,fun r hr=>by rw [(List.mem_replicate.1 hr).2,hzn],r3.mono hle⟩
   ·refine R_put (fun i=>(hr.tmps i).mono hle) hr.size (fun k e=>by cases e; exact hd d hdd) ?_
    refine .ref d _ .o _ _ (upd_same _ _ _) (Nat.le_refl _) rfl fun _=>?_
    show RefVal (w.alloc (.cells cs e)) (upd own d (some w.heap.size) d) _ _ _
    rw [upd_same]
    refine ⟨cap,by rw [List.length_replicate],fun cs' t' fr hcs=>?_⟩
    rw [heap_alloc_new w (.cells cs e)] at hcs
    cases hcs
    exact r2
 | load t x n ag v h hn ha hv=>
  obtain ⟨S,own,C,D,Ds,hr⟩:=hr
  obtain ⟨u,r1,r2⟩:=hr.rdV (R_ev hr.tmps x) hn ha hv
  refine wpIn_value (v:=u) (w':=w) (by simp [h,Op.isDefer]) ?_ (hnx _ _ (hr.putOld hJ hd r2 (Grows.refl w _)))
  simp only [execOp,h]
  exact run_op r1
 | store t x y n H' h hn hw=>
  obtain ⟨S,own,C,D,Ds,hr⟩:=hr
  obtain ⟨w',r1,r2⟩:=hr.wrV hJ (R_ev hr.tmps x) (R_ev hr.tmps y) hn hw hd
  refine wpIn_none (w':=w') (by simp [h,Op.isDefer]) ?_ (hnx _ _ r2)
  simp only [execOp,h,Sem.run_bind,r1,Result.andThen_ok,Sem.run_pure]
 | binOp op t yt x y v h hv=>
  obtain ⟨S,own,C,D,Ds,hr⟩:=hr
  obtain ⟨u,r1,r2⟩:=binV_sound x y (R_ev hr.tmps x) (R_ev hr.tmps y) hv w
  refine wpIn_value (v:=u) (w':=w) (by simp [h,Op.isDefer]) ?_ (hnx _ _ (hr.putOld hJ hd r2 (Grows.refl w _)))
  simp only [execOp,h]
  exact run_op r1
 | eqAgg op t yt x y ng p v h hp hv=>
  obtain ⟨S,own,C,D,Ds,hr⟩:=hr
  obtain ⟨u,r1,r2⟩:=eqA_sound x y hp (R_ev hr.tmps x) (R_ev hr.tmps y) hv w
  refine wpIn_value (v:=u) (w':=w) (by simp [h,Op.isDefer]) ?_ (hnx _ _ (hr.putOld hJ hd r2 (Grows.refl w _)))
  simp only [execOp,h]
  exact run_op r1
 | index t x ix sb k i b h ht hx hi h0 hb=>
  obtain ⟨S,own,C,D,Ds,hr⟩:=hr
  have h1:=R_ev hr.tmps x
  rw [hx] at h1
  have h2:=R_ev hr.tmps ix
  rw [hi] at h2
  have e1:a.eval x = .string sb:=by generalize a.eval x = z at h1; cases h1; rfl
  have e2:a.eval ix = .int k i:=by generalize a.eval ix = z at h2; cases h2; rfl
  refine wpIn_value (v:=.int .u8 b.toNat) (w':=w) (by simp [h,Op.isDefer]) ?_ (hnx _ _ (hr.putOld hJ hd (.int _ _) (Grows.refl w _)))
  simp only [execOp,h,e1,e2]
  exact run_op (run_index_str w ht h0 hb)
 | sliceStr t x lo hi sb l' h' l hh h ht hx hlo hhi hl hh' hlh hhr=>
  obtain ⟨S,own,C,D,Ds,hr⟩:=hr
  have h1:=R_ev hr.tmps x
  rw [hx] at h1
  have e1:a.eval x = .string sb ∧ sb.size ≤ maxLen:=by generalize a.eval x = z at h1; cases h1; exact ⟨rfl,by assumption⟩
  have hix:∀ (y:Option Operand) z,ixV s.τ y = some z → y.map a.eval = z.map fun p=>.int p.1 p.2:=fun y z hy=>by
   unfold ixV at hy
   cases y with
   | none=>cases hy; rfl
   | some q=>
    dsimp only at hy
    split at hy
    ·rename_i k i hq
     cases hy
     have h1:=R_ev hr.tmps q
     rw [hq] at h1
     have e:a.eval q = .int k i:=by generalize a.eval q = z at h1; cases h1; rfl
     simp [e]
    ·cases hy
  refine wpIn_value (v:=.string (sb.extract l hh)) (w':=w) (by simp [h,Op.isDefer]) ?_ (hnx _ _ (hr.putOld hJ hd (.str _ (by have:=e1.2; rw [ByteArray.size_extract]; omega)) (Grows.refl w _)))
  simp only [execOp,h,e1.1,hix lo l' hlo,hix hi h' hhi]
  exact run_op (run_slice_str w ht l' h' hl hh' hlh hhr)
 | rangeStr t x d sb h hdd ht hx=>
  obtain ⟨S,own,C,D,Ds,hr⟩:=hr
  have h1:=R_ev hr.tmps x
  rw [hx] at h1
  have e1:a.eval x = .string sb ∧ sb.size ≤ maxLen:=by generalize a.eval x = z at h1; cases h1; exact ⟨rfl,by assumption⟩
  have hrel:Rel E (s.put o.dst (.ref d (nv s.H d) (.p 0)) (upd s.H d (some (.obj (nv s.H d) (.siter sb 0))))) (a.put o.dst (.pointer (some ⟨w.heap.size,0,none⟩))) (w.alloc (.stringIter sb 0)):=by
   rw [hdd]
   refine ⟨S,upd own d (some w.heap.size),C,D,Ds,hr.key hJ d (some w.heap.size) (.obj (nv s.H d) (.siter sb 0)) (Grows.alloc w _ _) (fun blk hk=>?_) (fun g e=>.inl (by cases e; exact ⟨Nat.le_refl _,by simp⟩)) (fun hle=>?_) (put_size a _ _) (put_defers a _ _) fun hle=>?_⟩
   ·have:=nv_gt hk
    exact ⟨Nat.le_of_lt this,fun e=>by have e2:nv s.H d = blk.ver:=e; omega⟩
   ·exact ⟨_,heap_alloc_new w _,rfl,e1.2⟩
   ·refine R_put (fun i=>(hr.tmps i).mono hle) hr.size (fun k e=>by cases e; exact hd _ hdd) ?_
    exact .ref d (nv s.H d) (.p 0) _ _ (upd_same _ _ _) (Nat.le_refl _) rfl fun _=>by simp [RefVal,upd]
  refine wpIn_value (by simp [h,Op.isDefer]) ?_ (hnx _ _ hrel)
  simp only [execOp,h,e1.1]
  exact run_op (run_range_str w ht)
 | makeMap t e d kd h hdd ht=>
  obtain ⟨S,own,C,D,Ds,hr⟩:=hr
  have hrel:Rel E (s.put o.dst (.ref d (nv s.H d) .o) (upd s.H d (some (.obj (nv s.H d) (.mp kd []))))) (a.put o.dst (.map (some w.heap.size))) (w.alloc (.map #[] 0)):=by
   rw [hdd]
   refine ⟨S,upd own d (some w.heap.size),C,D,Ds,hr.key hJ d (some w.heap.size) (.obj (nv s.H d) (.mp kd [])) (Grows.alloc w _ _) (fun blk hk=>?_) (fun g e=>.inl (by cases e; exact ⟨Nat.le_refl _,by simp⟩)) (fun hle=>?_) (put_size a _ _) (put_defers a _ _) fun hle=>?_⟩
   ·have:=nv_gt hk
    exact ⟨Nat.le_of_lt this,fun e=>by have e2:nv s.H d = blk.ver:=e; omega⟩
   ·exact ⟨_,heap_alloc_new w _,#[],0,rfl,MapKept.stamped_empty _,by simp,trivial⟩
   ·refine R_put (fun i=>(hr.tmps i).mono hle) hr.size (fun k e=>by cases e; exact hd _ hdd) ?_
    exact .ref d (nv s.H d) .o _ _ (upd_same _ _ _) (Nat.le_refl _) rfl fun _=>by simp [RefVal,upd]
  refine wpIn_value (by simp [h,Op.isDefer]) ?_ (hnx _ _ hrel)
  simp only [execOp,h]
  exact run_op rfl
 | lookup t e x i co kd z r h ht hz hlk=>
  obtain ⟨S,own,C,D,Ds,hr⟩:=hr
  obtain ⟨u,h1,h2⟩:=hr.mapLk (R_ev hr.tmps x) (R_ev hr.tmps i) ht hz hlk
  refine wpIn_value (v:=u) (w':=w) (by simp [h,Op.isDefer]) ?_ (hnx _ _ (hr.putOld hJ hd h2 (Grows.refl w _)))
  simp only [execOp,h]
  exact run_op h1
 | mapUpdate t e x i y kd H' h ht hup=>
  obtain ⟨S,own,C,D,Ds,hr⟩:=hr
  obtain ⟨w',h1,h2⟩:=hr.mapUp hJ (R_ev hr.tmps x) (R_ev hr.tmps i) (R_ev hr.tmps y) ht hup hd
  refine wpIn_none (w':=w') (by simp [h,Op.isDefer]) ?_ (hnx _ _ h2)
  simp only [execOp,h,Sem.run_bind,h1,Result.andThen_ok,Sem.run_pure]
 | mapDel t u e x i kd H' h ht hup=>
  obtain ⟨S,own,C,D,Ds,hr⟩:=hr
  obtain ⟨w',h1,h2⟩:=hr.mapDl (u:=u) (ty:=o.type) hJ (R_ev hr.tmps x) (R_ev hr.tmps i) ht hup hd
  refine wpIn_value (w':=w') (by simp [h,Op.isDefer]) ?_ (hnx _ _ h2)
  simp only [execOp,h,resolve,invoke,builtin,Sem.run_bind,Sem.run_pure,Result.andThen_ok,List.map_toArray,List.map_cons,List.map_nil,h1]
 | mapClr t e x kd H' h ht hup=>
  obtain ⟨S,own,C,D,Ds,hr⟩:=hr
  obtain ⟨w',h1,h2⟩:=hr.mapCl (ty:=o.type) hJ (R_ev hr.tmps x) ht hup hd
  refine wpIn_value (w':=w') (by simp [h,Op.isDefer]) ?_ (hnx _ _ h2)
  simp only [execOp,h,resolve,invoke,builtin,Sem.run_bind,Sem.run_pure,Result.andThen_ok,List.map_toArray,List.map_cons,List.map_nil,h1]
 | nextStr x k ver sb pos h hx hk hlt=>
  obtain ⟨S,own,C,D,Ds,hr⟩:=hr
  have h1:=R_ev hr.tmps x
  rw [hx] at h1
  obtain ⟨q1,q2⟩:=hr.ref_at h1 hk rfl
  cases hog:own k with
  | none=>rw [hog] at q2; exact q2.elim
  | some g=>
   rw [hog] at q1 q2
   obtain ⟨ob,g1,rfl,g2⟩:=q2
   have e1:a.eval x = .pointer (some ⟨g,0,none⟩):=q1
   have hgr:Grows w (w.putObj g (.stringIter sb (pos + (Utf8.decode sb pos).2))) (LiveAt s own k):=⟨rfl,rfl,rfl,Nat.le_of_eq World.putObj_size.symm,fun b hb hn=>World.putObj_heap_other fun e=>hn ⟨_,hk,rfl,by rw [hog,e]⟩⟩
   refine wpIn_value (w':=w.putObj g (.stringIter sb (pos + (Utf8.decode sb pos).2))) (v:=.tuple #[.bool true,.int .i64 pos,.int .i32 (Utf8.decode sb pos).1]) (by simp [h,Op.isDefer]) ?_ (hnx _ _ ?_)
   ·simp only [execOp,h,e1]
    exact run_op (run_next_str w _ g1 hlt)
   ·refine ⟨S,upd own k (some g),C,D,Ds,hr.key hJ k (some g) (.obj ver (.siter sb (pos + (Utf8.decode sb pos).2))) hgr (fun blk hk'=>?_) (fun g' e=>by cases e; exact .inr ⟨_,hk,rfl,hog⟩) (fun hle'=>?_) (put_size a _ _) (put_defers a _ _) fun hle'=>?_⟩
    ·rw [hk] at hk'
     cases hk'
     refine ⟨Nat.le_refl _,fun _ r u hu=>?_⟩
     rw [hog] at hu
     cases r <;> exact hu
    ·exact ⟨_,World.putObj_heap_same (Array.getElem?_eq_some_iff.1 g1).1,rfl,g2⟩
    ·refine R_put (fun i=>(hr.tmps i).mono hle') hr.size hd ?_
     exact .tup [.bool true,.int .i64 pos,.int .i32 (Utf8.decode sb pos).1] [.bool true,.int .i64 pos,.int .i32 (Utf8.decode sb pos).1] rfl fun i z hz=>by
      match i,hz with
      | 0,hz=>simp at hz; subst hz; exact .bool _
      | 1,hz=>simp at hz; subst hz; exact .int _ _
      | 2,hz=>simp at hz; subst hz; exact .int _ _
      | i + 3,hz=>simp at hz
 | nextEnd x k ver sb pos h hx hk hge=>
  obtain ⟨S,own,C,D,Ds,hr⟩:=hr
  have h1:=R_ev hr.tmps x
  rw [hx] at h1
  obtain ⟨q1,q2⟩:=hr.ref_at h1 hk rfl
  cases hog:own k with
  | none=>rw [hog] at q2; exact q2.elim
  | some g=>
   rw [hog] at q1 q2
   obtain ⟨ob,g1,rfl,g2⟩:=q2
   have e1:a.eval x = .pointer (some ⟨g,0,none⟩):=q1
   refine wpIn_value (w':=w) (v:=.tuple #[.bool false]) (by simp [h,Op.isDefer]) ?_ (hnx _ _ (hr.putOld hJ hd (.tup [.bool false] [.bool false] rfl fun i z hz=>?_) (Grows.refl w _)))
   ·simp only [execOp,h,e1]
    exact run_op (run_next_end w _ g1 hge)
   ·match i,hz with
    | 0,hz=>simp at hz; subst hz; exact .bool _
    | i + 1,hz=>simp at hz
 | not t x v h hv=>
  obtain ⟨S,own,C,D,Ds,hr⟩:=hr
  have h1:=R_ev hr.tmps x
  unfold notV at hv
  split at hv
  ·rename_i b hb
   cases hv
   rw [hb] at h1
   have e:a.eval x = .bool b:=by generalize a.eval x = z at h1; cases h1; rfl
   refine wpIn_value (v:=.bool (!b)) (w':=w) (by simp [h,Op.isDefer]) ?_ (hnx _ _ (hr.putOld hJ hd (.bool _) (Grows.refl w _)))
   simp only [execOp,h,e]
   exact run_op rfl
  ·cases hv
 | neg t x k i h hx=>
  obtain ⟨S,own,C,D,Ds,hr⟩:=hr
  have h1:=R_ev hr.tmps x
  rw [hx] at h1
  have e:a.eval x = .int k i:=by generalize a.eval x = z at h1; cases h1; rfl
  refine wpIn_value (v:=.int k (k.wrap (0 - i))) (w':=w) (by simp [h,Op.isDefer]) ?_ (hnx _ _ (hr.putOld hJ hd (.int _ _) (Grows.refl w _)))
  simp only [execOp,h,e]
  exact run_op rfl
 | slice3 t e x hi mx n k k' rows h he hn hx hsz hhi hmx=>
  obtain ⟨S,own,C,D,Ds,hr⟩:=hr
  have h1:=R_ev hr.tmps hi
  rw [hhi] at h1
  have e1:a.eval hi = .int k rows.length:=by generalize a.eval hi = z at h1; cases h1; rfl
  have h2:=R_ev hr.tmps mx
  rw [hmx] at h2
  have e2:a.eval mx = .int k' rows.length:=by generalize a.eval mx = z at h2; cases h2; rfl
  obtain ⟨u,r1,r2⟩:=run_slice3 (C:=ctx E s w S own) he hn (hr.rowsA (R_ev hr.tmps x) hx) hsz k k'
  refine wpIn_value (v:=u) (w':=w) (by simp [h,Op.isDefer]) ?_ (hnx _ _ (hr.putOld hJ hd r2 (Grows.refl w _)))
  simp only [execOp,h,Option.map_none,Option.map_some,e1,e2]
  exact run_op r1
 | fieldAddr t x f off n v h hf hn hv=>
  obtain ⟨S,own,C,D,Ds,hr⟩:=hr
  obtain ⟨g,p,e,r2⟩:=hr.addA (R_ev hr.tmps x) hv
  refine wpIn_value (w':=w) (by simp [h,Op.isDefer]) ?_ (hnx _ _ (hr.putOld hJ hd r2 (Grows.refl w _)))
  simp only [execOp,h,e]
  exact run_op (run_fieldAt hf hn w g p)
 | field t x f off n ag cs v h hf ha hx hv=>
  obtain ⟨S,own,C,D,Ds,hr⟩:=hr
  have h1:=R_ev hr.tmps x
  rw [hx] at h1
  generalize hz:a.eval x = z at h1
  cases h1 with
  | agg _ us hl hh=>
   obtain ⟨u,hu,hR⟩:=run_field w hf ha us hl hh hv
   refine wpIn_value (v:=u) (w':=w) (by simp [h,Op.isDefer]) ?_ (hnx _ _ (hr.putOld hJ hd hR (Grows.refl w _)))
   simp only [execOp,h,hz]
   exact run_op hu
 | indexAddr t e x ix n k i v h he hn hi hv=>
  obtain ⟨S,own,C,D,Ds,hr⟩:=hr
  have h1:=R_ev hr.tmps ix
  rw [hi] at h1
  have ei:a.eval ix = .int k i:=by generalize a.eval ix = z at h1; cases h1; rfl
  obtain ⟨u,r1,r2⟩:=hr.ixA (R_ev hr.tmps x) he hn k hv
  refine wpIn_value (v:=u) (w':=w) (by simp [h,Op.isDefer]) ?_ (hnx _ _ (hr.putOld hJ hd r2 (Grows.refl w _)))
  simp only [execOp,h,ei]
  exact run_op r1
 | indexArr t e x ix len n k i v h he hn hi h0 h1 hv=>
  obtain ⟨S,own,C,D,Ds,hr⟩:=hr
  have h2:=R_ev hr.tmps ix
  rw [hi] at h2
  have ei:a.eval ix = .int k i:=by generalize a.eval ix = z at h2; cases h2; rfl
  obtain ⟨g,p,e,r2⟩:=hr.addA (R_ev hr.tmps x) hv
  refine wpIn_value (w':=w) (by simp [h,Op.isDefer]) ?_ (hnx _ _ (hr.putOld hJ hd r2 (Grows.refl w _)))
  simp only [execOp,h,ei,e]
  exact run_op (run_indexAt_array he hn w k i g p h0 h1)
 | extract x i vs v h hx hv=>
  obtain ⟨S,own,C,D,Ds,hr⟩:=hr
  have h1:=R_ev hr.tmps x
  rw [hx] at h1
  generalize hz:a.eval x = z at h1
  cases h1 with
  | tup _ us hl hh=>
   have hi:i < us.length:=by have:=(List.getElem?_eq_some_iff.1 hv).1; omega
   have hv2:=hh i v hv
   rw [List.getD_eq_getElem?_getD,List.getElem?_eq_getElem hi] at hv2
   refine wpIn_value (v:=us[i]) (w':=w) (by simp [h,Op.isDefer]) ?_ (hnx _ _ (hr.putOld hJ hd hv2 (Grows.refl w _)))
   simp only [execOp,h,hz]
   refine run_op ?_
   simp [Instr.extract,hi]
 | slice t e x lo hi n l' h' rows l hh h he hn hx hsz hlo hhi hl hh' hlh hhr=>
  obtain ⟨S,own,C,D,Ds,hr⟩:=hr
  have hix:∀ (y:Option Operand) z,ixV s.τ y = some z → y.map a.eval = z.map fun p=>.int p.1 p.2:=fun y z hy=>by
   unfold ixV at hy
   cases y with
   | none=>cases hy; rfl
   | some q=>
    dsimp only at hy
    split at hy
    ·rename_i k i hq
     cases hy
     have h1:=R_ev hr.tmps q
     rw [hq] at h1
     have e:a.eval q = .int k i:=by generalize a.eval q = z at h1; cases h1; rfl
     simp [e]
    ·cases hy
  obtain ⟨u,r1,r2⟩:=run_slice_view (C:=ctx E s w S own) he hn (hr.rowsA (R_ev hr.tmps x) hx) hsz l' h' hl hh' hlh hhr
  refine wpIn_value (v:=u) (w':=w) (by simp [h,Op.isDefer]) ?_ (hnx _ _ (hr.putOld hJ hd r2 (Grows.refl w _)))
  simp only [execOp,h,hix lo l' hlo,hix hi h' hhi]
  exact run_op r1
 | makeFunc f caps h=>
  obtain ⟨S,own,C,D,Ds,hr⟩:=hr
  have hv:R (ctx E s w S own) (.func f (caps.toList.map (ev s.τ))) (.func (.func f) #[] (caps.map a.eval)):=by
   have:=R.func (C:=ctx E s w S own) f (caps.toList.map (ev s.τ)) (caps.toList.map a.eval) (by simp) fun i x hx=>by
    rw [List.getElem?_map] at hx
    obtain ⟨y,hy,rfl⟩:=Option.map_eq_some_iff.1 hx
    rw [List.getD_eq_getElem?_getD,List.getElem?_map,hy]
    exact R_ev hr.tmps y
   have e:(List.map a.eval caps.toList).toArray = caps.map a.eval:=by rw [← Array.toList_map]
   rwa [e] at this
  refine wpIn_value (w':=w) (by simp [h,Op.isDefer]) ?_ (hnx _ _ (hr.putOld hJ hd hv (Grows.refl w _)))
  simp only [execOp,h]
  refine run_op ?_
  simp [Instr.makeFunc]
 | nilCheck x h hx=>
  obtain ⟨S,own,C,D,Ds,hr⟩:=hr
  have h1:=R_ev hr.tmps x
  have hv:(∃ p,a.eval x = .pointer (some p)) ∨ (∃ f vs,a.eval x = .func (.func f) #[] vs) ∨ (∃ l,a.eval x = .func (.yield l) #[] #[]):=by
   unfold okPtr at hx
   split at hx
   ·rename_i k ver off hev
    rw [hev] at h1
    split at hx
    ·rename_i v t cells hk
     obtain ⟨g1,g2⟩:=hr.ref_at h1 hk (beq_iff_eq.1 hx)
     cases hog:own k with
     | none=>rw [hog] at g2; exact g2.elim
     | some g=>rw [hog] at g1; exact .inl ⟨_,g1⟩
    ·rename_i v cells hk
     obtain ⟨g1,g2⟩:=hr.ref_at h1 hk (beq_iff_eq.1 hx)
     cases hog:own k with
     | none=>rw [hog] at g2; exact g2.elim
     | some g=>rw [hog] at g1; exact .inl ⟨_,g1⟩
    ·cases hx
   ·rename_i k ver i off hev
    rw [hev] at h1
    split at hx
    ·rename_i v t sz rows hk
     simp only [Bool.and_eq_true,beq_iff_eq,decide_eq_true_eq] at hx
     obtain ⟨g1,g2⟩:=hr.ref_at h1 hk hx.1
     cases hog:own k with
     | none=>
      rw [hog] at g2
      have e:rows = []:=g2.1
      subst e
      simp at hx
     | some g=>rw [hog] at g1; exact .inl ⟨_,g1⟩
    ·cases hx
   ·rename_i hev
    rw [hev] at h1
    generalize a.eval x = z at h1
    cases h1
    exact .inl ⟨_,rfl⟩
   ·rename_i hev
    rw [hev] at h1
    generalize a.eval x = z at h1
    cases h1
    exact .inr (.inl ⟨_,_,rfl⟩)
   ·rename_i hev
    rw [hev] at h1
    generalize a.eval x = z at h1
    cases h1
    exact .inr (.inr ⟨_,rfl⟩)
   ·cases hx
  refine wpIn_value (v:=a.eval x) (w':=w) (by simp [h,Op.isDefer]) ?_ (hnx _ _ (hr.putOld hJ hd h1 (Grows.refl w _)))
  rcases hv with ⟨p,e⟩ | ⟨f,vs,e⟩ | ⟨l,e⟩ <;> simp [execOp,h,e]
 | convInt st dt x k k' i h hs hdt hx=>
  obtain ⟨S,own,C,D,Ds,hr⟩:=hr
  have h1:=R_ev hr.tmps x
  rw [hx] at h1
  have e:a.eval x = .int k' i:=by generalize a.eval x = z at h1; cases h1; rfl
  obtain ⟨sd,hsd⟩:=Option.isSome_iff_exists.1 hs
  refine wpIn_value (v:=.int k (k.wrap i)) (w':=w) (by simp [h,Op.isDefer]) ?_ (hnx _ _ (hr.putOld hJ hd (.int _ _) (Grows.refl w _)))
  simp only [execOp,h,e]
  refine run_op ?_
  unfold convert
  simp only [Sem.run_bind,run_underlying hsd,run_underlying hdt,Result.andThen_ok]
  simp [Conv.intToInt]
 | len t x n h ht hx=>
  obtain ⟨S,own,C,D,Ds,hr⟩:=hr
  obtain ⟨hmax,hcase⟩:=hr.lenA (R_ev hr.tmps x) hx
  obtain ⟨A,cap,e⟩:=hcase
  obtain ⟨el,hel⟩:=Option.isSome_iff_exists.1 ht
  refine wpIn_value (v:=.int .i64 n) (w':=w) (by simp [h,Op.isDefer]) ?_ (hnx _ _ (hr.putOld hJ hd (.int _ _) (Grows.refl w _)))
  simp [execOp,h,resolve,invoke,builtin,Builtin.len_,e,run_underlying (elOf_iff hel),goInt]
 | lenStr t x b h ht hx=>
  obtain ⟨S,own,C,D,Ds,hr⟩:=hr
  have h1:=R_ev hr.tmps x
  rw [hx] at h1
  have e:a.eval x = .string b:=by generalize a.eval x = z at h1; cases h1; rfl
  refine wpIn_value (v:=.int .i64 b.size) (w':=w) (by simp [h,Op.isDefer]) ?_ (hnx _ _ (hr.putOld hJ hd (.int _ _) (Grows.refl w _)))
  simp [execOp,h,resolve,invoke,builtin,Builtin.len_,e,run_underlying ht,goInt]
 | min t1 t2 x y v h hv=>
  obtain ⟨S,own,C,D,Ds,hr⟩:=hr
  have h1:=R_ev hr.tmps x
  have h2:=R_ev hr.tmps y
  unfold minV at hv
  split at hv
  ·rename_i k i k' j hx hy
   cases hv
   rw [hx] at h1
   rw [hy] at h2
   have e1:a.eval x = .int k i:=by generalize a.eval x = z at h1; cases h1; rfl
   have e2:a.eval y = .int k' j:=by generalize a.eval y = z at h2; cases h2; rfl
   refine wpIn_value (v:=.int k (if j < i then j else i)) (w':=w) (by simp [h,Op.isDefer]) ?_ (hnx _ _ (hr.putOld hJ hd (.int _ _) (Grows.refl w _)))
   simp [execOp,h,resolve,invoke,builtin,Builtin.min_,e1,e2,Builtin.min2]
  ·cases hv
 | append t e x y n b k ver rows new h he hok hx hk hy hb=>
  obtain ⟨S,own,C,D,Ds,hr⟩:=hr
  obtain ⟨v',w',r1,r2⟩:=hr.append hJ (k:=k) (t:=t) (ty:=o.type) (ver:=ver) he hok (R_ev hr.tmps x) (R_ev hr.tmps y) hy hb (.inl ⟨hx,hk⟩) hd
  refine wpIn_value (v:=v') (w':=w') (by simp [h,Op.isDefer]) ?_ (hnx _ _ r2)
  simp only [execOp,h,resolve,invoke,builtin,Sem.run_bind,Sem.run_pure,Result.andThen_ok,List.map_toArray,List.map_cons,List.map_nil,r1]
 | appendNil t e x y n b d new h he hok hx hdd hy hb=>
  obtain ⟨S,own,C,D,Ds,hr⟩:=hr
  obtain ⟨v',w',r1,r2⟩:=hr.append hJ (k:=d) (t:=t) (ty:=o.type) (ver:=nv s.H d) (rows:=[]) he hok (R_ev hr.tmps x) (R_ev hr.tmps y) hy (by simpa using hb) (.inr ⟨hx,rfl,rfl⟩) hd
  refine wpIn_value (v:=v') (w':=w') (by simp [h,Op.isDefer]) ?_ (hnx _ _ r2)
  simp only [execOp,h,resolve,invoke,builtin,Sem.run_bind,Sem.run_pure,Result.andThen_ok,List.map_toArray,List.map_cons,List.map_nil,r1]
 | call f c fid caps r H1 h hc hf hH hcl hs=>
  subst hH
  obtain ⟨S,own,C,D,Ds,hr⟩:=hr.frzs (c.args.toList.map (ev s.τ))
  have h1:=R_ev hr.tmps f
  rw [show ev ({ s with H:=frzs s.H (c.args.toList.map (ev s.τ)) }:St).τ f = .func fid caps from hf] at h1
  generalize hz:a.eval f = z at h1
  cases h1 with
  | func _ _ us hl hh=>
   have hargs:RL (bare S w E.l) (callArgs s.τ (frzs s.H (c.args.toList.map (ev s.τ))) c caps) (c.args.toList.map a.eval ++ us):=by
    refine ⟨by simp [callArgs,hl],fun i x hx=>?_⟩
    have hcx:=closedL_get hcl hx
    unfold callArgs at hx
    rw [List.getElem?_map] at hx
    obtain ⟨y,hy,rfl⟩:=Option.map_eq_some_iff.1 hx
    rw [List.getElem?_append] at hy
    have hR:R (ctx E { s with H:=frzs s.H (c.args.toList.map (ev s.τ)) } w S own) y ((c.args.toList.map a.eval ++ us).getD i undef):=by
     rw [List.getD_eq_getElem?_getD,List.getElem?_append]
     simp only [List.length_map] at hy ⊢
     split at hy
     ·rename_i hi
      rw [if_pos hi,List.getElem?_map]
      rw [List.getElem?_map] at hy
      obtain ⟨q,hq,rfl⟩:=Option.map_eq_some_iff.1 hy
      rw [hq]
      exact R_ev hr.tmps q
     ·rename_i hi
      rw [if_neg hi,← List.getD_eq_getElem?_getD]
      exact hh _ y hy
    exact (hR.pur hr.heap).bare E.l hcx
   have hcall:=hs.calls w S E.l _ (fun b hb=>(hr.hS b hb).1) hargs
   refine wpIn_enter (f:=fid) (args:=(c.args.toList.map a.eval ++ us).toArray) (w':=w) (by simp [h,Op.isDefer]) ?_ (hcall.mono fun e w' ⟨u,he,hb,hu⟩=>⟨u,he,hnx _ _ ?_⟩)
   ·have e1:execOp a.eval o = (do let d ← resolve a.eval c o.type; invoke d.target d.args):=by simp only [execOp,h]
    rw [e1]
    unfold resolve
    simp only [hc,hz,Deferred.ofValue,Sem.run_bind,Sem.run_pure,Result.andThen_ok,invoke]
    have e2:(#[] ++ c.args.map a.eval ++ us.toArray) = (c.args.toList.map a.eval ++ us).toArray:=by
     apply Array.toList_inj.1
     simp
    rw [e2]
    exact hs.enters _ _
   ·exact hr.putNew hJ hd (Grows.of_below hb _) (hu.of_bare _ rfl (fun b hb=>hb) rfl)
 | callRow f c fid caps H1 t sz rows d h hc hf hH hcl hdd hs=>
  subst hH
  obtain ⟨S,own,C,D,Ds,hr⟩:=hr.frzs (c.args.toList.map (ev s.τ))
  have h1:=R_ev hr.tmps f
  rw [show ev ({ s with H:=frzs s.H (c.args.toList.map (ev s.τ)) }:St).τ f = .func fid caps from hf] at h1
  generalize hz:a.eval f = z at h1
  cases h1 with
  | func _ _ us hl hh=>
   have hargs:RL (bare S w E.l) (callArgs s.τ (frzs s.H (c.args.toList.map (ev s.τ))) c caps) (c.args.toList.map a.eval ++ us):=by
    refine ⟨by simp [callArgs,hl],fun i x hx=>?_⟩
    have hcx:=closedL_get hcl hx
    unfold callArgs at hx
    rw [List.getElem?_map] at hx
    obtain ⟨y,hy,rfl⟩:=Option.map_eq_some_iff.1 hx
    rw [List.getElem?_append] at hy
    have hR:R (ctx E { s with H:=frzs s.H (c.args.toList.map (ev s.τ)) } w S own) y ((c.args.toList.map a.eval ++ us).getD i undef):=by
     rw [List.getD_eq_getElem?_getD,List.getElem?_append]
     simp only [List.length_map] at hy ⊢
     split at hy
     ·rename_i hi
      rw [if_pos hi,List.getElem?_map]
      rw [List.getElem?_map] at hy
      obtain ⟨q,hq,rfl⟩:=Option.map_eq_some_iff.1 hy
      rw [hq]
      exact R_ev hr.tmps q
     ·rename_i hi
      rw [if_neg hi,← List.getD_eq_getElem?_getD]
      exact hh _ y hy
    exact (hR.pur hr.heap).bare E.l hcx
   have hcall:=hs.calls w S E.l _ (fun b hb=>(hr.hS b hb).1) hargs
   refine wpIn_enter (f:=fid) (args:=(c.args.toList.map a.eval ++ us).toArray) (w':=w) (by simp [h,Op.isDefer]) ?_ (hcall.mono fun e w' ⟨u,og,S',he,hb,hog,hrow,hval,hone,hSS,hSg⟩=>⟨u,he,hnx _ _ ?_⟩)
   ·have e1:execOp a.eval o = (do let d ← resolve a.eval c o.type; invoke d.target d.args):=by simp only [execOp,h]
    rw [e1]
    unfold resolve
    simp only [hc,hz,Deferred.ofValue,Sem.run_bind,Sem.run_pure,Result.andThen_ok,invoke]
    have e2:(#[] ++ c.args.map a.eval ++ us.toArray) = (c.args.toList.map a.eval ++ us).toArray:=by
     apply Array.toList_inj.1
     simp
    rw [e2]
    exact hs.enters _ _
   ·rw [hdd]
    refine ⟨fun b=>S b ∨ (S' b ∧ w.heap.size ≤ b),upd own d og,C,D,Ds,hr.keyN hJ d og (.row (nv (frzs s.H (c.args.toList.map (ev s.τ))) d) t sz rows) (Grows.of_below hb _) (fun blk hk=>?_)
     (fun b=>S' b ∧ w.heap.size ≤ b) (fun b hb'=>⟨hb'.2,?_,fun e=>hSg b e hb'.1⟩) hog (fun hle=>hrow.shutRow hs.shut (fun b hb'=>?_) rfl rfl) (put_size a _ _) (put_defers a _ _) fun hle=>?_⟩
    ·have:=nv_gt hk
     exact ⟨Nat.le_of_lt this,fun e=>absurd e (by show nv _ d ≠ blk.ver; exact Nat.ne_of_gt this)⟩
    ·rcases hSS b hb'.1 with h | h
     ·exact Nat.lt_of_lt_of_le (hr.hS b h).1 hb.size
     ·exact h.2
    ·rcases hSS b hb' with h | h
     ·exact .inl h
     ·exact .inr ⟨hb',h.1⟩
    ·refine R_put (fun i=>(hr.tmps i).mono hle) hr.size (fun k e=>by cases e; exact hd d hdd) ?_
     refine .ref d _ .o _ _ (upd_same _ _ _) (Nat.le_refl _) hone fun _=>?_
     show RefVal w' (upd own d og d) _ _ _
     rw [upd_same]
     cases og <;> exact hval
 | callFlat f c fid caps r H1 h hc hf hH hcl hs hfl=>
  subst hH
  obtain ⟨S0,own0,C0,D0,Ds0,hr0⟩:=hr
  obtain ⟨S,hr,_⟩:=frz_ok.fold (c.args.toList.map (ev s.τ)) E s a w S0 own0 C0 D0 Ds0 hr0
  change RelAt E { s with H:=frzs s.H (c.args.toList.map (ev s.τ)) } a w S own0 C0 D0 Ds0 at hr
  have h1:=R_ev hr.tmps f
  rw [show ev ({ s with H:=frzs s.H (c.args.toList.map (ev s.τ)) }:St).τ f = .func fid caps from hf] at h1
  generalize hz:a.eval f = z at h1
  cases h1 with
  | func _ _ us hl hh=>
   have hargs:RL (bare S w E.l) (callArgs s.τ (frzs s.H (c.args.toList.map (ev s.τ))) c caps) (c.args.toList.map a.eval ++ us):=by
    refine ⟨by simp [callArgs,hl],fun i x hx=>?_⟩
    have hcx:=closedL_get hcl hx
    unfold callArgs at hx
    rw [List.getElem?_map] at hx
    obtain ⟨y,hy,rfl⟩:=Option.map_eq_some_iff.1 hx
    rw [List.getElem?_append] at hy
    have hR:R (ctx E { s with H:=frzs s.H (c.args.toList.map (ev s.τ)) } w S own0) y ((c.args.toList.map a.eval ++ us).getD i undef):=by
     rw [List.getD_eq_getElem?_getD,List.getElem?_append]
     simp only [List.length_map] at hy ⊢
     split at hy
     ·rename_i hi
      rw [if_pos hi,List.getElem?_map]
      rw [List.getElem?_map] at hy
      obtain ⟨q,hq,rfl⟩:=Option.map_eq_some_iff.1 hy
      rw [hq]
      exact R_ev hr.tmps q
     ·rename_i hi
      rw [if_neg hi,← List.getD_eq_getElem?_getD]
      exact hh _ y hy
    exact (hR.pur hr.heap).bare E.l hcx
   have hcall:=hs.calls w S E.l _ (fun b hb=>(hr.hS b hb).1) hargs
   refine wpIn_enter (f:=fid) (args:=(c.args.toList.map a.eval ++ us).toArray) (w':=w) (by simp [h,Op.isDefer]) ?_ (hcall.mono fun e w' ⟨u,he,hb,hu⟩=>⟨u,he,hnx _ _ ?_⟩)
   ·have e1:execOp a.eval o = (do let d ← resolve a.eval c o.type; invoke d.target d.args):=by simp only [execOp,h]
    rw [e1]
    unfold resolve
    simp only [hc,hz,Deferred.ofValue,Sem.run_bind,Sem.run_pure,Result.andThen_ok,invoke]
    have e2:(#[] ++ c.args.map a.eval ++ us.toArray) = (c.args.toList.map a.eval ++ us).toArray:=by
     apply Array.toList_inj.1
     simp
    rw [e2]
    exact hs.enters _ _
   ·exact hr0.putNew hJ hd (Grows.of_below hb _) (hu.flat hfl)
end
end Go.Am
namespace Go.Am
open Go.RowKit
def bindO {α:Type}:Option α → (α → Prop) → Prop
 | some x,f=>f x
 | none,_=>False
@[simp] theorem bindO_some {α:Type} (x:α) (f:α → Prop):bindO (some x) f = f x:=rfl
@[simp] theorem bindO_none {α:Type} (f:α → Prop):bindO none f = False:=rfl
@[congr] theorem bindO_congr {α:Type} {r r':Option α} {f:α → Prop} (h:r = r'):bindO r f = bindO r' f:=by rw [h]
def ob {α β:Type}:Option α → (α → Option β) → Option β
 | some x,f=>f x
 | none,_=>none
@[simp] theorem ob_some {α β:Type} (x:α) (f:α → Option β):ob (some x) f = f x:=rfl
@[simp] theorem ob_none {α β:Type} (f:α → Option β):ob none f = none:=rfl
@[congr] theorem ob_congr {α β:Type} {r r':Option α} {f:α → Option β} (h:r = r'):ob r f = ob r' f:=by rw [h]
theorem ob_eq_some {α β:Type} {r:Option α} {f:α → Option β} {y:β} (h:ob r f = some y):∃ x,r = some x ∧ f x = some y:=by
 cases r with
 | none=>cases h
 | some x=>exact ⟨x,rfl,h⟩
def oif {β:Type} (b:Bool) (y:Option β):Option β:=match b with | true=>y | false=>none
@[simp] theorem oif_true {β:Type} (y:Option β):oif true y = y:=rfl
@[simp] theorem oif_false {β:Type} (y:Option β):oif false y = none:=rfl
@[congr] theorem oif_congr {β:Type} {b b':Bool} {y:Option β} (h:b = b'):oif b y = oif b' y:=by rw [h]
theorem oif_eq_some {β:Type} {b:Bool} {r:Option β} {y:β} (h:oif b r = some y):b = true ∧ r = some y:=by
 cases b with
 | true=>exact ⟨rfl,h⟩
 | false=>cases h
def zcOf (P:Program) (t:TypeId):Option (List AV):=ob (zeroOf P t) fun z=>oif (okCells (ofVal z).cells) (some (ofVal z).cells)
def zvOf (P:Program) (t:TypeId):Option AV:=ob (zeroOf P t) fun z=>some (ofVal z)
def pickV:AV → AV → AV → Option AV
 | .bool true,x,_=>some x
 | .bool false,_,y=>some y
 | _,_,_=>none
def intV:AV → Option (IntKind × Int)
 | .int k i=>some (k,i)
 | _=>none
def aggV:AV → Option (List AV)
 | .agg cs=>some cs
 | _=>none
def extV (i:Nat):AV → Option AV
 | .tup vs=>vs[i]?
 | _=>none
def kindOf (P:Program) (t:TypeId):Option IntKind:=match P.underlying t with
 | some (.int k)=>some k
 | _=>none
def strOf (P:Program) (t:TypeId):Bool:=match P.underlying t with | some .string=>true | _=>false
def knownOf (P:Program) (t:TypeId):Bool:=(P.underlying t).isSome
def slcV (n:Nat) (rows:List (List AV)) (lo hi:Option (IntKind × Int)):Option AV:=
 let l:=(lo.map (·.2)).getD 0
 let h:=(hi.map (·.2)).getD (rows.length:Int)
 oif (decide (0 ≤ l ∧ l ≤ h ∧ h ≤ rows.length)) (oif (rows.all fun r=>r.length == n) (some (.sl ((rows.drop l.toNat).take (h.toNat - l.toNat)))))
def lenV (H:Heap):AV → Option AV
 | .str b=>none
 | x=>(lenA H x).map fun (n:Nat)=>.int .i64 n
def slenV:AV → Option AV
 | .str b=>some (.int .i64 b.size)
 | _=>none
def appV (P:Program) (H:Heap) (e n b:Nat) (d:Option Nat) (new:List (List AV)):AV → Option (AV × Heap)
 | .ref k ver .o=>match H k with
  | some (.row v t sz rows)=>oif (decide (v = ver ∧ t = e ∧ sz = n ∧ (rows.length + new.length) * b ≤ 140737488355328)) (some (.ref k (nv H k) .o,upd H k (some (.row (nv H k) e n (rows ++ new)))))
  | _=>none
 | .nils=>ob d fun d=>oif (decide (new.length * b ≤ 140737488355328)) (some (.ref d (nv H d) .o,upd H d (some (.row (nv H d) e n new))))
 | _=>none
def mkfV (τ:Nat → AV) (H:Heap):Fn → List Operand → Array Operand → Option (AV × Heap)
 | .func f,[],caps=>some (.func f (caps.toList.map (ev τ)),H)
 | _,_,_=>none
def bltV (P:Program) (τ:Nat → AV) (H:Heap) (dst:Option Nat):Builtin → List Operand → List TypeId → Option (AV × Heap)
 | .len,[x],[t]=>match strOf P t with
  | true=>ob (slenV (ev τ x)) fun v=>some (v,H)
  | false=>oif (elOf P t).isSome (ob (lenV H (ev τ x)) fun v=>some (v,H))
 | .min,[x,y],[_,_]=>ob (minV (ev τ x) (ev τ y)) fun v=>some (v,H)
 | .delete,[x,i],[t,_]=>ob (mapD P t) fun q=>ob (mdlV H q.1 (ev τ x) (ev τ i)) fun H'=>some (.tup [],H')
 | .clear,[x],[t]=>ob (mapD P t) fun q=>ob (mclV H q.1 (ev τ x)) fun H'=>some (.tup [],H')
 | .append,[x,y],[t,u]=>oif (t == u) (ob (elOf P t) fun e=>ob (szOf P e) fun n=>ob (byOf P e) fun b=>oif (elemOk P e n b) (ob (srcA H n (ev τ y)) fun new=>appV P H e n b dst new (ev τ x)))
 | _,_,_=>none
def strV:AV → Option ByteArray
 | .str s=>some s
 | _=>none
def sixV:AV → AV → Option AV
 | .str s,.int _ i=>oif (decide (0 ≤ i)) (match s[i.toNat]? with | some b=>some (.int .u8 b.toNat) | none=>none)
 | _,_=>none
def sslV (s:ByteArray) (lo hi:Option (IntKind × Int)):Option AV:=
 let l:=(lo.map (·.2)).getD 0
 let h:=(hi.map (·.2)).getD (s.size:Int)
 oif (decide (0 ≤ l ∧ l ≤ h ∧ h ≤ s.size)) (some (.str (s.extract l.toNat h.toNat)))
def nxtV (H:Heap):AV → Option (AV × Heap)
 | .ref k ver (.p 0)=>match H k with
  | some (.obj v (.siter s pos))=>if v = ver then (if pos < s.size then some (.tup [.bool true,.int .i64 pos,.int .i32 (Utf8.decode s pos).1],upd H k (some (.obj ver (.siter s (pos + (Utf8.decode s pos).2))))) else some (.tup [.bool false],H)) else none
  | _=>none
 | _=>none
def stepV (P:Program) (τ:Nat → AV) (H:Heap) (own:Bool) (dst:Option Nat):Op → Option (AV × Heap)
 | .move x=>some (ev τ x,H)
 | .assign x=>some (ev τ x,H)
 | .pick c x y=>ob (pickV (ev τ c) (ev τ x) (ev τ y)) fun v=>some (v,H)
 | .alloc e=>ob dst fun d=>ob (zcOf P e) fun z=>some (.ref d (nv H d) (.p 0),upd H d (some (.box (nv H d) e z)))
 | .box e x=>ob dst fun d=>oif (okCells (ev τ x).cells) (some (.ref d (nv H d) (.p 0),upd H d (some (.box (nv H d) e (ev τ x).cells))))
 | .build t parts=>ob (zcOf P t) fun z=>oif (fldsOk P t) (ob (fillA (placeOf P t) z (parts.toList.map fun p=>(p.1,ev τ p.2))) fun cells=>some (.agg cells,H))
 | .buildSlice t len parts=>ob (elOf P t) fun e=>ob (szOf P e) fun n=>ob (zcOf P e) fun z=>oif (decide (0 < n ∧ z.length = n ∧ len * n ≤ 16777216))
   (ob (fillR n (List.replicate len z) (parts.toList.map fun p=>(p.1,pur (frzs H (parts.toList.map fun p=>ev τ p.2)) (ev τ p.2)))) fun rows=>
    match own with
    | false=>some (.slt rows,frzs H (parts.toList.map fun p=>ev τ p.2))
    | true=>ob dst fun d=>some (.ref d (nv (frzs H (parts.toList.map fun p=>ev τ p.2)) d) .o,
      upd (frzs H (parts.toList.map fun p=>ev τ p.2)) d (some (.row (nv (frzs H (parts.toList.map fun p=>ev τ p.2)) d) e n rows))))
 | .makeSlice t l c=>ob dst fun d=>ob (elOf P t) fun e=>ob (szOf P e) fun n=>ob (byOf P e) fun b=>ob (zcOf P e) fun z=>oif (decide (0 < n ∧ z.length = n)) (ob (intV (ev τ l)) fun p=>ob (intV (ev τ c)) fun q=>
   oif (decide (0 ≤ p.2 ∧ p.2 ≤ q.2 ∧ b * q.2.toNat ≤ 281474976710656 ∧ q.2.toNat ≤ maxLen)) (some (.ref d (nv H d) .o,upd H d (some (.row (nv H d) e n (List.replicate p.2.toNat z))))))
 | .load t x=>ob (szOf P t) fun n=>ob (aggOf P t) fun ag=>ob (rdV H n ag (ev τ x)) fun v=>some (v,H)
 | .store t x y=>ob (szOf P t) fun n=>ob (wrV H n (ev τ y).cells (ev τ x)) fun H'=>some (.tup [],H')
 | .binOp op t x y _=>match eqPlan P op t with
  | some q=>ob (eqA q.1 q.2 (ev τ x) (ev τ y)) fun v=>some (v,H)
  | none=>ob (binV (boolOf P t) op (ev τ x) (ev τ y)) fun v=>some (v,H)
 | .index t x ix=>oif (strOf P t) (ob (sixV (ev τ x) (ev τ ix)) fun v=>some (v,H))
 | .range t x=>oif (strOf P t) (ob dst fun d=>ob (strV (ev τ x)) fun s=>some (.ref d (nv H d) (.p 0),upd H d (some (.obj (nv H d) (.siter s 0)))))
 | .next x true=>nxtV H (ev τ x)
 | .makeMap t none=>ob dst fun d=>ob (mapD P t) fun q=>some (.ref d (nv H d) .o,upd H d (some (.obj (nv H d) (.mp q.1 []))))
 | .lookup t x i co=>ob (mapD P t) fun q=>ob (zvOf P q.2) fun z=>ob (lkV H q.1 z co (ev τ x) (ev τ i)) fun v=>some (v,H)
 | .mapUpdate t x i y=>ob (mapD P t) fun q=>ob (mupV H q.1 (ev τ x) (ev τ i) (ev τ y)) fun H'=>some (.tup [],H')
 | .unOp .not _ x=>ob (notV (ev τ x)) fun v=>some (v,H)
 | .unOp .neg _ x=>ob (intV (ev τ x)) fun p=>some (.int p.1 (p.1.wrap (0 - p.2)),H)
 | .fieldAddr t x f=>ob (fldOf P t f) fun p=>oif (decide (p.2 ≠ 0)) (ob (addA H p.1 (ev τ x)) fun v=>some (v,H))
 | .field t x f=>ob (fldOf P t f) fun p=>ob (fldAgOf P t f) fun ag=>ob (aggV (ev τ x)) fun cs=>ob (readA cs p.1 p.2 ag) fun v=>some (v,H)
 | .indexAddr t x ix=>ob (intV (ev τ ix)) fun p=>match elOf P t with
  | some e=>ob (szOf P e) fun n=>ob (ixA H n p.2 (ev τ x)) fun v=>some (v,H)
  | none=>ob (arOf P t) fun q=>ob (szOf P q.2) fun n=>oif (decide (0 ≤ p.2 ∧ p.2 < q.1)) (ob (addA H (p.2.toNat * n) (ev τ x)) fun v=>some (v,H))
 | .extract x i=>ob (extV i (ev τ x)) fun v=>some (v,H)
 | .slice t x lo hi none=>match strOf P t with
  | true=>ob (strV (ev τ x)) fun s=>ob (ixV τ lo) fun l=>ob (ixV τ hi) fun h=>ob (sslV s l h) fun v=>some (v,H)
  | false=>ob (elOf P t) fun e=>ob (szOf P e) fun n=>ob (rowsA H (ev τ x)) fun rows=>ob (ixV τ lo) fun l=>ob (ixV τ hi) fun h=>ob (slcV n rows l h) fun v=>some (v,H)
 | .slice t x none (some hi) (some mx)=>ob (elOf P t) fun e=>ob (szOf P e) fun n=>ob (rowsA H (ev τ x)) fun rows=>ob (intV (ev τ hi)) fun p=>ob (intV (ev τ mx)) fun q=>oif (decide (p.2 = rows.length ∧ q.2 = rows.length)) (oif (rows.all fun r=>r.length == n) (some (.sl rows,H)))
 | .makeFunc f first caps=>mkfV τ H f first.toList caps
 | .nilCheck x=>oif (okPtr H (ev τ x)) (some (ev τ x,H))
 | .convert st dt x=>oif (knownOf P st) (ob (kindOf P dt) fun k=>ob (intV (ev τ x)) fun p=>some (.int k (k.wrap p.2),H))
 | .call c=>match c.callee with
  | .builtin b=>bltV P τ H dst b c.args.toList c.argTypes.toList
  | _=>none
 | _=>none
theorem intV_some {a:AV} {k:IntKind} {i:Int} (h:intV a = some (k,i)):a = .int k i:=by
 unfold intV at h
 split at h
 ·cases h; rfl
 ·cases h
theorem zcOf_some {P:Program} {t:TypeId} {z:List AV} (h:zcOf P t = some z):∃ v,zeroOf P t = some v ∧ okCells (ofVal v).cells = true ∧ (ofVal v).cells = z:=by
 obtain ⟨v,h1,h2⟩:=ob_eq_some h
 obtain ⟨h3,h4⟩:=oif_eq_some h2
 cases h4
 exact ⟨v,h1,h3,rfl⟩
theorem stepV_sound {P:Program} {τ:Nat → AV} {H H':Heap} {own:Bool} {o:Oper} {v:AV} (h:stepV P τ H own o.dst o.op = some (v,H')):OpR P τ H o v H':=by
 unfold stepV at h
 split at h
 ·rename_i x hop; cases h; exact .move x hop
 ·rename_i x hop; cases h; exact .assign x hop
 ·rename_i c x y hop
  obtain ⟨u,hu,h⟩:=ob_eq_some h
  cases h
  unfold pickV at hu
  split at hu <;> cases hu
  ·rename_i hc; exact .pick c x y true hop hc
  ·rename_i hc; exact .pick c x y false hop hc
 ·rename_i e hop
  obtain ⟨d,hd,h⟩:=ob_eq_some h
  obtain ⟨z,hz,h⟩:=ob_eq_some h
  cases h
  obtain ⟨zv,h1,h2,rfl⟩:=zcOf_some hz
  exact .alloc e d zv hop hd h1 h2
 ·rename_i e x hop
  obtain ⟨d,hd,h⟩:=ob_eq_some h
  obtain ⟨hok,h⟩:=oif_eq_some h
  cases h
  exact .box e x d hop hd hok
 ·rename_i t parts hop
  obtain ⟨z,hz,h⟩:=ob_eq_some h
  obtain ⟨hok,h⟩:=oif_eq_some h
  obtain ⟨cells,hf,h⟩:=ob_eq_some h
  cases h
  obtain ⟨zv,h1,h2,rfl⟩:=zcOf_some hz
  exact .build t parts zv cells hop h1 hok h2 hf
 ·rename_i t len parts hop
  obtain ⟨e,he,h⟩:=ob_eq_some h
  obtain ⟨n,hn,h⟩:=ob_eq_some h
  obtain ⟨z,hz,h⟩:=ob_eq_some h
  obtain ⟨zv,h1,h2,rfl⟩:=zcOf_some hz
  obtain ⟨hc,h⟩:=oif_eq_some h
  obtain ⟨hn0,hzn,hlim⟩:=of_decide_eq_true hc
  obtain ⟨rows,hf,h⟩:=ob_eq_some h
  split at h
  ·cases h
   exact .lit t len parts e n zv rows _ hop he hn hn0 h1 h2 hzn (by omega) rfl hf
  ·obtain ⟨d,hd,h⟩:=ob_eq_some h
   cases h
   exact .litOwn t len parts e n d zv rows _ hop hd he hn hn0 h1 h2 hzn (by omega) rfl hf
 ·rename_i t l c hop
  obtain ⟨d,hd,h⟩:=ob_eq_some h
  obtain ⟨e,he,h⟩:=ob_eq_some h
  obtain ⟨n,hn,h⟩:=ob_eq_some h
  obtain ⟨b,hb,h⟩:=ob_eq_some h
  obtain ⟨z,hz,h⟩:=ob_eq_some h
  obtain ⟨zv,h1,h2,rfl⟩:=zcOf_some hz
  obtain ⟨hc,h⟩:=oif_eq_some h
  obtain ⟨hn0,hzn⟩:=of_decide_eq_true hc
  obtain ⟨p,hp,h⟩:=ob_eq_some h
  obtain ⟨q,hq,h⟩:=ob_eq_some h
  obtain ⟨hc2,h⟩:=oif_eq_some h
  obtain ⟨c1,c2,c3,c4⟩:=of_decide_eq_true hc2
  cases h
  have hint:∀ {y:AV} {r:IntKind × Int},intV y = some r → y = .int r.1 r.2:=fun {y r} hy=>by
   unfold intV at hy
   split at hy
   ·cases hy; rfl
   ·cases hy
  refine .makeSlice t e l c n b d zv p.1 q.1 p.2.toNat q.2.toNat hop hd he hn hb hn0 h1 h2 hzn ?_ ?_ (by omega) c3 c4
  ·rw [hint hp]; congr 1; omega
  ·rw [hint hq]; congr 1; omega
 ·rename_i t x hop
  obtain ⟨n,hn,h⟩:=ob_eq_some h
  obtain ⟨ag,ha,h⟩:=ob_eq_some h
  obtain ⟨u,hu,h⟩:=ob_eq_some h
  cases h
  exact .load t x n ag _ hop hn ha hu
 ·rename_i t x y hop
  obtain ⟨n,hn,h⟩:=ob_eq_some h
  obtain ⟨u,hu,h⟩:=ob_eq_some h
  cases h
  exact .store t x y n _ hop hn hu
 ·rename_i op t x y yt hop
  split at h
  ·rename_i q hq
   obtain ⟨u,hu,h⟩:=ob_eq_some h
   cases h
   exact .eqAgg op t yt x y q.1 q.2 _ hop hq hu
  ·obtain ⟨u,hu,h⟩:=ob_eq_some h
   cases h
   exact .binOp op t yt x y _ hop hu
 ·rename_i t x ix hop
  obtain ⟨hs,h⟩:=oif_eq_some h
  obtain ⟨u,hu,h⟩:=ob_eq_some h
  cases h
  have ht:P.underlying t = some .string:=by
   unfold strOf at hs
   split at hs
   ·assumption
   ·cases hs
  unfold sixV at hu
  split at hu
  ·rename_i sb k i hx hi
   obtain ⟨h0,hu⟩:=oif_eq_some hu
   split at hu
   ·rename_i b hb
    cases hu
    exact .index t x ix sb k i b hop ht hx hi (of_decide_eq_true h0) hb
   ·cases hu
  ·cases hu
 ·rename_i t x hop
  obtain ⟨hs,h⟩:=oif_eq_some h
  obtain ⟨d,hd,h⟩:=ob_eq_some h
  obtain ⟨sb,hu,h⟩:=ob_eq_some h
  cases h
  have ht:P.underlying t = some .string:=by
   unfold strOf at hs
   split at hs
   ·assumption
   ·cases hs
  have hx:ev τ x = .str sb:=by
   unfold strV at hu
   split at hu
   ·rename_i y hy; cases hu; exact hy
   ·cases hu
  exact .rangeStr t x d sb hop hd ht hx
 ·rename_i x hop
  unfold nxtV at h
  split at h
  ·rename_i k ver hx
   split at h
   ·rename_i v' sb pos hk
    split at h
    ·rename_i e
     subst e
     split at h
     ·rename_i hlt
      cases h
      exact .nextStr x k _ sb pos hop hx hk hlt
     ·rename_i hge
      cases h
      exact .nextEnd x k _ sb pos hop hx hk hge
    ·cases h
   ·cases h
  ·cases h
 ·rename_i t hop
  obtain ⟨d,hd,h⟩:=ob_eq_some h
  obtain ⟨q,hq,h⟩:=ob_eq_some h
  cases h
  exact .makeMap t q.2 d q.1 hop hd hq
 ·rename_i t x i co hop
  obtain ⟨q,hq,h⟩:=ob_eq_some h
  obtain ⟨z,hz,h⟩:=ob_eq_some h
  obtain ⟨u,hu,h⟩:=ob_eq_some h
  cases h
  obtain ⟨zv,hz2,h2⟩:=ob_eq_some hz
  cases h2
  exact .lookup t q.2 x i co q.1 zv _ hop hq hz2 hu
 ·rename_i t x i y hop
  obtain ⟨q,hq,h⟩:=ob_eq_some h
  obtain ⟨u,hu,h⟩:=ob_eq_some h
  cases h
  exact .mapUpdate t q.2 x i y q.1 _ hop hq hu
 ·rename_i t x hop
  obtain ⟨u,hu,h⟩:=ob_eq_some h
  cases h
  exact .not t x _ hop hu
 ·rename_i t x hop
  obtain ⟨p,hp,h⟩:=ob_eq_some h
  cases h
  obtain ⟨k,i⟩:=p
  exact .neg t x k i hop (intV_some hp)
 ·rename_i t x f hop
  obtain ⟨p,hp,h⟩:=ob_eq_some h
  obtain ⟨hn,h⟩:=oif_eq_some h
  obtain ⟨u,hu,h⟩:=ob_eq_some h
  cases h
  exact .fieldAddr t x f p.1 p.2 _ hop hp (of_decide_eq_true hn) hu
 ·rename_i t x f hop
  obtain ⟨p,hp,h⟩:=ob_eq_some h
  obtain ⟨ag,ha,h⟩:=ob_eq_some h
  obtain ⟨cs,hc,h⟩:=ob_eq_some h
  obtain ⟨u,hu,h⟩:=ob_eq_some h
  cases h
  have hx:ev τ x = .agg cs:=by
   unfold aggV at hc
   split at hc
   ·rename_i y hy; cases hc; exact hy
   ·cases hc
  exact .field t x f p.1 p.2 ag cs _ hop hp ha hx hu
 ·rename_i t x ix hop
  obtain ⟨p,hp,h⟩:=ob_eq_some h
  have hi:ev τ ix = .int p.1 p.2:=by
   unfold intV at hp
   split at hp
   ·rename_i k i hi; cases hp; exact hi
   ·cases hp
  split at h
  ·rename_i e he
   obtain ⟨n,hn,h⟩:=ob_eq_some h
   obtain ⟨u,hu,h⟩:=ob_eq_some h
   cases h
   exact .indexAddr t e x ix n p.1 p.2 _ hop he hn hi hu
  ·obtain ⟨q,hq,h⟩:=ob_eq_some h
   obtain ⟨n,hn,h⟩:=ob_eq_some h
   obtain ⟨hb,h⟩:=oif_eq_some h
   obtain ⟨u,hu,h⟩:=ob_eq_some h
   cases h
   obtain ⟨h0,h1⟩:=of_decide_eq_true hb
   exact .indexArr t q.2 x ix q.1 n p.1 p.2 _ hop hq hn hi h0 h1 hu
 ·rename_i x i hop
  obtain ⟨u,hu,h⟩:=ob_eq_some h
  cases h
  unfold extV at hu
  split at hu
  ·rename_i vs hx; exact .extract x i vs _ hop hx hu
  ·cases hu
 ·rename_i t x lo hi hop
  split at h
  ·rename_i hs
   obtain ⟨sb,hu,h⟩:=ob_eq_some h
   obtain ⟨l,hl,h⟩:=ob_eq_some h
   obtain ⟨hh,hhh,h⟩:=ob_eq_some h
   obtain ⟨u,hu2,h⟩:=ob_eq_some h
   cases h
   have ht:P.underlying t = some .string:=by
    unfold strOf at hs
    split at hs
    ·assumption
    ·cases hs
   have hx:ev τ x = .str sb:=by
    unfold strV at hu
    split at hu
    ·rename_i y hy; cases hu; exact hy
    ·cases hu
   unfold sslV at hu2
   obtain ⟨hc,hu2⟩:=oif_eq_some hu2
   obtain ⟨c1,c2,c3⟩:=of_decide_eq_true hc
   cases hu2
   exact .sliceStr t x lo hi sb l hh _ _ hop ht hx hl hhh (by omega) (by omega) (by omega) (by omega)
  obtain ⟨e,he,h⟩:=ob_eq_some h
  obtain ⟨n,hn,h⟩:=ob_eq_some h
  obtain ⟨rows,hr,h⟩:=ob_eq_some h
  obtain ⟨l,hl,h⟩:=ob_eq_some h
  obtain ⟨hh,hhh,h⟩:=ob_eq_some h
  obtain ⟨u,hu,h⟩:=ob_eq_some h
  cases h
  unfold slcV at hu
  obtain ⟨hc,hu⟩:=oif_eq_some hu
  obtain ⟨hall,hu⟩:=oif_eq_some hu
  obtain ⟨c1,c2,c3⟩:=of_decide_eq_true hc
  cases hu
  exact .slice t e x lo hi n l hh rows _ _ hop he hn hr hall hl hhh (by omega) (by omega) (by omega) (by omega)
 ·rename_i t x hi mx hop
  obtain ⟨e,he,h⟩:=ob_eq_some h
  obtain ⟨n,hn,h⟩:=ob_eq_some h
  obtain ⟨rows,hr,h⟩:=ob_eq_some h
  obtain ⟨⟨k,i⟩,hp,h⟩:=ob_eq_some h
  obtain ⟨⟨k',i'⟩,hq,h⟩:=ob_eq_some h
  obtain ⟨hc,h⟩:=oif_eq_some h
  obtain ⟨hall,h⟩:=oif_eq_some h
  obtain ⟨c1,c2⟩:=of_decide_eq_true hc
  have c1:i = rows.length:=c1
  have c2:i' = rows.length:=c2
  rw [c1] at hp
  rw [c2] at hq
  cases h
  exact .slice3 t e x hi mx n k k' rows hop he hn hr hall (intV_some hp) (intV_some hq)
 ·rename_i f first caps hop
  unfold mkfV at h
  split at h
  ·rename_i f' hf
   cases h
   have e:first = #[]:=Array.toList_inj.1 hf
   subst e
   exact .makeFunc f' _ hop
  ·cases h
 ·rename_i x hop
  obtain ⟨hx,h⟩:=oif_eq_some h
  cases h
  exact .nilCheck x hop hx
 ·rename_i st dt x hop
  obtain ⟨hk,h⟩:=oif_eq_some h
  obtain ⟨k,hkd,h⟩:=ob_eq_some h
  obtain ⟨p,hp,h⟩:=ob_eq_some h
  cases h
  have hi:ev τ x = .int p.1 p.2:=by
   unfold intV at hp
   split at hp
   ·rename_i k i hi; cases hp; exact hi
   ·cases hp
  have hkd':P.underlying dt = some (.int k):=by
   unfold kindOf at hkd
   split at hkd
   ·cases hkd; assumption
   ·cases hkd
  exact .convInt st dt x k p.1 p.2 hop hk hkd' hi
 ·rename_i c hop
  split at h
  ·rename_i b hb
   obtain ⟨callee,args,ats⟩:=c
   dsimp only at hb h
   subst hb
   unfold bltV at h
   split at h
   ·rename_i x t hx ht
    have e1:args = #[x]:=Array.toList_inj.1 hx
    have e2:ats = #[t]:=Array.toList_inj.1 ht
    subst e1 e2
    split at h
    ·rename_i hs
     obtain ⟨u,hu,h⟩:=ob_eq_some h
     cases h
     unfold slenV at hu
     split at hu
     ·rename_i b hb
      cases hu
      have ht:P.underlying t = some .string:=by
       unfold strOf at hs
       split at hs
       ·assumption
       ·cases hs
      exact .lenStr t x b hop ht hb
     ·cases hu
    ·obtain ⟨he,h⟩:=oif_eq_some h
     obtain ⟨u,hu,h⟩:=ob_eq_some h
     cases h
     unfold lenV at hu
     split at hu
     ·cases hu
     ·obtain ⟨m,hm,rfl⟩:=Option.map_eq_some_iff.1 hu
      exact .len t x m hop he hm
   ·rename_i x y t u hx ht
    have e1:args = #[x,y]:=Array.toList_inj.1 hx
    have e2:ats = #[t,u]:=Array.toList_inj.1 ht
    subst e1 e2
    obtain ⟨r,hr,h⟩:=ob_eq_some h
    cases h
    exact .min t u x y _ hop hr
   ·rename_i x i t u hx ht
    have e1:args = #[x,i]:=Array.toList_inj.1 hx
    have e2:ats = #[t,u]:=Array.toList_inj.1 ht
    subst e1 e2
    obtain ⟨q,hq,h⟩:=ob_eq_some h
    obtain ⟨r,hr,h⟩:=ob_eq_some h
    cases h
    exact .mapDel t u q.2 x i q.1 _ hop hq hr
   ·rename_i x t hx ht
    have e1:args = #[x]:=Array.toList_inj.1 hx
    have e2:ats = #[t]:=Array.toList_inj.1 ht
    subst e1 e2
    obtain ⟨q,hq,h⟩:=ob_eq_some h
    obtain ⟨r,hr,h⟩:=ob_eq_some h
    cases h
    exact .mapClr t q.2 x q.1 _ hop hq hr
   ·rename_i x y t u hx ht
    have e1:args = #[x,y]:=Array.toList_inj.1 hx
    have e2:ats = #[t,u]:=Array.toList_inj.1 ht
    subst e1 e2
    obtain ⟨htu,hA⟩:=oif_eq_some h
    clear h
    have htu:t = u:=by simpa using htu
    subst htu
    obtain ⟨e,he,h⟩:=ob_eq_some hA
    clear hA
    obtain ⟨n,hn,h⟩:=ob_eq_some h
    obtain ⟨b,hb,h⟩:=ob_eq_some h
    obtain ⟨hok,h⟩:=oif_eq_some h
    obtain ⟨new,hnew,h⟩:=ob_eq_some h
    unfold appV at h
    split at h
    ·rename_i k ver hx
     split at h
     ·rename_i v' t' sz rows hk
      obtain ⟨hc,hB⟩:=oif_eq_some h
      clear h
      cases hB
      obtain ⟨rfl,rfl,rfl,hbb⟩:=of_decide_eq_true hc
      exact .append t _ x y _ b k _ rows new hop he hok hx hk hnew hbb
     ·cases h
    ·rename_i hx
     obtain ⟨d,hd,h⟩:=ob_eq_some h
     obtain ⟨hbb,h⟩:=oif_eq_some h
     cases h
     exact .appendNil t e x y n b d new hop he hok hx hd hnew (of_decide_eq_true hbb)
    ·cases h
   ·cases h
  ·cases h
 ·cases h
end Go.Am
set_option linter.unusedSectionVars false
namespace Go.Am
open Go.RowKit
mutual
def ren (σ:Nat → Nat):AV → AV
 | .ref k v r=>.ref (σ k) v r
 | .agg cs=>.agg (renL σ cs)
 | .tup cs=>.tup (renL σ cs)
 | .sl rows=>.sl (renLL σ rows)
 | .slt rows=>.slt (renLL σ rows)
 | .elt row off=>.elt (renL σ row) off
 | .func f cs=>.func f (renL σ cs)
 | a=>a
def renL (σ:Nat → Nat):List AV → List AV
 | []=>[]
 | c :: cs=>ren σ c :: renL σ cs
def renLL (σ:Nat → Nat):List (List AV) → List (List AV)
 | []=>[]
 | r :: rs=>renL σ r :: renLL σ rs
end
mutual
def okk (K:Nat → Bool):AV → Bool
 | .ref k _ _=>K k
 | .agg cs | .tup cs | .elt cs _ | .func _ cs=>okkL K cs
 | .sl rows | .slt rows=>okkLL K rows
 | _=>true
def okkL (K:Nat → Bool):List AV → Bool
 | []=>true
 | c :: cs=>okk K c && okkL K cs
def okkLL (K:Nat → Bool):List (List AV) → Bool
 | []=>true
 | r :: rs=>okkL K r && okkLL K rs
end
theorem renL_map (σ:Nat → Nat):∀ l,renL σ l = l.map (ren σ)
 | []=>rfl
 | c :: cs=>by simp [renL,renL_map σ cs]
theorem renLL_map (σ:Nat → Nat):∀ l,renLL σ l = l.map (renL σ)
 | []=>rfl
 | c :: cs=>by simp [renLL,renLL_map σ cs]
theorem renLL_flatten (σ:Nat → Nat):∀ l,(renLL σ l).flatten = renL σ l.flatten
 | []=>rfl
 | c :: cs=>by simp only [renLL,List.flatten_cons,renLL_flatten σ cs,renL_map,List.map_append]
theorem okkL_get {K:Nat → Bool}:∀ {l:List AV} {i:Nat} {a:AV},okkL K l = true → l[i]? = some a → okk K a = true
 | [],i,a,_,h=>by simp at h
 | c :: cs,0,a,h,e=>by simp only [okkL,Bool.and_eq_true] at h; simp at e; rw [← e]; exact h.1
 | c :: cs,i + 1,a,h,e=>by simp only [okkL,Bool.and_eq_true] at h; exact okkL_get h.2 (by simpa using e)
theorem okkLL_get {K:Nat → Bool}:∀ {l:List (List AV)} {i:Nat} {a:List AV},okkLL K l = true → l[i]? = some a → okkL K a = true
 | [],i,a,_,h=>by simp at h
 | c :: cs,0,a,h,e=>by simp only [okkLL,Bool.and_eq_true] at h; simp at e; rw [← e]; exact h.1
 | c :: cs,i + 1,a,h,e=>by simp only [okkLL,Bool.and_eq_true] at h; exact okkLL_get h.2 (by simpa using e)
theorem okkL_append {K:Nat → Bool}:∀ {l m:List AV},okkL K (l ++ m) = (okkL K l && okkL K m)
 | [],m=>by simp [okkL]
 | c :: cs,m=>by simp only [List.cons_append,okkL,okkL_append,Bool.and_assoc]
theorem okkLL_flatten {K:Nat → Bool}:∀ {l:List (List AV)},okkLL K l = true → okkL K l.flatten = true
 | [],_=>rfl
 | c :: cs,h=>by
  simp only [okkLL,Bool.and_eq_true] at h
  rw [List.flatten_cons,okkL_append,h.1,okkLL_flatten h.2]
  rfl
mutual
theorem ren_closed (σ:Nat → Nat):∀ {a:AV},closed a = true → ren σ a = a
 | .agg cs,h=>by simp only [closed] at h; simp only [ren,renL_closed σ h]
 | .tup cs,h=>by simp only [closed] at h; simp only [ren,renL_closed σ h]
 | .elt cs _,h=>by simp only [closed] at h; simp only [ren,renL_closed σ h]
 | .func _ cs,h=>by simp only [closed] at h; simp only [ren,renL_closed σ h]
 | .sl rows,h=>by simp only [closed] at h; simp only [ren,renLL_closed σ h]
 | .slt rows,h=>by simp only [closed] at h; simp only [ren,renLL_closed σ h]
 | .any,h=>rfl
 | .int _ _,h=>rfl
 | .bool _,h=>rfl
 | .str _,h=>rfl
 | .nils,h=>rfl
 | .nilf,h=>rfl
 | .nilp,h=>rfl
 | .yld,h=>rfl
 | .ref _ _ _,h=>by simp [closed] at h
theorem renL_closed (σ:Nat → Nat):∀ {l:List AV},closedL l = true → renL σ l = l
 | [],_=>rfl
 | c :: cs,h=>by
  simp only [closedL,Bool.and_eq_true] at h
  simp only [renL,ren_closed σ h.1,renL_closed σ h.2]
theorem renLL_closed (σ:Nat → Nat):∀ {l:List (List AV)},closedLL l = true → renLL σ l = l
 | [],_=>rfl
 | c :: cs,h=>by
  simp only [closedLL,Bool.and_eq_true] at h
  simp only [renLL,renL_closed σ h.1,renLL_closed σ h.2]
end
mutual
theorem okk_closed (K:Nat → Bool):∀ {a:AV},closed a = true → okk K a = true
 | .agg cs,h=>by simp only [closed] at h; simp only [okk,okkL_closed K h]
 | .tup cs,h=>by simp only [closed] at h; simp only [okk,okkL_closed K h]
 | .elt cs _,h=>by simp only [closed] at h; simp only [okk,okkL_closed K h]
 | .func _ cs,h=>by simp only [closed] at h; simp only [okk,okkL_closed K h]
 | .sl rows,h=>by simp only [closed] at h; simp only [okk,okkLL_closed K h]
 | .slt rows,h=>by simp only [closed] at h; simp only [okk,okkLL_closed K h]
 | .any,h=>rfl
 | .int _ _,h=>rfl
 | .bool _,h=>rfl
 | .str _,h=>rfl
 | .nils,h=>rfl
 | .nilf,h=>rfl
 | .nilp,h=>rfl
 | .yld,h=>rfl
 | .ref _ _ _,h=>by simp [closed] at h
theorem okkL_closed (K:Nat → Bool):∀ {l:List AV},closedL l = true → okkL K l = true
 | [],_=>rfl
 | c :: cs,h=>by
  simp only [closedL,Bool.and_eq_true] at h
  simp only [okkL,okk_closed K h.1,okkL_closed K h.2,Bool.and_self]
theorem okkLL_closed (K:Nat → Bool):∀ {l:List (List AV)},closedLL l = true → okkLL K l = true
 | [],_=>rfl
 | c :: cs,h=>by
  simp only [closedLL,Bool.and_eq_true] at h
  simp only [okkLL,okkL_closed K h.1,okkLL_closed K h.2,Bool.and_self]
end
theorem ren_cell (σ:Nat → Nat) (a:AV):(ren σ a).cell = a.cell:=by cases a <;> rfl
def renB (σ:Nat → Nat):Blk → Blk
 | .dead v=>.dead v
 | .box v t cells=>.box v t (renL σ cells)
 | .row v t sz rows=>.row v t sz (renLL σ rows)
 | .froz v rows=>.froz v (renLL σ rows)
 | .fbox v cells=>.fbox v (renL σ cells)
 | .obj v o=>.obj v o
 | .lent v o=>.lent v o
def okB (K:Nat → Bool):Blk → Bool
 | .dead _ | .obj _ _ | .lent _ _=>true
 | .box _ _ cells | .fbox _ cells=>okkL K cells
 | .row _ _ _ rows | .froz _ rows=>okkLL K rows
theorem renB_ver (σ:Nat → Nat) (b:Blk):(renB σ b).ver = b.ver:=by cases b <;> rfl
theorem renB_live (σ:Nat → Nat) (b:Blk):(renB σ b).live = b.live:=by cases b <;> rfl
theorem renLL_length (σ:Nat → Nat) (l:List (List AV)):(renLL σ l).length = l.length:=by rw [renLL_map]; simp
theorem RefVal.ren (σ:Nat → Nat) (w:World) (og:Option Nat) (b:Blk) (r:RefK) (v:Value):RefVal w og (renB σ b) r v = RefVal w og b r v:=by
 cases og <;> cases b <;> cases r <;> simp only [renB,RefVal,renLL_length]
section
variable {C C2 : Ctx} {σ : Nat → Nat} {K : Nat → Bool}
structure RenOk (C C2:Ctx) (σ:Nat → Nat) (K:Nat → Bool):Prop where
 S:∀ b,C.S b → C2.S b ∧ C2.w.heap[b]? = C.w.heap[b]?
 H:∀ k,K k = true → ∀ blk,C.H k = some blk → ∃ blk2,C2.H (σ k) = some blk2 ∧ blk.ver ≤ blk2.ver ∧ (blk2.ver = blk.ver → ∀ r v,RefVal C.w (C.own k) blk r v → RefVal C2.w (C2.own (σ k)) blk2 r v)
 l:C2.l = C.l
theorem R.ren (h:RenOk C C2 σ K) {a:AV} {v:Value} (hr:R C a v):okk K a = true → R C2 (Am.ren σ a) v:=by
 induction hr with
 | any v=>exact fun _=>.any v
 | int k n=>exact fun _=>.int k n
 | bool b=>exact fun _=>.bool b
 | str s hs=>exact fun _=>.str s hs
 | agg cs vs hl _ ih=>
  intro hk
  simp only [okk] at hk
  simp only [Am.ren,renL_map]
  refine .agg _ vs (by simpa using hl) fun i a ha=>?_
  rw [List.getElem?_map] at ha
  obtain ⟨b,hb,rfl⟩:=Option.map_eq_some_iff.1 ha
  exact ih i b hb (okkL_get hk hb)
 | tup cs vs hl _ ih=>
  intro hk
  simp only [okk] at hk
  simp only [Am.ren,renL_map]
  refine .tup _ vs (by simpa using hl) fun i a ha=>?_
  rw [List.getElem?_map] at ha
  obtain ⟨b,hb,rfl⟩:=Option.map_eq_some_iff.1 ha
  exact ih i b hb (okkL_get hk hb)
 | sl rows A cap g off sz f hA hcap hmax hsz hc hone _ ih=>
  intro hk
  simp only [okk] at hk
  have el:(renLL σ rows).length = rows.length:=renLL_length σ rows
  simp only [Am.ren]
  rw [← el] at hcap hmax hc ⊢
  refine .sl _ A cap g off sz f (fun hr=>?_) hcap hmax (fun r hr=>?_) (fun i hi j hj=>?_) hone fun i r hr j a ha=>?_
  ·have hr':rows ≠ []:=fun e=>hr (by subst e; rfl)
   exact ⟨(hA hr').1,(h.S g (hA hr').2).1⟩
  ·rw [renLL_map] at hr
   obtain ⟨q,hq,rfl⟩:=List.mem_map.1 hr
   rw [renL_map,List.length_map]
   exact hsz q hq
  ·have hr':rows ≠ []:=fun e=>by subst e; simp [renLL] at hi
   exact (cell_same (h.S g (hA hr').2).2 _).trans (hc i hi j hj)
  ·rw [renLL_map,List.getElem?_map] at hr
   obtain ⟨q,hq,rfl⟩:=Option.map_eq_some_iff.1 hr
   rw [renL_map,List.getElem?_map] at ha
   obtain ⟨b,hb,rfl⟩:=Option.map_eq_some_iff.1 ha
   exact ih i q hq j b hb (okkL_get (okkLL_get hk hq) hb)
 | slt rows g off sz f hA hmax hsz hc hone _ ih=>
  intro hk
  simp only [okk] at hk
  have el:(renLL σ rows).length = rows.length:=renLL_length σ rows
  simp only [Am.ren]
  rw [← el] at hmax hc ⊢
  refine .slt _ g off sz f (h.S g hA).1 hmax (fun r hr=>?_) (fun i hi j hj=>?_) hone fun i r hr j a ha=>?_
  ·rw [renLL_map] at hr
   obtain ⟨q,hq,rfl⟩:=List.mem_map.1 hr
   rw [renL_map,List.length_map]
   exact hsz q hq
  ·exact (cell_same (h.S g hA).2 _).trans (hc i hi j hj)
  ·rw [renLL_map,List.getElem?_map] at hr
   obtain ⟨q,hq,rfl⟩:=Option.map_eq_some_iff.1 hr
   rw [renL_map,List.getElem?_map] at ha
   obtain ⟨b,hb,rfl⟩:=Option.map_eq_some_iff.1 ha
   exact ih i q hq j b hb (okkL_get (okkLL_get hk hq) hb)
 | nils=>exact fun _=>.nils
 | elt row off g o f hA hc hone _ ih=>
  intro hk
  simp only [okk] at hk
  simp only [Am.ren,renL_map]
  refine .elt _ off g o f (h.S g hA).1 (fun j hj=>?_) hone fun j a ha=>?_
  ·rw [List.length_map] at hj
   exact (cell_same (h.S g hA).2 _).trans (hc j hj)
  ·rw [List.getElem?_map] at ha
   obtain ⟨b,hb,rfl⟩:=Option.map_eq_some_iff.1 ha
   exact ih j b hb (okkL_get hk hb)
 | ref key ver r blk v hb hv hone hr=>
  intro hk
  simp only [okk] at hk
  obtain ⟨blk',hb',hv',hr'⟩:=h.H key hk blk hb
  refine .ref (σ key) ver r blk' v hb' (Nat.le_trans hv hv') hone fun e=>?_
  have e1:blk'.ver = blk.ver:=by omega
  exact hr' e1 r v (hr (by omega))
 | func f cs vs hl _ ih=>
  intro hk
  simp only [okk] at hk
  simp only [Am.ren,renL_map]
  refine .func f _ vs (by simpa using hl) fun i a ha=>?_
  rw [List.getElem?_map] at ha
  obtain ⟨b,hb,rfl⟩:=Option.map_eq_some_iff.1 ha
  exact ih i b hb (okkL_get hk hb)
 | nilf=>exact fun _=>.nilf
 | nilp=>exact fun _=>.nilp
 | nilm=>exact fun _=>.nilm
 | yld=>intro _; rw [← h.l]; exact .yld
theorem Holds.ren (h:RenOk C C2 σ K) {cs:Array Value} {cells:List AV} (hh:Holds C cs cells) (hk:okkL K cells = true):Holds C2 cs (renL σ cells):=fun i a ha=>by
 rw [renL_map,List.getElem?_map] at ha
 obtain ⟨b,hb,rfl⟩:=Option.map_eq_some_iff.1 ha
 obtain ⟨v,h1,h2,h3⟩:=hh i b hb
 exact ⟨v,h1,h2.ren h (okkL_get hk hb),by rw [ren_cell]; exact h3⟩
theorem HRel.ren (h:RenOk C C2 σ K) {og:Option Nat} {blk:Blk} (hg:∀ g,og = some g → blk.live = true → C2.w.heap[g]? = C.w.heap[g]?) (hh:HRel C og blk) (hk:okB K blk = true):HRel C2 og (renB σ blk):=by
 cases og with
 | none=>
  cases blk with
  | dead _=>trivial
  | box v t cells=>exact hh.elim
  | fbox v cells=>exact hh.elim
  | obj v ob=>exact hh.elim
  | lent v ob=>trivial
  | row v t sz rows=>
   obtain ⟨rfl,h2⟩:=hh
   exact ⟨rfl,h2⟩
  | froz v rows=>
   have e:rows = []:=hh
   subst e
   exact rfl
 | some g=>
  cases blk with
  | dead _=>trivial
  | box ver t cells=>
   obtain ⟨cs,h1,h2,h3⟩:=hh
   exact ⟨cs,(hg g rfl rfl).trans h1,by rw [renL_map,List.length_map]; exact h2,h3.ren h hk⟩
  | row ver t sz rows=>
   obtain ⟨cs,cap,h1,h2,h3,h4,h5,h6,h7⟩:=hh
   refine ⟨cs,cap,(hg g rfl rfl).trans h1,h2,by rw [renLL_length]; exact h3,h4,h5,fun r hr=>?_,?_⟩
   ·rw [renLL_map] at hr
    obtain ⟨q,hq,rfl⟩:=List.mem_map.1 hr
    rw [renL_map,List.length_map]
    exact h6 q hq
   ·rw [renLL_flatten]; exact h7.ren h (okkLL_flatten hk)
  | froz ver rows=>
   obtain ⟨cs,t,sz,h1,h2,h3,h4,h5⟩:=hh
   refine ⟨cs,t,sz,(h.S g h2).2.trans h1,(h.S g h2).1,h3,fun r hr=>?_,?_⟩
   ·rw [renLL_map] at hr
    obtain ⟨q,hq,rfl⟩:=List.mem_map.1 hr
    rw [renL_map,List.length_map]
    exact h4 q hq
   ·rw [renLL_flatten]; exact h5.ren h (okkLL_flatten hk)
  | fbox ver cells=>
   obtain ⟨cs,t,h1,h2,h3⟩:=hh
   exact ⟨cs,t,(h.S g h2).2.trans h1,(h.S g h2).1,h3.ren h hk⟩
  | obj ver ob=>
   obtain ⟨o,h1,h2⟩:=hh
   exact ⟨o,(hg g rfl rfl).trans h1,h2⟩
  | lent ver ob=>trivial
end
def lookB:List (Nat × Blk) → Nat → Option Blk
 | [],_=>none
 | (i,v) :: l,j=>if i = j then some v else lookB l j
def hls (l:List (Nat × Blk)) (vs:Nat → Nat):Heap:=fun k=>match lookB l k with
 | some b=>some b
 | none=>some (.dead (vs k))
theorem hls_some {l:List (Nat × Blk)} {vs:Nat → Nat} {k:Nat} {b:Blk} (h:lookB l k = some b):hls l vs k = some b:=by simp [hls,h]
theorem hls_none {l:List (Nat × Blk)} {vs:Nat → Nat} {k:Nat} (h:lookB l k = none):hls l vs k = some (.dead (vs k)):=by simp [hls,h]
theorem hls_live {l:List (Nat × Blk)} {vs:Nat → Nat} {k:Nat} {b:Blk} (h:hls l vs k = some b) (hv:b.live = true):lookB l k = some b:=by
 unfold hls at h
 split at h
 ·rename_i b' e; rw [e,← h]
 ·cases h; cases hv
def keys (l:List (Nat × Blk)):List Nat:=l.map (·.1)
theorem lookB_mem {l:List (Nat × Blk)} {k:Nat} {b:Blk} (h:lookB l k = some b):(k,b) ∈ l:=by
 induction l with
 | nil=>cases h
 | cons p r ih=>
  obtain ⟨j,v⟩:=p
  unfold lookB at h
  by_cases e:j = k
  ·subst e; rw [if_pos rfl] at h; cases h; simp
  ·rw [if_neg e] at h; simp [ih h]
theorem lookB_key {l:List (Nat × Blk)} {k:Nat} {b:Blk} (h:lookB l k = some b):k ∈ keys l:=List.mem_map_of_mem (f:=(·.1)) (lookB_mem h)
theorem lookB_none {l:List (Nat × Blk)} {k:Nat} (h:k ∉ keys l):lookB l k = none:=by
 cases e:lookB l k with
 | none=>rfl
 | some b=>exact (h (lookB_key e)).elim
theorem lookB_of_key {l:List (Nat × Blk)} {k:Nat} (h:k ∈ keys l):∃ b,lookB l k = some b:=by
 induction l with
 | nil=>simp [keys] at h
 | cons p r ih=>
  obtain ⟨j,v⟩:=p
  unfold lookB
  by_cases e:j = k
  ·exact ⟨v,by rw [if_pos e]⟩
  ·rw [if_neg e]
   refine ih ?_
   simp only [keys,List.map_cons,List.mem_cons] at h
   exact h.resolve_left fun h=>e h.symm
def LiveC (C:Ctx) (b:Nat):Prop:=∃ k blk,C.H k = some blk ∧ blk.live = true ∧ C.own k = some b
structure HOk (C:Ctx):Prop where
 hS:∀ b,C.S b → b < C.w.heap.size
 hown:∀ k blk g,C.H k = some blk → blk.live = true → C.own k = some g → g < C.w.heap.size ∧ ¬ C.S g
 inj:∀ k k' blk blk' g,C.H k = some blk → C.H k' = some blk' → blk.live = true → blk'.live = true → C.own k = some g → C.own k' = some g → k = k'
 heap:∀ k blk,C.H k = some blk → HRel C (C.own k) blk
structure HTr (C C':Ctx):Prop where
 le:C.le C'
 grows:Grows C.w C'.w (LiveC C)
 hS:∀ b,C'.S b → C.S b ∨ LiveC C b ∨ C.w.heap.size ≤ b
 hown:∀ k blk g,C'.H k = some blk → blk.live = true → C'.own k = some g → LiveC C g ∨ C.w.heap.size ≤ g
structure HSpec (P:Program) (f:FuncId) (args:List AV) (H:Heap) (Q:AV → Heap → Prop):Prop where
 enters:Enters P f
 calls:∀ (C:Ctx) (vs:List Value),C.H = H → HOk C → RL C args vs → CallsIn (FW none) 0 P f vs.toArray C.w fun e w'=>∃ v r C',e = .returned v ∧ C'.w = w' ∧ HOk C' ∧ HTr C C' ∧ R C' r v ∧ Q r C'.H
def HSpecL (P:Program) (f:FuncId) (args:List AV) (l:List (Nat × Blk)) (Q:AV → List (Nat × Blk) → Prop):Prop:=
 ∀ vs,HSpec P f args (hls l vs) fun r H'=>∃ l' vs',H' = hls l' vs' ∧ Q r l'
theorem HSpec.mono {P:Program} {f:FuncId} {args:List AV} {H:Heap} {Q Q':AV → Heap → Prop} (h:HSpec P f args H Q) (hq:∀ r H',Q r H' → Q' r H'):HSpec P f args H Q':=
 ⟨h.enters,fun C vs hH hC hR=>(h.calls C vs hH hC hR).mono fun e w' ⟨v,r,C',h1,h2,h3,h4,h5,h6⟩=>⟨v,r,C',h1,h2,h3,h4,h5,hq _ _ h6⟩⟩
theorem HSpecL.mono {P:Program} {f:FuncId} {args:List AV} {l:List (Nat × Blk)} {Q Q':AV → List (Nat × Blk) → Prop} (h:HSpecL P f args l Q) (hq:∀ r l',Q r l' → Q' r l'):HSpecL P f args l Q':=
 fun vs=>(h vs).mono fun r H' ⟨l',vs',h1,h2⟩=>⟨l',vs',h1,hq _ _ h2⟩
def asc:List (Nat × Nat) → Nat → Nat
 | [],k=>k
 | (a,b) :: r,k=>if a = k then b else asc r k
def csa:List (Nat × Nat) → Nat → Nat
 | [],k=>k
 | (a,b) :: r,k=>if b = k then a else csa r k
theorem asc_mem {ks:List (Nat × Nat)} (hn:(ks.map (·.1)).Nodup) {p:Nat × Nat} (h:p ∈ ks):asc ks p.1 = p.2:=by
 induction ks with
 | nil=>simp at h
 | cons q r ih=>
  obtain ⟨a,b⟩:=q
  unfold asc
  rcases List.mem_cons.1 h with rfl | h
  ·simp
  ·have hn':=List.nodup_cons.1 hn
   have:a ≠ p.1:=fun e=>hn'.1 (e ▸ List.mem_map_of_mem (f:=(·.1)) h)
   rw [if_neg this]
   exact ih hn'.2 h
theorem csa_mem {ks:List (Nat × Nat)} (hn:(ks.map (·.2)).Nodup) {p:Nat × Nat} (h:p ∈ ks):csa ks p.2 = p.1:=by
 induction ks with
 | nil=>simp at h
 | cons q r ih=>
  obtain ⟨a,b⟩:=q
  unfold csa
  rcases List.mem_cons.1 h with rfl | h
  ·simp
  ·have hn':=List.nodup_cons.1 hn
   have:b ≠ p.2:=fun e=>hn'.1 (e ▸ List.mem_map_of_mem (f:=(·.2)) h)
   rw [if_neg this]
   exact ih hn'.2 h
def inK (l:List Nat) (k:Nat):Bool:=l.contains k
theorem inK_iff {l:List Nat} {k:Nat}:inK l k = true ↔ k ∈ l:=by simp [inK]
def lentL (L:List (Nat × Blk)) (ks lent:List (Nat × Nat)):List (Nat × Blk):=lent.map fun p=>(p.2,renB (asc ks) ((lookB L p.1).getD (.dead 0)))
def dropK (ks:List Nat):List (Nat × Blk) → List (Nat × Blk)
 | []=>[]
 | (k,b) :: r=>if inK ks k = true then dropK ks r else (k,b) :: dropK ks r
def backL (ks:List (Nat × Nat)) (l:List (Nat × Blk)):List (Nat × Blk):=l.map fun p=>(csa ks p.1,renB (csa ks) p.2)
theorem lookB_dropK {ks:List Nat} {L:List (Nat × Blk)} {k:Nat}:lookB (dropK ks L) k = if k ∈ ks then none else lookB L k:=by
 induction L with
 | nil=>simp [dropK,lookB]
 | cons p r ih=>
  obtain ⟨j,v⟩:=p
  unfold dropK
  by_cases hj:inK ks j = true
  ·rw [if_pos hj,ih]
   by_cases hk:k ∈ ks
   ·simp [hk]
   ·have:j ≠ k:=fun e=>hk (e ▸ inK_iff.1 hj)
    simp [hk,lookB,this]
  ·rw [if_neg hj]
   unfold lookB
   by_cases e:j = k
   ·subst e
    have:j ∉ ks:=fun h=>hj (inK_iff.2 h)
    simp [this]
   ·rw [if_neg e,if_neg e,ih]
theorem lookB_append (l l':List (Nat × Blk)) (k:Nat):lookB (l ++ l') k = (lookB l k).or (lookB l' k):=by
 induction l with
 | nil=>simp [lookB]
 | cons p r ih=>
  obtain ⟨j,v⟩:=p
  show (if j = k then some v else lookB (r ++ l') k) = (if j = k then some v else lookB r k).or _
  by_cases e:j = k
  ·simp [e]
  ·simp [e,ih]
section
variable {ks lent : List (Nat × Nat)} (h1 : (ks.map (·.1)).Nodup) (h2 : (ks.map (·.2)).Nodup)
include h1 h2
theorem csa_asc {k:Nat} (h:k ∈ ks.map (·.1)):csa ks (asc ks k) = k:=by
 obtain ⟨p,hp,rfl⟩:=List.mem_map.1 h
 rw [asc_mem h1 hp,csa_mem h2 hp]
theorem asc_csa {k:Nat} (h:k ∈ ks.map (·.2)):asc ks (csa ks k) = k:=by
 obtain ⟨p,hp,rfl⟩:=List.mem_map.1 h
 rw [csa_mem h2 hp,asc_mem h1 hp]
theorem csa_in {k:Nat} (h:k ∈ ks.map (·.2)):csa ks k ∈ ks.map (·.1):=by
 obtain ⟨p,hp,rfl⟩:=List.mem_map.1 h
 rw [csa_mem h2 hp]
 exact List.mem_map_of_mem (f:=(·.1)) hp
theorem asc_in {k:Nat} (h:k ∈ ks.map (·.1)):asc ks k ∈ ks.map (·.2):=by
 obtain ⟨p,hp,rfl⟩:=List.mem_map.1 h
 rw [asc_mem h1 hp]
 exact List.mem_map_of_mem (f:=(·.2)) hp
theorem lookB_backL {l:List (Nat × Blk)} (hk:∀ k ∈ keys l,k ∈ ks.map (·.2)) {kc:Nat} (hc:kc ∈ ks.map (·.1)):lookB (backL ks l) kc = (lookB l (asc ks kc)).map (renB (csa ks)):=by
 induction l with
 | nil=>rfl
 | cons p r ih=>
  obtain ⟨j,v⟩:=p
  have hj:j ∈ ks.map (·.2):=hk j (by simp [keys])
  have ih:=ih fun k h=>hk k (by simp only [keys,List.map_cons,List.mem_cons]; exact .inr h)
  show (if csa ks j = kc then some (renB (csa ks) v) else lookB (backL ks r) kc) = (if j = asc ks kc then some v else lookB r (asc ks kc)).map _
  by_cases e:csa ks j = kc
  ·have:j = asc ks kc:=by rw [← e,asc_csa h1 h2 hj]
   rw [if_pos e,if_pos this]; rfl
  ·have:j ≠ asc ks kc:=fun e2=>e (by rw [e2,csa_asc h1 h2 hc])
   rw [if_neg e,if_neg this]; exact ih
theorem lookB_backL_none {l:List (Nat × Blk)} (hk:∀ k ∈ keys l,k ∈ ks.map (·.2)) {kc:Nat} (hc:kc ∉ ks.map (·.1)):lookB (backL ks l) kc = none:=by
 refine lookB_none fun h=>hc ?_
 simp only [keys,backL,List.map_map] at h
 obtain ⟨p,hp,rfl⟩:=List.mem_map.1 h
 exact csa_in h1 h2 (hk p.1 (List.mem_map_of_mem (f:=(·.1)) hp))
end
theorem lookB_lentL {L:List (Nat × Blk)} {ks:List (Nat × Nat)}:∀ {lent:List (Nat × Nat)},(lent.map (·.2)).Nodup → ∀ {p:Nat × Nat},p ∈ lent → lookB (lentL L ks lent) p.2 = some (renB (asc ks) ((lookB L p.1).getD (.dead 0)))
 | [],_,p,hp=>by simp at hp
 | q :: r,hn,p,hp=>by
  have hn':=List.nodup_cons.1 hn
  show (if q.2 = p.2 then some _ else lookB (lentL L ks r) p.2) = _
  rcases List.mem_cons.1 hp with rfl | hp
  ·rw [if_pos rfl]
  ·have:q.2 ≠ p.2:=fun e=>hn'.1 (by show q.2 ∈ _; rw [e]; exact List.mem_map_of_mem (f:=(·.2)) hp)
   rw [if_neg this]
   exact lookB_lentL hn'.2 hp
theorem keys_lentL {L:List (Nat × Blk)} {ks lent:List (Nat × Nat)}:keys (lentL L ks lent) = lent.map (·.2):=by simp [keys,lentL]
def ver0 (H:Heap) (k:Nat):Nat:=match H k with | some b=>b.ver | none=>0
section
variable {E : Env} {s : St} {a : Act} {w : World} {S : Nat → Prop} {own : Nat → Option Nat} {C D : Nat → Prop} {Ds : List Nat}
def lendC (E:Env) (L:List (Nat × Blk)) (VS:Nat → Nat) (w:World) (S:Nat → Prop) (own:Nat → Option Nat) (ks lent:List (Nat × Nat)):Ctx:=
 ⟨hls (lentL L ks lent) (fun k=>ver0 (hls L VS) (csa ks k)),fun k=>if k ∈ lent.map (·.2) then own (csa ks k) else none,S,w,E.l⟩
theorem lendC_H (E:Env) (L:List (Nat × Blk)) (VS:Nat → Nat) (w:World) (S:Nat → Prop) (own:Nat → Option Nat) (ks lent:List (Nat × Nat)) (k:Nat) :
  (lendC E L VS w S own ks lent).H k = hls (lentL L ks lent) (fun k=>ver0 (hls L VS) (csa ks k)) k:=rfl
theorem lendC_own (E:Env) (L:List (Nat × Blk)) (VS:Nat → Nat) (w:World) (S:Nat → Prop) (own:Nat → Option Nat) (ks lent:List (Nat × Nat)) (k:Nat) :
  (lendC E L VS w S own ks lent).own k = if k ∈ lent.map (·.2) then own (csa ks k) else none:=rfl
theorem RelAt.lendDown (h:RelAt E s a w S own C D Ds) {L:List (Nat × Blk)} {VS:Nat → Nat} (hH:∀ k b,lookB L k = some b → s.H k = some b) {lent nw:List (Nat × Nat)}
  (h1:((lent ++ nw).map (·.1)).Nodup) (h2:((lent ++ nw).map (·.2)).Nodup) (hin:∀ p ∈ lent,p.1 ∈ keys L) (hok:∀ p ∈ lent,∀ b,lookB L p.1 = some b → okB (inK (lent.map (·.1))) b = true) :
  HOk (lendC E L VS w S own (lent ++ nw) lent) ∧ RenOk (ctx E s w S own) (lendC E L VS w S own (lent ++ nw) lent) (asc (lent ++ nw)) (inK (lent.map (·.1))):=by
 have hn2:(lent.map (·.2)).Nodup:=by
  rw [List.map_append] at h2
  exact (List.nodup_append.1 h2).1
 have hren:RenOk (ctx E s w S own) (lendC E L VS w S own (lent ++ nw) lent) (asc (lent ++ nw)) (inK (lent.map (·.1))):=by
  refine ⟨fun b hb=>⟨hb,rfl⟩,fun k hk blk hb=>?_,rfl⟩
  obtain ⟨p,hp,rfl⟩:=List.mem_map.1 (inK_iff.1 hk)
  have hp':p ∈ lent ++ nw:=List.mem_append_left _ hp
  have hb:s.H p.1 = some blk:=hb
  obtain ⟨b0,hb0⟩:=lookB_of_key (hin p hp)
  rw [hH _ _ hb0] at hb
  cases hb
  rw [asc_mem h1 hp']
  refine ⟨renB (asc (lent ++ nw)) blk,?_,?_,fun _ r v hr=>?_⟩
  ·rw [lendC_H,hls_some (lookB_lentL hn2 hp),hb0]; rfl
  ·rw [renB_ver]; exact Nat.le_refl _
  ·rw [RefVal.ren]
   rw [lendC_own,if_pos (List.mem_map_of_mem (f:=(·.2)) hp),csa_mem h2 hp']
   exact hr
 have hlk:∀ k blk,hls (lentL L (lent ++ nw) lent) (fun k=>ver0 (hls L VS) (csa (lent ++ nw) k)) k = some blk → (∃ v,blk = .dead v) ∨ ∃ p ∈ lent,p.2 = k ∧ ∃ b,lookB L p.1 = some b ∧ blk = renB (asc (lent ++ nw)) b:=fun k blk hk=>by
  by_cases hm:k ∈ lent.map (·.2)
  ·obtain ⟨p,hp,rfl⟩:=List.mem_map.1 hm
   obtain ⟨b0,hb0⟩:=lookB_of_key (hin p hp)
   rw [hls_some (lookB_lentL hn2 hp),hb0] at hk
   cases hk
   exact .inr ⟨p,hp,rfl,b0,hb0,rfl⟩
  ·rw [hls_none (lookB_none (by rw [keys_lentL]; exact hm))] at hk
   cases hk
   exact .inl ⟨_,rfl⟩
 have hown:∀ p ∈ lent,(lendC E L VS w S own (lent ++ nw) lent).own p.2 = own p.1:=fun p hp=>by
  rw [lendC_own,if_pos (List.mem_map_of_mem (f:=(·.2)) hp),csa_mem h2 (List.mem_append_left _ hp)]
 refine ⟨⟨fun b hb=>(h.hS b hb).1,fun k blk g hk hl e=>?_,fun k k' blk blk' g hk hk' hl hl' e e'=>?_,fun k blk hk=>?_⟩,hren⟩
 ·rcases hlk k blk hk with ⟨v,rfl⟩ | ⟨p,hp,rfl,b,hb,rfl⟩
  ·cases hl
  ·rw [hown p hp] at e
   obtain ⟨q1,q2,_⟩:=h.hown p.1 b g (hH _ _ hb) (by rw [← hl,renB_live]) e
   exact ⟨q1,q2⟩
 ·rcases hlk k blk hk with ⟨v,rfl⟩ | ⟨p,hp,rfl,b,hb,rfl⟩
  ·cases hl
  rcases hlk k' blk' hk' with ⟨v,rfl⟩ | ⟨p',hp',rfl,b',hb',rfl⟩
  ·cases hl'
  rw [hown p hp] at e
  rw [hown p' hp'] at e'
  have:=h.inj p.1 p'.1 b b' g (hH _ _ hb) (hH _ _ hb') (by rw [← hl,renB_live]) (by rw [← hl',renB_live]) e e'
  rw [← asc_mem h1 (List.mem_append_left nw hp),← asc_mem h1 (List.mem_append_left nw hp'),this]
 ·rcases hlk k blk hk with ⟨v,rfl⟩ | ⟨p,hp,rfl,b,hb,rfl⟩
  ·cases (lendC E L VS w S own (lent ++ nw) lent).own k <;> exact trivial
  ·rw [hown p hp]
   exact (h.heap p.1 b (hH _ _ hb)).ren hren (fun _ _ _=>rfl) (hok p hp b hb)
def backH (ks:List (Nat × Nat)) (H1 H:Heap):Heap:=fun k=>if k ∈ ks.map (·.1) then (H1 (asc ks k)).map (renB (csa ks)) else H k
theorem RelAt.lendUp0 (h:RelAt E s a w S own C D Ds) (hJ:JOk E.J) {L:List (Nat × Blk)} {VS:Nat → Nat} (hH:∀ k b,lookB L k = some b → s.H k = some b) (hV:∀ k,ver0 (hls L VS) k = ver0 s.H k) {lent nw:List (Nat × Nat)}
  (h1:((lent ++ nw).map (·.1)).Nodup) (h2:((lent ++ nw).map (·.2)).Nodup) (hin:∀ p ∈ lent,p.1 ∈ keys L)
  {C':Ctx} (ht:HTr (lendC E L VS w S own (lent ++ nw) lent) C') (hok':HOk C') {l':List (Nat × Blk)} {vs':Nat → Nat} (hH':C'.H = hls l' vs') (hk':∀ k ∈ keys l',k ∈ (lent ++ nw).map (·.2))
  (hb':∀ p ∈ l',okB (inK (keys l')) p.2 = true) :
  ∃ own'',RelAt E { s with H:=backH (lent ++ nw) (hls l' vs') s.H } a C'.w C'.S own'' C D Ds ∧
   RenOk C' ⟨backH (lent ++ nw) (hls l' vs') s.H,own'',C'.S,C'.w,E.l⟩ (csa (lent ++ nw)) (inK (keys l')) ∧
   (ctx E s w S own).le ⟨backH (lent ++ nw) (hls l' vs') s.H,own'',C'.S,C'.w,E.l⟩:=by
 obtain ⟨ks,hks⟩:∃ ks,ks = lent ++ nw:=⟨_,rfl⟩
 rw [← hks] at h1 h2 ht hk' ⊢
 have hn2:(lent.map (·.2)).Nodup:=by
  rw [hks,List.map_append] at h2
  exact (List.nodup_append.1 h2).1
 have hsub:∀ p ∈ lent,p ∈ ks:=fun p hp=>by rw [hks]; exact List.mem_append_left _ hp
 let own'':Nat → Option Nat:=fun k=>if k ∈ ks.map (·.1) then C'.own (asc ks k) else own k
 let H'':Heap:=backH ks (hls l' vs') s.H
 have eC:∀ k,k ∈ ks.map (·.1) → H'' k = (C'.H (asc ks k)).map (renB (csa ks)):=fun k hk=>by
  show (if k ∈ ks.map (·.1) then _ else _) = _
  rw [if_pos hk,hH']
 have eO:∀ k,k ∉ ks.map (·.1) → H'' k = s.H k:=fun k hk=>if_neg hk
 have oC:∀ k,k ∈ ks.map (·.1) → own'' k = C'.own (asc ks k):=fun k hk=>if_pos hk
 have oO:∀ k,k ∉ ks.map (·.1) → own'' k = own k:=fun k hk=>if_neg hk
  -- the callee's live blocks are lent ones
 have hLive:∀ b,LiveC (lendC E L VS w S own ks lent) b → ∃ k blk,k ∈ ks.map (·.1) ∧ s.H k = some blk ∧ blk.live = true ∧ own k = some b:=by
  rintro b ⟨k,blk,hk,hl,e⟩
  rw [lendC_H] at hk
  rw [lendC_own] at e
  have hm:k ∈ lent.map (·.2):=by
   rw [← keys_lentL (L:=L) (ks:=ks)]
   exact lookB_key (hls_live hk hl)
  obtain ⟨p,hp,rfl⟩:=List.mem_map.1 hm
  rw [if_pos hm,csa_mem h2 (hsub p hp)] at e
  have hk2:=hls_live hk hl
  rw [lookB_lentL hn2 hp] at hk2
  obtain ⟨b0,hb0⟩:=lookB_of_key (hin p hp)
  rw [hb0] at hk2
  cases hk2
  exact ⟨p.1,b0,List.mem_map_of_mem (f:=(·.1)) (hsub p hp),hH _ _ hb0,by rw [← hl]; exact (renB_live _ _).symm,e⟩
 have hLin:∀ b,LiveC (lendC E L VS w S own ks lent) b → b < w.heap.size ∧ ¬ S b ∧ ¬ D b ∧ (E.X0 b ∨ E.w0.heap.size ≤ b):=fun b hb=>by
  obtain ⟨k,blk,_,q2,q3,q4⟩:=hLive b hb
  exact h.hown k blk b q2 q3 q4
 have hother:∀ k blk g,k ∉ ks.map (·.1) → s.H k = some blk → blk.live = true → own k = some g → ¬ LiveC (lendC E L VS w S own ks lent) g:=fun k blk g hk hb hl e hL=>by
  obtain ⟨k2,blk2,q1,q2,q3,q4⟩:=hLive g hL
  exact hk (h.inj k k2 blk blk2 g hb q2 hl q3 e q4 ▸ q1)
 have hgr:Grows w C'.w (LiveC (lendC E L VS w S own ks lent)):=ht.grows
 have hle:(ctx E s w S own).le ⟨H'',own'',C'.S,C'.w,E.l⟩:=by
  refine ⟨fun b hb=>ht.le.S b hb,fun k blk hk=>?_,rfl⟩
  have hk:s.H k = some blk:=hk
  by_cases hm:k ∈ ks.map (·.1)
  ·obtain ⟨blk0,hb0,hv0,hr0⟩:∃ blk0,(lendC E L VS w S own ks lent).H (asc ks k) = some blk0 ∧ blk0.ver = blk.ver ∧ ∀ r v,RefVal w (own k) blk r v → RefVal w ((lendC E L VS w S own ks lent).own (asc ks k)) blk0 r v:=by
    by_cases hml:asc ks k ∈ lent.map (·.2)
    ·obtain ⟨p,hp,e⟩:=List.mem_map.1 hml
     have ek:p.1 = k:=by rw [← csa_asc h1 h2 hm,← e,csa_mem h2 (hsub p hp)]
     obtain ⟨b0,hb0⟩:=lookB_of_key (hin p hp)
     have:b0 = blk:=by
      rw [← ek,hH _ _ hb0] at hk
      exact Option.some.inj hk
     subst this
     refine ⟨renB (asc ks) b0,?_,renB_ver _ _,fun r v hr=>?_⟩
     ·rw [← e,lendC_H,hls_some (lookB_lentL hn2 hp),hb0]; rfl
     ·rw [RefVal.ren,lendC_own,if_pos hml,csa_asc h1 h2 hm]
      exact hr
    ·refine ⟨.dead (ver0 (hls L VS) (csa ks (asc ks k))),(by rw [lendC_H]; exact hls_none (lookB_none (by rw [keys_lentL]; exact hml))),?_,fun r v _=>?_⟩
     ·show ver0 (hls L VS) (csa ks (asc ks k)) = blk.ver
      rw [csa_asc h1 h2 hm,hV]
      unfold ver0
      rw [hk]
     ·cases (lendC E L VS w S own ks lent).own (asc ks k) <;> exact trivial
   obtain ⟨blk1,hb1,hv1,hr1⟩:=ht.le.H (asc ks k) blk0 hb0
   refine ⟨renB (csa ks) blk1,?_,?_,fun e r v hr=>?_⟩
   ·show H'' k = _
    rw [eC k hm,hb1]; rfl
   ·rw [renB_ver,← hv0]; exact hv1
   ·rw [renB_ver] at e
    rw [RefVal.ren]
    show RefVal C'.w (own'' k) blk1 r v
    rw [oC k hm]
    exact hr1 (by omega) r v (hr0 r v hr)
  ·refine ⟨blk,(eO k hm).trans hk,Nat.le_refl _,fun _ r v hr=>?_⟩
   show RefVal C'.w (own'' k) blk r v
   rw [oO k hm]
   exact hr.same fun g e hl=>hgr.block g (h.hown k blk g hk hl e).1 (hother k blk g hm hk hl e)
 have hren:RenOk C' ⟨H'',own'',C'.S,C'.w,E.l⟩ (csa ks) (inK (keys l')):=by
  refine ⟨fun b hb=>⟨hb,rfl⟩,fun k hk blk hb=>?_,by have:=ht.le.l; exact this.symm⟩
  have hm:=hk' k (inK_iff.1 hk)
  refine ⟨renB (csa ks) blk,?_,by rw [renB_ver]; exact Nat.le_refl _,fun _ r v hr=>?_⟩
  ·show H'' (csa ks k) = _
   rw [eC _ (csa_in h1 h2 hm),asc_csa h1 h2 hm,hb]; rfl
  ·rw [RefVal.ren]
   show RefVal C'.w (own'' (csa ks k)) blk r v
   rw [oC _ (csa_in h1 h2 hm),asc_csa h1 h2 hm]
   exact hr
 have hS3:∀ b,C'.S b → S b ∨ (b < w.heap.size ∧ ¬ S b ∧ ¬ D b ∧ (E.X0 b ∨ E.w0.heap.size ≤ b) ∧ LiveC (lendC E L VS w S own ks lent) b) ∨ w.heap.size ≤ b:=fun b hb=>by
  rcases ht.hS b hb with q | q | q
  ·exact .inl q
  ·obtain ⟨a1,a2,a3,a4⟩:=hLin b q
   exact .inr (.inl ⟨a1,a2,a3,a4,q⟩)
  ·exact .inr (.inr q)
 have hw0:=h.fr.size
 have hcase:∀ k blk g,k ∈ ks.map (·.1) → H'' k = some blk → blk.live = true → own'' k = some g → ∃ blk1,C'.H (asc ks k) = some blk1 ∧ blk1.live = true ∧ C'.own (asc ks k) = some g:=fun k blk g hm hk hl e=>by
  rw [eC k hm] at hk
  obtain ⟨b1,hb1,rfl⟩:=Option.map_eq_some_iff.1 hk
  rw [oC k hm] at e
  exact ⟨b1,hb1,by rw [← hl,renB_live],e⟩
 refine ⟨own'',?_,hren,hle⟩
 exact {
  fr:=h.fr.grows hgr fun b hb=>(hLin b hb).2.2.2
  hS:=fun b hb=>by
   refine ⟨hok'.hS b hb,?_⟩
   rcases hS3 b hb with q | ⟨a1,a2,a3,a4,_⟩ | q
   ·exact (h.hS b q).2
   ·exact ⟨fun hc=>a3 (h.hC b hc).1,.inr a4⟩
   ·exact ⟨fun hc=>absurd (h.hD b (h.hC b hc).1) (by omega),.inr (.inr (by omega))⟩
  hS0:=fun b hb=>(ht.le.S b (h.hS0 b hb)).1
  hC:=h.hC
  hD:=fun b hb=>Nat.lt_of_lt_of_le (h.hD b hb) hgr.size
  j:=hJ _ _ _ _ _ h.j (fun b hb=>hgr.block b (h.hD b hb) fun hl=>(hLin b hl).2.2.1 hb) hgr.size hgr.os hgr.tape hgr.output
  hown:=fun k blk g hk hl e=>by
   have hk:H'' k = some blk:=hk
   by_cases hm:k ∈ ks.map (·.1)
   ·obtain ⟨blk1,q1,q2,q3⟩:=hcase k blk g hm hk hl e
    obtain ⟨b1,b2⟩:=hok'.hown _ blk1 g q1 q2 q3
    rcases ht.hown _ blk1 g q1 q2 q3 with q | q
    ·obtain ⟨a1,a2,a3,a4⟩:=hLin g q
     exact ⟨b1,b2,a3,a4⟩
    ·have q:w.heap.size ≤ g:=q
     exact ⟨b1,b2,fun hd=>absurd (h.hD g hd) (by omega),.inr (by omega)⟩
   ·rw [eO k hm] at hk
    rw [oO k hm] at e
    obtain ⟨a1,a2,a3,a4⟩:=h.hown k blk g hk hl e
    refine ⟨Nat.lt_of_lt_of_le a1 hgr.size,fun hs=>?_,a3,a4⟩
    rcases hS3 g hs with q | ⟨_,_,_,_,q⟩ | q
    ·exact a2 q
    ·exact hother k blk g hm hk hl e q
    ·omega
  inj:=fun k k' blk blk' g hk hk' hl hl' e e'=>by
   have hk:H'' k = some blk:=hk
   have hk':H'' k' = some blk':=hk'
   by_cases hm:k ∈ ks.map (·.1) <;> by_cases hm':k' ∈ ks.map (·.1)
   ·obtain ⟨b1,q1,q2,q3⟩:=hcase k blk g hm hk hl e
    obtain ⟨b2,p1,p2,p3⟩:=hcase k' blk' g hm' hk' hl' e'
    have:=hok'.inj _ _ b1 b2 g q1 p1 q2 p2 q3 p3
    rw [← csa_asc h1 h2 hm,← csa_asc h1 h2 hm',this]
   ·exfalso
    obtain ⟨b1,q1,q2,q3⟩:=hcase k blk g hm hk hl e
    rw [eO k' hm'] at hk'
    rw [oO k' hm'] at e'
    rcases ht.hown _ b1 g q1 q2 q3 with q | q
    ·exact hother k' blk' g hm' hk' hl' e' q
    ·have q:w.heap.size ≤ g:=q
     have:=(h.hown k' blk' g hk' hl' e').1; omega
   ·exfalso
    obtain ⟨b1,q1,q2,q3⟩:=hcase k' blk' g hm' hk' hl' e'
    rw [eO k hm] at hk
    rw [oO k hm] at e
    rcases ht.hown _ b1 g q1 q2 q3 with q | q
    ·exact hother k blk g hm hk hl e q
    ·have q:w.heap.size ≤ g:=q
     have:=(h.hown k blk g hk hl e).1; omega
   ·rw [eO k hm] at hk
    rw [oO k hm] at e
    rw [eO k' hm'] at hk'
    rw [oO k' hm'] at e'
    exact h.inj k k' blk blk' g hk hk' hl hl' e e'
  heap:=fun k blk hk=>by
   have hk:H'' k = some blk:=hk
   by_cases hm:k ∈ ks.map (·.1)
   ·have hk0:=hk
    rw [eC k hm] at hk0
    obtain ⟨b1,hb1,rfl⟩:=Option.map_eq_some_iff.1 hk0
    have hh:=hok'.heap _ b1 hb1
    show HRel _ (own'' k) _
    rw [oC k hm]
    refine hh.ren hren (fun _ _ _=>rfl) ?_
    have hb2:=hb1
    rw [hH'] at hb2
    unfold hls at hb2
    split at hb2
    ·rename_i b3 e3
     cases hb2
     exact hb' _ (lookB_mem e3)
    ·cases hb2; rfl
   ·rw [eO k hm] at hk
    show HRel _ (own'' k) _
    rw [oO k hm]
    exact (h.heap k blk hk).mono hle fun g e hl=>hgr.block g (h.hown k blk g hk hl e).1 (hother k blk g hm hk hl e)
  tmps:=fun i=>(h.tmps i).mono hle
  size:=h.size
  defers:=h.defers
  hDs:=fun d hd=>by
   obtain ⟨a1,a2,a3,a4⟩:=h.hDs d hd
   have hdL:¬ LiveC (lendC E L VS w S own ks lent) d:=fun hL=>by
    obtain ⟨k2,blk2,q1,q2,q3,q4⟩:=hLive d hL
    have hh:=h.heap k2 blk2 q2
    rw [q4] at hh
    cases blk2 <;> first | (simp [Blk.live] at q3; done) | skip
    ·obtain ⟨cs,hcs,_⟩:=hh; rw [a1] at hcs; cases hcs
    ·obtain ⟨cs,cap,hcs,_⟩:=hh; rw [a1] at hcs; cases hcs
    ·obtain ⟨o,hcs,ho⟩:=hh; rw [a1] at hcs; cases hcs; exact ho.not.2.1 _ rfl
   have hlt:=(Array.getElem?_eq_some_iff.1 a1).1
   refine ⟨(hgr.block d hlt hdL).trans a1,a2,fun hs=>?_,a4⟩
   rcases hS3 d hs with q | ⟨_,_,_,_,q⟩ | q
   ·exact a3 q
   ·exact hdL q
   ·omega
  nodup:=h.nodup
  le:=h.le.trans hle
  cd:=h.cd
  fix:=h.fix }
theorem RelAt.lendUp (h:RelAt E s a w S own C D Ds) (hJ:JOk E.J) {L:List (Nat × Blk)} {VS:Nat → Nat} (hH:s.H = hls L VS) {lent nw:List (Nat × Nat)}
  (h1:((lent ++ nw).map (·.1)).Nodup) (h2:((lent ++ nw).map (·.2)).Nodup) (hin:∀ p ∈ lent,p.1 ∈ keys L)
  {C':Ctx} (ht:HTr (lendC E L VS w S own (lent ++ nw) lent) C') (hok':HOk C') {l':List (Nat × Blk)} {vs':Nat → Nat} (hH':C'.H = hls l' vs') (hk':∀ k ∈ keys l',k ∈ (lent ++ nw).map (·.2))
  (hb':∀ p ∈ l',okB (inK (keys l')) p.2 = true) :
  ∃ own'' VS'',RelAt E { s with H:=hls (dropK ((lent ++ nw).map (·.1)) L ++ backL (lent ++ nw) l') VS'' } a C'.w C'.S own'' C D Ds ∧
   RenOk C' ⟨hls (dropK ((lent ++ nw).map (·.1)) L ++ backL (lent ++ nw) l') VS'',own'',C'.S,C'.w,E.l⟩ (csa (lent ++ nw)) (inK (keys l')) ∧
   (ctx E s w S own).le ⟨hls (dropK ((lent ++ nw).map (·.1)) L ++ backL (lent ++ nw) l') VS'',own'',C'.S,C'.w,E.l⟩:=by
 obtain ⟨own'',hq⟩:=h.lendUp0 hJ (VS:=VS) (fun k b hb=>by rw [hH]; exact hls_some hb) (fun k=>by rw [hH]) h1 h2 hin ht hok' hH' hk' hb'
 refine ⟨own'',fun k=>if k ∈ (lent ++ nw).map (·.1) then vs' (asc (lent ++ nw) k) else VS k,?_⟩
 have e:hls (dropK ((lent ++ nw).map (·.1)) L ++ backL (lent ++ nw) l') (fun k=>if k ∈ (lent ++ nw).map (·.1) then vs' (asc (lent ++ nw) k) else VS k) = backH (lent ++ nw) (hls l' vs') s.H:=by
  funext k
  show (match lookB (dropK ((lent ++ nw).map (·.1)) L ++ backL (lent ++ nw) l') k with | some b=>some b | none=>some (.dead _)) = (if k ∈ (lent ++ nw).map (·.1) then _ else _)
  by_cases hk:k ∈ (lent ++ nw).map (·.1)
  ·rw [if_pos hk,lookB_append,lookB_dropK,if_pos hk,Option.none_or,lookB_backL h1 h2 hk' hk]
   unfold hls
   cases e:lookB l' (asc (lent ++ nw) k)
   ·simp only [Option.map_none,if_pos hk]; rfl
   ·rfl
  ·rw [if_neg hk,lookB_append,lookB_dropK,if_neg hk,lookB_backL_none h1 h2 hk' hk,Option.or_none,hH]
   simp only [if_neg hk]
   rfl
 rw [e]
 exact hq
def ovr (l:List (Nat × Blk)) (H:Heap):Heap:=fun k=>match lookB l k with | some b=>some b | none=>H k
theorem backH_ovr {ks:List (Nat × Nat)} (h1:(ks.map (·.1)).Nodup) (h2:(ks.map (·.2)).Nodup) {l':List (Nat × Blk)} (hk:keys l' = ks.map (·.2)) (vs':Nat → Nat) (H:Heap):backH ks (hls l' vs') H = ovr (backL ks l') H:=by
 funext k
 have hk':∀ k ∈ keys l',k ∈ ks.map (·.2):=fun k h=>hk ▸ h
 show (if k ∈ ks.map (·.1) then _ else _) = (match lookB (backL ks l') k with | some b=>some b | none=>H k)
 by_cases hm:k ∈ ks.map (·.1)
 ·rw [if_pos hm,lookB_backL h1 h2 hk' hm]
  have:asc ks k ∈ keys l':=by rw [hk]; exact asc_in h1 h2 hm
  obtain ⟨b,hb⟩:=lookB_of_key this
  rw [hls_some hb,hb]
  rfl
 ·rw [if_neg hm,lookB_backL_none h1 h2 hk' hm]
end
end Go.Am
