import Derived.Test.YtnngddgaobhkiaaGreatGA1
import Derived.Test.YtnngddgaobhkiaaGreatGA2
set_option linter.unusedVariables false
set_option linter.unusedSimpArgs false
namespace Go.Am
open Go.RowKit
mutual
def occ:AV → List Nat
 | .ref k _ _=>[k]
 | .agg cs | .tup cs | .elt cs _ | .func _ cs=>occL cs
 | .sl rows | .slt rows=>occLL rows
 | _=>[]
def occL:List AV → List Nat
 | []=>[]
 | c :: cs=>occ c ++ occL cs
def occLL:List (List AV) → List Nat
 | []=>[]
 | r :: rs=>occL r ++ occLL rs
end
mutual
theorem occ_closed:∀ {a:AV},closed a = true → occ a = []
 | .agg cs,h=>by simp only [closed] at h; simp only [occ]; exact occL_closed h
 | .tup cs,h=>by simp only [closed] at h; simp only [occ]; exact occL_closed h
 | .elt cs _,h=>by simp only [closed] at h; simp only [occ]; exact occL_closed h
 | .func _ cs,h=>by simp only [closed] at h; simp only [occ]; exact occL_closed h
 | .sl rows,h=>by simp only [closed] at h; simp only [occ]; exact occLL_closed h
 | .slt rows,h=>by simp only [closed] at h; simp only [occ]; exact occLL_closed h
 | .any,h=>rfl
 | .int _ _,h=>rfl
 | .bool _,h=>rfl
 | .str _,h=>rfl
 | .nils,h=>rfl
 | .nilf,h=>rfl
 | .nilp,h=>rfl
 | .yld,h=>rfl
 | .ref _ _ _,h=>by simp [closed] at h
theorem occL_closed:∀ {l:List AV},closedL l = true → occL l = []
 | [],_=>rfl
 | c :: cs,h=>by
  simp only [closedL,Bool.and_eq_true] at h
  simp only [occL,occ_closed h.1,occL_closed h.2,List.append_nil]
theorem occLL_closed:∀ {l:List (List AV)},closedLL l = true → occLL l = []
 | [],_=>rfl
 | c :: cs,h=>by
  simp only [closedLL,Bool.and_eq_true] at h
  simp only [occLL,occL_closed h.1,occLL_closed h.2,List.append_nil]
end
theorem occ_mem {x:AV} {l:List AV} (hx:x ∈ l) {k:Nat} (hk:k ∈ occ x):k ∈ occL l:=by
 induction l with
 | nil=>simp at hx
 | cons c cs ih=>
  simp only [occL,List.mem_append]
  rcases List.mem_cons.1 hx with rfl | hx
  ·exact .inl hk
  ·exact .inr (ih hx)
section
variable {H H2 : Heap} {x : AV}
theorem rdV_congr (h:∀ k ∈ occ x,H2 k = H k) (n:Nat) (ag:Bool):rdV H2 n ag x = rdV H n ag x:=by
 cases x with
 | ref k v r=>have:=h k (by simp [occ]); cases r <;> simp [rdV,this]
 | _=>rfl
theorem addA_congr (h:∀ k ∈ occ x,H2 k = H k) (n:Nat):addA H2 n x = addA H n x:=by
 cases x with
 | ref k v r=>have:=h k (by simp [occ]); cases r <;> simp [addA,this]
 | _=>rfl
theorem ixA_congr (h:∀ k ∈ occ x,H2 k = H k) (n:Nat) (i:Int):ixA H2 n i x = ixA H n i x:=by
 cases x with
 | ref k v r=>have:=h k (by simp [occ]); cases r <;> simp [ixA,this]
 | _=>rfl
theorem lenA_congr (h:∀ k ∈ occ x,H2 k = H k):lenA H2 x = lenA H x:=by
 cases x with
 | ref k v r=>have:=h k (by simp [occ]); cases r <;> simp [lenA,this]
 | _=>rfl
theorem rowsA_congr (h:∀ k ∈ occ x,H2 k = H k):rowsA H2 x = rowsA H x:=by
 cases x with
 | ref k v r=>have:=h k (by simp [occ]); cases r <;> simp [rowsA,this]
 | _=>rfl
theorem srcA_congr (h:∀ k ∈ occ x,H2 k = H k) (n:Nat):srcA H2 n x = srcA H n x:=by
 cases x with
 | ref k v r=>have:=h k (by simp [occ]); cases r <;> simp [srcA,this]
 | _=>rfl
theorem okPtr_congr (h:∀ k ∈ occ x,H2 k = H k):okPtr H2 x = okPtr H x:=by
 cases x with
 | ref k v r=>have:=h k (by simp [occ]); cases r <;> simp [okPtr,this]
 | _=>rfl
theorem wrV_frame (h:∀ k ∈ occ x,H2 k = H k) {n:Nat} {ys:List AV} {H':Heap} (hw:wrV H n ys x = some H') :
  ∃ k b,k ∈ occ x ∧ H' = upd H k (some b) ∧ wrV H2 n ys x = some (upd H2 k (some b)):=by
 unfold wrV at hw
 split at hw
 ·rename_i k ver off
  have e:=h k (by simp [occ])
  split at hw
  ·rename_i v t cells hk
   split at hw
   ·rename_i hc
    cases hw
    refine ⟨k,_,by simp [occ],rfl,?_⟩
    unfold wrV
    simp only [e,hk,if_pos hc]
   ·cases hw
  ·cases hw
 ·rename_i k ver i off
  have e:=h k (by simp [occ])
  split at hw
  ·rename_i v t sz rows hk
   split at hw
   ·rename_i r hr
    split at hw
    ·rename_i hc
     cases hw
     refine ⟨k,_,by simp [occ],rfl,?_⟩
     unfold wrV
     simp only [e,hk,hr,if_pos hc]
    ·cases hw
   ·cases hw
  ·cases hw
 ·cases hw
theorem pur0_congr (h:∀ k ∈ occ x,H2 k = H k):pur0 H2 x = pur0 H x:=by
 cases x with
 | ref k v r=>have:=h k (by simp [occ]); cases r <;> simp [pur0,this]
 | _=>rfl
theorem pur1_congr (h:∀ k ∈ occ x,H2 k = H k):pur1 H2 x = pur1 H x:=by
 cases x with
 | agg cs=>simp only [pur1]; exact congrArg _ (List.map_congr_left fun a ha=>pur0_congr fun k hk=>h k (by simp only [occ]; exact occ_mem ha hk))
 | func f cs=>simp only [pur1]; exact congrArg _ (List.map_congr_left fun a ha=>pur0_congr fun k hk=>h k (by simp only [occ]; exact occ_mem ha hk))
 | _=>exact pur0_congr h
theorem pur_congr (h:∀ k ∈ occ x,H2 k = H k):pur H2 x = pur H x:=by
 cases x with
 | tup cs=>simp only [pur]; exact congrArg _ (List.map_congr_left fun a ha=>pur1_congr fun k hk=>h k (by simp only [occ]; exact occ_mem ha hk))
 | _=>exact pur1_congr h
end
def Loc {α:Type} (oc:α → List Nat) (f:Heap → α → Heap):Prop:=(∀ (H:Heap) (x:α) (k:Nat),k ∉ oc x → f H x k = H k) ∧
 ∀ (H H2:Heap) (x:α) (A:Nat → Prop),(∀ k ∈ oc x,A k) → (∀ k,A k → H2 k = H k) → ∀ k,A k → f H2 x k = f H x k
theorem frz0_loc:Loc occ frz0:=by
 refine ⟨fun H x k hk=>?_,fun H H2 x A hA h k hk=>?_⟩
 ·unfold frz0
  split
  ·rename_i k' ver
   have:k ≠ k':=by simpa [occ] using hk
   cases hb:H k' with
   | none=>rfl
   | some b=>
    cases b with
    | row v t sz rows=>
     dsimp only
     split
     ·exact upd_other _ _ _ _ this
     ·rfl
    | _=>rfl
  ·rfl
 ·unfold frz0
  split
  ·rename_i k' ver
   have e:=h k' (hA k' (by simp [occ]))
   rw [e]
   cases hb:H k' with
   | none=>exact h k hk
   | some b=>
    cases b with
    | row v t sz rows=>
     dsimp only
     split
     ·unfold upd; split
      ·rfl
      ·exact h k hk
     ·exact h k hk
    | _=>exact h k hk
  ·exact h k hk
theorem frzB_loc:Loc occ frzB:=by
 refine ⟨fun H x k hk=>?_,fun H H2 x A hA h k hk=>?_⟩
 ·unfold frzB
  split
  ·rename_i k' ver _
   have:k ≠ k':=by simpa [occ] using hk
   cases hb:H k' with
   | none=>rfl
   | some b=>
    cases b with
    | box v t cells=>
     dsimp only
     split
     ·exact upd_other _ _ _ _ this
     ·rfl
    | _=>rfl
  ·exact frz0_loc.1 H x k hk
 ·unfold frzB
  split
  ·rename_i k' ver _
   have e:=h k' (hA k' (by simp [occ]))
   rw [e]
   cases hb:H k' with
   | none=>exact h k hk
   | some b=>
    cases b with
    | box v t cells=>
     dsimp only
     split
     ·unfold upd; split
      ·rfl
      ·exact h k hk
     ·exact h k hk
    | _=>exact h k hk
  ·exact frz0_loc.2 H H2 x A hA h k hk
theorem Loc.fold {f:Heap → AV → Heap} (hf:Loc occ f):Loc occL fun H xs=>xs.foldl f H:=by
 refine ⟨fun H xs=>?_,fun H H2 xs=>?_⟩
 ·induction xs generalizing H with
  | nil=>intro k _; rfl
  | cons x xs ih=>
   intro k hk
   simp only [occL,List.mem_append,not_or] at hk
   exact (ih (f H x) k hk.2).trans (hf.1 H x k hk.1)
 ·induction xs generalizing H H2 with
  | nil=>intro A hA h k hk; exact h k hk
  | cons x xs ih=>
   intro A hA h k hk
   exact ih (f H x) (f H2 x) A (fun k hk=>hA k (by simp [occL,hk])) (hf.2 H H2 x A (fun k hk=>hA k (by simp [occL,hk])) h) k hk
theorem frz1_loc:Loc occ frz1:=by
 refine ⟨fun H x k hk=>?_,fun H H2 x A hA h k hk=>?_⟩
 ·cases x with
  | agg cs=>exact frz0_loc.fold.1 H cs k hk
  | func f cs=>exact frzB_loc.fold.1 H cs k hk
  | _=>exact frz0_loc.1 H _ k hk
 ·cases x with
  | agg cs=>exact frz0_loc.fold.2 H H2 cs A hA h k hk
  | func f cs=>exact frzB_loc.fold.2 H H2 cs A hA h k hk
  | _=>exact frz0_loc.2 H H2 _ A hA h k hk
theorem frz_loc:Loc occ frz:=by
 refine ⟨fun H x k hk=>?_,fun H H2 x A hA h k hk=>?_⟩
 ·cases x with
  | tup cs=>exact frz1_loc.fold.1 H cs k hk
  | _=>exact frz1_loc.1 H _ k hk
 ·cases x with
  | tup cs=>exact frz1_loc.fold.2 H H2 cs A hA h k hk
  | _=>exact frz1_loc.2 H H2 _ A hA h k hk
theorem frzs_loc:Loc occL frzs:=frz_loc.fold
theorem frzX_loc:Loc occ frzX:=by
 refine ⟨fun H x k hk=>?_,fun H H2 x A hA h k hk=>?_⟩
 ·exact (frz_loc.1 _ x k hk).trans (frzB_loc.1 H x k hk)
 ·exact frz_loc.2 _ _ x A hA (frzB_loc.2 H H2 x A hA h) k hk
theorem frzXs_loc:Loc occL frzXs:=frzX_loc.fold
def dl:Option Nat → List Nat
 | some d=>[d]
 | none=>[]
def deeps:List (Nat × Nat):=[(12,37)]
def more (l:List Nat):List Nat:=deeps.filterMap fun p=>if l.contains p.1 then some p.2 else none
def withM (l:List Nat):List Nat:=l ++ more l
theorem mem_more {l:List Nat} {k:Nat}:k ∈ more l ↔ ∃ p ∈ deeps,p.1 ∈ l ∧ p.2 = k:=by
 simp only [more,List.mem_filterMap,List.contains_iff_mem]
 constructor
 ·rintro ⟨p,hp,h⟩
  split at h
  ·rename_i h2
   cases h
   exact ⟨p,hp,h2,rfl⟩
  ·cases h
 ·rintro ⟨p,hp,h,rfl⟩
  exact ⟨p,hp,by rw [if_pos h]⟩
theorem mem_withM {l:List Nat} {k:Nat}:k ∈ withM l ↔ k ∈ l ∨ k ∈ more l:=by simp [withM]
theorem withM_sub {l l':List Nat} (h:∀ k ∈ l,k ∈ l') {k:Nat} (hk:k ∈ withM l):k ∈ withM l':=by
 rw [mem_withM,mem_more] at *
 rcases hk with hk | ⟨p,hp,h1,h2⟩
 ·exact .inl (h k hk)
 ·exact .inr ⟨p,hp,h _ h1,h2⟩
def foot (τ:Nat → AV) (d:Option Nat):Op → List Nat × List Nat
 | .load _ x | .fieldAddr _ x _ | .indexAddr _ x _ | .slice _ x _ _ _ | .nilCheck x=>(occ (ev τ x),[])
 | .alloc _ | .box _ _ | .makeSlice _ _ _ | .range _ _=>(dl d,dl d)
 | .next x _=>(occ (ev τ x),occ (ev τ x))
 | .store _ x _=>(occ (ev τ x),occ (ev τ x))
 | .buildSlice _ _ parts=>(dl d ++ occL (parts.toList.map fun p=>ev τ p.2),dl d ++ occL (parts.toList.map fun p=>ev τ p.2))
 | .call c=>match c.callee,c.args.toList with
  | .builtin .append,[x,y]=>(dl d ++ (occ (ev τ x) ++ occ (ev τ y)),dl d ++ occ (ev τ x))
  | .builtin .len,[x]=>(occ (ev τ x),[])
  | .value f,args=>(dl d ++ withM (occ (ev τ f) ++ occL (args.map (ev τ))),dl d ++ withM (occ (ev τ f) ++ occL (args.map (ev τ))))
  | _,_=>([],[])
 | _=>([],[])
theorem foot_sub (τ:Nat → AV) (d:Option Nat) (o:Op) {k:Nat}:k ∈ (foot τ d o).2 → k ∈ (foot τ d o).1:=by
 unfold foot
 split <;> try (simp; done)
 split <;> simp
 intro h
 rcases h with h | h
 ·exact .inl h
 ·exact .inr (.inl h)
def touches:Op → Bool
 | .load .. | .fieldAddr .. | .indexAddr .. | .slice .. | .nilCheck _ | .alloc _ | .box .. | .store .. | .buildSlice .. | .makeSlice .. | .call _ | .range .. | .next ..=>true
 | _=>false
def turns:Op → Bool
 | .alloc _ | .box .. | .store .. | .buildSlice .. | .makeSlice .. | .range .. | .next ..=>true
 | .call c=>match c.callee with
  | .builtin .len=>false
  | _=>true
 | _=>false
theorem foot_touches (τ:Nat → AV) (d:Option Nat) (o:Op) (h:touches o = false):foot τ d o = ([],[]):=by
 cases o <;> first | rfl | cases h
theorem foot_turns (τ:Nat → AV) (d:Option Nat) (o:Op) (h:turns o = false):(foot τ d o).2 = []:=by
 cases o <;> first | rfl | cases h | skip
 rename_i c
 unfold foot
 dsimp only
 split
 ·rename_i hc _; simp [turns,hc] at h
 ·rfl
 ·rename_i hc; simp [turns,hc] at h
 ·rfl
theorem ev_ext {τ τ':Nat → AV} {x:Operand} (h:∀ t,x = .tmp t → τ' t = τ t):ev τ' x = ev τ x:=by
 cases x with
 | tmp t=>exact h t rfl
 | _=>rfl
section
variable {H H2 : Heap}
theorem nv_congr {d:Nat} (h:H2 d = H d):nv H2 d = nv H d:=by simp [nv,h]
theorem upd_frame {d:Nat} (b:Option Blk):(∀ k,k ∈ [d] → upd H2 d b k = upd H d b k) ∧ ∀ k,k ∉ [d] → upd H2 d b k = H2 k ∧ upd H d b k = H k:=by
 refine ⟨fun k hk=>?_,fun k hk=>?_⟩
 ·have:k = d:=by simpa using hk
  subst this
  simp
 ·have:k ≠ d:=by simpa using hk
  exact ⟨upd_other _ _ _ _ this,upd_other _ _ _ _ this⟩
end
theorem OpR.frame {P:Program} {τ:Nat → AV} {H H':Heap} {o:Oper} {v:AV} (h:OpR P τ H o v H') (H2:Heap) (hag:∀ k ∈ (foot τ o.dst o.op).1,H2 k = H k) :
  ∃ H2',OpR P τ H2 o v H2' ∧ (∀ k,k ∈ (foot τ o.dst o.op).2 → H2' k = H' k) ∧ (∀ k,k ∉ (foot τ o.dst o.op).2 → H2' k = H2 k ∧ H' k = H k):=by
 have quiet:∀ {w:AV},OpR P τ H2 o w H2 → (foot τ o.dst o.op).2 = [] → ∃ H2',OpR P τ H2 o w H2' ∧ (∀ k,k ∈ (foot τ o.dst o.op).2 → H2' k = H k) ∧ (∀ k,k ∉ (foot τ o.dst o.op).2 → H2' k = H2 k ∧ H k = H k):=
  fun {w} h1 h2=>⟨H2,h1,fun k hk=>by rw [h2] at hk; simp at hk,fun k _=>⟨rfl,rfl⟩⟩
 cases h with
 | move x h=>exact quiet (.move x h) (by rw [h]; rfl)
 | assign x h=>exact quiet (.assign x h) (by rw [h]; rfl)
 | pick c x y t h hc=>exact quiet (.pick c x y t h hc) (by rw [h]; rfl)
 | alloc e d z h hd hz hok=>
  rw [h,hd] at hag
  have e1:H2 d = H d:=hag d (by simp [foot,dl])
  have e2:=nv_congr e1
  refine ⟨_,by have:=OpR.alloc (H:=H2) (τ:=τ) e d z h hd hz hok; rw [e2] at this; exact this,?_⟩
  rw [h,hd]
  exact upd_frame _
 | box e x d h hd hok=>
  rw [h,hd] at hag
  have e1:H2 d = H d:=hag d (by simp [foot,dl])
  have e2:=nv_congr e1
  refine ⟨_,by have:=OpR.box (P:=P) (H:=H2) (τ:=τ) e x d h hd hok; rw [e2] at this; exact this,?_⟩
  rw [h,hd]
  exact upd_frame _
 | makeSlice t e l c n b d z kl kc len cap h hd he hn hb hn0 hz hzc hzn hl hc hlc hlim h63=>
  rw [h,hd] at hag
  have e1:H2 d = H d:=hag d (by simp [foot,dl])
  have e2:=nv_congr e1
  refine ⟨_,by have:=OpR.makeSlice (P:=P) (H:=H2) (τ:=τ) t e l c n b d z kl kc len cap h hd he hn hb hn0 hz hzc hzn hl hc hlc hlim h63; rw [e2] at this; exact this,?_⟩
  rw [h,hd]
  exact upd_frame _
 | build t parts z cells h hz hok hzc hf=>exact quiet (.build t parts z cells h hz hok hzc hf) (by rw [h]; rfl)
 | lit t len parts e n z rows H1 h he hn hn0 hz hzc hzn hlim hH hf=>
  rw [h] at hag
  have hag':∀ k ∈ occL (parts.toList.map fun p=>ev τ p.2),H2 k = H k:=fun k hk=>hag k (by simp [foot,hk])
  have hin:=frzs_loc.2 H H2 (parts.toList.map fun p=>ev τ p.2) (fun k=>k ∈ occL (parts.toList.map fun p=>ev τ p.2)) (fun k hk=>hk) hag'
  refine ⟨frzs H2 (parts.toList.map fun p=>ev τ p.2),.lit t len parts e n z rows _ h he hn hn0 hz hzc hzn hlim rfl ?_,fun k hk=>?_,fun k hk=>?_⟩
  ·rw [← hf]
   refine congrArg _ (List.map_congr_left fun p hp=>?_)
   rw [pur_congr (H:=H') fun k hk=>?_]
   rw [hH]
   exact hin k (occ_mem (List.mem_map_of_mem (f:=fun p:Nat × Operand=>ev τ p.2) hp) hk)
  ·rw [h] at hk
   simp only [foot,List.mem_append] at hk
   subst hH
   by_cases hk2:k ∈ occL (parts.toList.map fun p=>ev τ p.2)
   ·exact hin k hk2
   ·rw [frzs_loc.1 _ _ _ hk2,frzs_loc.1 _ _ _ hk2]
    exact hag k (by simp only [foot,List.mem_append]; exact hk)
  ·rw [h] at hk
   simp only [foot,List.mem_append,not_or] at hk
   subst hH
   exact ⟨frzs_loc.1 _ _ _ hk.2,frzs_loc.1 _ _ _ hk.2⟩
 | litOwn t len parts e n d z rows H1 h hd he hn hn0 hz hzc hzn hlim hH hf=>
  rw [h,hd] at hag
  have hag':∀ k ∈ occL (parts.toList.map fun p=>ev τ p.2),H2 k = H k:=fun k hk=>hag k (by simp [foot,hk])
  have hA:∀ k,(k = d ∨ k ∈ occL (parts.toList.map fun p=>ev τ p.2)) → frzs H2 (parts.toList.map fun p=>ev τ p.2) k = frzs H (parts.toList.map fun p=>ev τ p.2) k:=
   frzs_loc.2 H H2 (parts.toList.map fun p=>ev τ p.2) (fun k=>k = d ∨ k ∈ occL (parts.toList.map fun p=>ev τ p.2)) (fun k hk=>.inr hk) fun k hk=>hag k (by simpa [foot,dl] using hk)
  have e2:nv (frzs H2 (parts.toList.map fun p=>ev τ p.2)) d = nv H1 d:=by rw [hH]; exact nv_congr (hA d (.inl rfl))
  refine ⟨_,by
   have:=OpR.litOwn (P:=P) (H:=H2) (τ:=τ) t len parts e n d z rows _ h hd he hn hn0 hz hzc hzn hlim rfl ?_
   ·rw [e2] at this; exact this
   ·rw [← hf]
    refine congrArg _ (List.map_congr_left fun p hp=>?_)
    rw [pur_congr (H:=H1) fun k hk=>?_]
    rw [hH]
    exact hA k (.inr (occ_mem (List.mem_map_of_mem (f:=fun p:Nat × Operand=>ev τ p.2) hp) hk)),?_⟩
  rw [h,hd]
  subst hH
  refine ⟨fun k hk=>?_,fun k hk=>?_⟩
  ·have hk:k = d ∨ k ∈ occL (parts.toList.map fun p=>ev τ p.2):=by simpa [foot,dl] using hk
   by_cases e:k = d
   ·subst e; simp
   ·rw [upd_other _ _ _ _ e,upd_other _ _ _ _ e]; exact hA k hk
  ·have hk:¬ (k = d ∨ k ∈ occL (parts.toList.map fun p=>ev τ p.2)):=by simpa [foot,dl] using hk
   rw [not_or] at hk
   rw [upd_other _ _ _ _ hk.1,upd_other _ _ _ _ hk.1]
   exact ⟨frzs_loc.1 _ _ _ hk.2,frzs_loc.1 _ _ _ hk.2⟩
 | load t x n ag v h hn ha hr=>
  rw [h] at hag
  exact quiet (.load t x n ag v h hn ha (by rw [rdV_congr hag]; exact hr)) (by rw [h]; rfl)
 | store t x y n H' h hn hw=>
  rw [h] at hag
  obtain ⟨k,b,hk,rfl,h2⟩:=wrV_frame hag hw
  refine ⟨_,.store t x y n _ h hn h2,fun k' hk'=>?_,fun k' hk'=>?_⟩
  ·rw [h] at hk'
   unfold upd
   split
   ·rfl
   ·exact hag k' hk'
  ·rw [h] at hk'
   have:k' ≠ k:=fun e=>hk' (e ▸ hk)
   exact ⟨upd_other _ _ _ _ this,upd_other _ _ _ _ this⟩
 | binOp op t yt x y v h hv=>exact quiet (.binOp op t yt x y v h hv) (by rw [h]; rfl)
 | eqAgg op t yt x y ng p v h hp hv=>exact quiet (.eqAgg op t yt x y ng p v h hp hv) (by rw [h]; rfl)
 | index t x ix sb k i b h ht hx hi h0 hb=>exact quiet (.index t x ix sb k i b h ht hx hi h0 hb) (by rw [h]; rfl)
 | sliceStr t x lo hi sb l' h' l hh h ht hx hlo hhi hl hh' hlh hhr=>exact quiet (.sliceStr t x lo hi sb l' h' l hh h ht hx hlo hhi hl hh' hlh hhr) (by rw [h]; rfl)
 | rangeStr t x d sb h hd ht hx=>
  rw [h,hd] at hag
  have e1:H2 d = H d:=hag d (by simp [foot,dl])
  have e2:=nv_congr e1
  refine ⟨_,by have:=OpR.rangeStr (H:=H2) (τ:=τ) t x d sb h hd ht hx; rw [e2] at this; exact this,?_⟩
  rw [h,hd]
  exact upd_frame _
 | nextStr x k ver sb pos h hx hk hlt=>
  rw [h] at hag
  have ek:H2 k = H k:=hag k (by simp [foot,hx,occ])
  refine ⟨_,.nextStr x k ver sb pos h hx (ek.trans hk) hlt,?_⟩
  have ef:(foot τ o.dst o.op).2 = [k]:=by rw [h]; simp [foot,hx,occ]
  rw [ef]
  exact upd_frame _
 | nextEnd x k ver sb pos h hx hk hge=>
  rw [h] at hag
  have ek:H2 k = H k:=hag k (by simp [foot,hx,occ])
  refine ⟨H2,.nextEnd x k ver sb pos h hx (ek.trans hk) hge,fun k' hk'=>?_,fun k' _=>⟨rfl,rfl⟩⟩
  rw [h] at hk'
  exact hag k' (by simpa [foot] using hk')
 | not t x v h hv=>exact quiet (.not t x v h hv) (by rw [h]; rfl)
 | fieldAddr t x f off n v h hf hn hv=>
  rw [h] at hag
  exact quiet (.fieldAddr t x f off n v h hf hn (by rw [addA_congr hag]; exact hv)) (by rw [h]; rfl)
 | field t x f off n ag cs v h hf ha hx hv=>exact quiet (.field t x f off n ag cs v h hf ha hx hv) (by rw [h]; rfl)
 | indexAddr t e x ix n k i v h he hn hi hv=>
  rw [h] at hag
  exact quiet (.indexAddr t e x ix n k i v h he hn hi (by rw [ixA_congr hag]; exact hv)) (by rw [h]; rfl)
 | indexArr t e x ix len n k i v h he hn hi h0 h1 hv=>
  rw [h] at hag
  exact quiet (.indexArr t e x ix len n k i v h he hn hi h0 h1 (by rw [addA_congr hag]; exact hv)) (by rw [h]; rfl)
 | extract x i vs v h hx hv=>exact quiet (.extract x i vs v h hx hv) (by rw [h]; rfl)
 | neg t x k i h hx=>exact quiet (.neg t x k i h hx) (by rw [h]; rfl)
 | slice3 t e x hi mx n k k' rows h he hn hx hsz hhi hmx=>
  rw [h] at hag
  exact quiet (.slice3 t e x hi mx n k k' rows h he hn (by rw [rowsA_congr hag]; exact hx) hsz hhi hmx) (by rw [h]; rfl)
 | slice t e x lo hi n l' h' rows l hh h he hn hx hsz hlo hhi hl hh' hlh hhr=>
  rw [h] at hag
  exact quiet (.slice t e x lo hi n l' h' rows l hh h he hn (by rw [rowsA_congr hag]; exact hx) hsz hlo hhi hl hh' hlh hhr) (by rw [h]; rfl)
 | makeFunc f caps h=>exact quiet (.makeFunc f caps h) (by rw [h]; rfl)
 | nilCheck x h hx=>
  rw [h] at hag
  exact quiet (.nilCheck x h (by rw [okPtr_congr hag]; exact hx)) (by rw [h]; rfl)
 | convInt st dt x k k' i h hs hd hx=>exact quiet (.convInt st dt x k k' i h hs hd hx) (by rw [h]; rfl)
 | len t x n h ht hx=>
  rw [h] at hag
  exact quiet (.len t x n h ht (by rw [lenA_congr hag]; exact hx)) (by rw [h]; rfl)
 | lenStr t x b h ht hx=>exact quiet (.lenStr t x b h ht hx) (by rw [h]; rfl)
 | min t1 t2 x y v h hv=>exact quiet (.min t1 t2 x y v h hv) (by rw [h]; rfl)
 | append t e x y n b k ver rows new h he hok hx hk hy hb=>
  rw [h] at hag
  have ax:∀ j ∈ occ (ev τ x),H2 j = H j:=fun j hj=>hag j (by simp [foot,hj])
  have ay:∀ j ∈ occ (ev τ y),H2 j = H j:=fun j hj=>hag j (by simp [foot,hj])
  have hkx:k ∈ occ (ev τ x):=by rw [hx]; simp [occ]
  have e1:H2 k = H k:=ax k hkx
  have e2:=nv_congr e1
  refine ⟨_,by
   have:=OpR.append (P:=P) (H:=H2) (τ:=τ) t e x y n b k ver rows new h he hok hx (e1.trans hk) (by rw [srcA_congr ay]; exact hy) hb
   rw [e2] at this; exact this,fun j hj=>?_,fun j hj=>?_⟩
  ·rw [h] at hj
   unfold upd
   split
   ·rfl
   ·exact hag j (foot_sub τ o.dst _ hj)
  ·rw [h] at hj
   have:j ≠ k:=fun e=>hj (by subst e; simp [foot,hkx])
   exact ⟨upd_other _ _ _ _ this,upd_other _ _ _ _ this⟩
 | appendNil t e x y n b d new h he hok hx hd hy hb=>
  rw [h,hd] at hag
  have ay:∀ j ∈ occ (ev τ y),H2 j = H j:=fun j hj=>hag j (by simp [foot,hj])
  have e1:H2 d = H d:=hag d (by simp [foot,dl])
  have e2:=nv_congr e1
  refine ⟨_,by
   have:=OpR.appendNil (P:=P) (H:=H2) (τ:=τ) t e x y n b d new h he hok hx hd (by rw [srcA_congr ay]; exact hy) hb
   rw [e2] at this; exact this,fun j hj=>?_,fun j hj=>?_⟩
  ·rw [h,hd] at hj
   unfold upd
   split
   ·rfl
   ·exact hag j (foot_sub τ (some d) _ hj)
  ·rw [h,hd] at hj
   have:j ≠ d:=fun e=>hj (by subst e; simp [foot,dl])
   exact ⟨upd_other _ _ _ _ this,upd_other _ _ _ _ this⟩
 | call f c fid caps r H1 h hc hf hH hcl hs=>
  have hfoot:foot τ o.dst o.op = (dl o.dst ++ withM (occ (ev τ f) ++ occL (c.args.toList.map (ev τ))),dl o.dst ++ withM (occ (ev τ f) ++ occL (c.args.toList.map (ev τ)))):=by
   rw [h]; unfold foot; dsimp only; rw [hc]
  rw [hfoot] at hag ⊢
  have hA:=frzs_loc.2 H H2 (c.args.toList.map (ev τ)) (fun k=>k ∈ dl o.dst ++ withM (occ (ev τ f) ++ occL (c.args.toList.map (ev τ)))) (fun k hk=>by simp [mem_withM,hk]) hag
  have eargs:callArgs τ (frzs H2 (c.args.toList.map (ev τ))) c caps = callArgs τ H' c caps:=by
   unfold callArgs
   refine List.map_congr_left fun a ha=>pur_congr fun k hk=>?_
   rw [hH]
   refine hA k ?_
   rcases List.mem_append.1 ha with ha | ha
   ·simp [mem_withM,occ_mem ha hk]
   ·have:k ∈ occ (ev τ f):=by rw [hf]; simp only [occ]; exact occ_mem ha hk
    simp [mem_withM,this]
  refine ⟨_,.call f c fid caps v _ h hc hf rfl (by rw [eargs]; exact hcl) (by rw [eargs]; exact hs),fun k hk=>by rw [hH]; exact hA k hk,fun k hk=>?_⟩
  have hk2:k ∉ occL (c.args.toList.map (ev τ)):=fun h=>hk (by simp [mem_withM,h])
  rw [hH]
  exact ⟨frzs_loc.1 _ _ _ hk2,frzs_loc.1 _ _ _ hk2⟩
 | callFlat f c fid caps r H1 h hc hf hH hcl hs hfl=>
  have hfoot:foot τ o.dst o.op = (dl o.dst ++ withM (occ (ev τ f) ++ occL (c.args.toList.map (ev τ))),dl o.dst ++ withM (occ (ev τ f) ++ occL (c.args.toList.map (ev τ)))):=by
   rw [h]; unfold foot; dsimp only; rw [hc]
  rw [hfoot] at hag ⊢
  have hA:=frzs_loc.2 H H2 (c.args.toList.map (ev τ)) (fun k=>k ∈ dl o.dst ++ withM (occ (ev τ f) ++ occL (c.args.toList.map (ev τ)))) (fun k hk=>by simp [mem_withM,hk]) hag
  have eargs:callArgs τ (frzs H2 (c.args.toList.map (ev τ))) c caps = callArgs τ H1 c caps:=by
   unfold callArgs
   refine List.map_congr_left fun a ha=>pur_congr fun k hk=>?_
   rw [hH]
   refine hA k ?_
   rcases List.mem_append.1 ha with ha | ha
   ·simp [mem_withM,occ_mem ha hk]
   ·have:k ∈ occ (ev τ f):=by rw [hf]; simp only [occ]; exact occ_mem ha hk
    simp [mem_withM,this]
  exact ⟨H2,.callFlat f c fid caps v _ h hc hf rfl (by rw [eargs]; exact hcl) (by rw [eargs]; exact hs) hfl,fun k hk=>hag k (by simpa using hk),fun k _=>⟨rfl,rfl⟩⟩
 | callRow f c fid caps H1 t sz rows d h hc hf hH hcl hd hs=>
  have hfoot:foot τ o.dst o.op = (dl o.dst ++ withM (occ (ev τ f) ++ occL (c.args.toList.map (ev τ))),dl o.dst ++ withM (occ (ev τ f) ++ occL (c.args.toList.map (ev τ)))):=by
   rw [h]; unfold foot; dsimp only; rw [hc]
  rw [hfoot] at hag ⊢
  have hA:=frzs_loc.2 H H2 (c.args.toList.map (ev τ)) (fun k=>k ∈ dl o.dst ++ withM (occ (ev τ f) ++ occL (c.args.toList.map (ev τ)))) (fun k hk=>by simp [mem_withM,hk]) hag
  have eargs:callArgs τ (frzs H2 (c.args.toList.map (ev τ))) c caps = callArgs τ H1 c caps:=by
   unfold callArgs
   refine List.map_congr_left fun a ha=>pur_congr fun k hk=>?_
   rw [hH]
   refine hA k ?_
   rcases List.mem_append.1 ha with ha | ha
   ·simp [mem_withM,occ_mem ha hk]
   ·have:k ∈ occ (ev τ f):=by rw [hf]; simp only [occ]; exact occ_mem ha hk
    simp [mem_withM,this]
  have hdl:d ∈ dl o.dst:=by rw [hd]; simp [dl]
  have e2:nv (frzs H2 (c.args.toList.map (ev τ))) d = nv H1 d:=by
   rw [hH]
   exact nv_congr (hA d (by simp [hdl]))
  refine ⟨_,by
   have:=OpR.callRow (P:=P) (H:=H2) (τ:=τ) f c fid caps _ t sz rows d h hc hf rfl (by rw [eargs]; exact hcl) hd (by rw [eargs]; exact hs)
   rw [e2] at this; exact this,fun k hk=>?_,fun k hk=>?_⟩
  ·unfold upd
   split
   ·rfl
   ·rw [hH]; exact hA k hk
  ·have hk2:k ∉ occL (c.args.toList.map (ev τ)):=fun h=>hk (by simp [mem_withM,h])
   have hkd:k ≠ d:=fun e=>hk (by subst e; simp [hdl])
   rw [hH]
   exact ⟨(upd_other _ _ _ _ hkd).trans (frzs_loc.1 _ _ _ hk2),(upd_other _ _ _ _ hkd).trans (frzs_loc.1 _ _ _ hk2)⟩
def tmpsOf (o:Op):List Nat:=o.operands.toList.filterMap fun | .tmp t=>some t | _=>none
theorem mem_tmpsOf {o:Op} {t:Nat} (h:Operand.tmp t ∈ o.operands.toList):t ∈ tmpsOf o:=List.mem_filterMap.2 ⟨.tmp t,h,rfl⟩
theorem evs_ext {τ τ':Nat → AV} {o:Op} (h:∀ t ∈ tmpsOf o,τ' t = τ t) {x:Operand} (hx:x ∈ o.operands.toList):ev τ' x = ev τ x:=
 ev_ext fun t e=>h t (mem_tmpsOf (e ▸ hx))
theorem OpR.tmps {P:Program} {τ τ':Nat → AV} {H H':Heap} {o:Oper} {v:AV} (h:OpR P τ H o v H') (ht:∀ t ∈ tmpsOf o.op,τ' t = τ t):OpR P τ' H o v H':=by
 have E:∀ x ∈ o.op.operands.toList,ev τ' x = ev τ x:=fun x hx=>evs_ext ht hx
 cases h with
 | move x h=>rw [← E x (by rw [h]; simp [Op.operands])]; exact .move x h
 | assign x h=>rw [← E x (by rw [h]; simp [Op.operands])]; exact .assign x h
 | pick c x y t h hc=>
  rw [← E x (by rw [h]; simp [Op.operands]),← E y (by rw [h]; simp [Op.operands])]
  exact .pick c x y t h (by rw [E c (by rw [h]; simp [Op.operands])]; exact hc)
 | alloc e d z h hd hz hok=>exact .alloc e d z h hd hz hok
 | box e x d h hd hok=>
  have ex:=E x (by rw [h]; simp [Op.operands])
  rw [← ex]
  exact .box e x d h hd (by rw [ex]; exact hok)
 | build t parts z cells h hz hok hzc hf=>
  refine .build t parts z cells h hz hok hzc ?_
  rw [← hf]
  exact congrArg _ (List.map_congr_left fun p hp=>by rw [E p.2 (by rw [h]; simp only [Op.operands]; exact List.mem_map_of_mem hp)])
 | lit t len parts e n z rows H1 h he hn hn0 hz hzc hzn hlim hH hf=>
  have el:(parts.toList.map fun p=>ev τ' p.2) = parts.toList.map fun p=>ev τ p.2:=List.map_congr_left fun p hp=>by rw [E p.2 (by rw [h]; simp only [Op.operands]; exact List.mem_map_of_mem hp)]
  refine .lit t len parts e n z rows _ h he hn hn0 hz hzc hzn hlim (by rw [el]; exact hH) ?_
  rw [← hf]
  exact congrArg _ (List.map_congr_left fun p hp=>by rw [E p.2 (by rw [h]; simp only [Op.operands]; exact List.mem_map_of_mem hp)])
 | litOwn t len parts e n d z rows H1 h hd he hn hn0 hz hzc hzn hlim hH hf=>
  have el:(parts.toList.map fun p=>ev τ' p.2) = parts.toList.map fun p=>ev τ p.2:=List.map_congr_left fun p hp=>by rw [E p.2 (by rw [h]; simp only [Op.operands]; exact List.mem_map_of_mem hp)]
  refine .litOwn t len parts e n d z rows _ h hd he hn hn0 hz hzc hzn hlim (by rw [el]; exact hH) ?_
  rw [← hf]
  exact congrArg _ (List.map_congr_left fun p hp=>by rw [E p.2 (by rw [h]; simp only [Op.operands]; exact List.mem_map_of_mem hp)])
 | makeSlice t e l c n b d z kl kc len cap h hd he hn hb hn0 hz hzc hzn hl hc hlc hlim h63=>
  exact .makeSlice t e l c n b d z kl kc len cap h hd he hn hb hn0 hz hzc hzn (by rw [E l (by rw [h]; simp [Op.operands])]; exact hl) (by rw [E c (by rw [h]; simp [Op.operands])]; exact hc) hlc hlim h63
 | load t x n ag v h hn ha hr=>exact .load t x n ag v h hn ha (by rw [E x (by rw [h]; simp [Op.operands])]; exact hr)
 | store t x y n H' h hn hw=>exact .store t x y n H' h hn (by rw [E x (by rw [h]; simp [Op.operands]),E y (by rw [h]; simp [Op.operands])]; exact hw)
 | binOp op t yt x y v h hv=>exact .binOp op t yt x y v h (by rw [E x (by rw [h]; simp [Op.operands]),E y (by rw [h]; simp [Op.operands])]; exact hv)
 | eqAgg op t yt x y ng p v h hp hv=>exact .eqAgg op t yt x y ng p v h hp (by rw [E x (by rw [h]; simp [Op.operands]),E y (by rw [h]; simp [Op.operands])]; exact hv)
 | index t x ix sb k i b h ht hx hi h0 hb=>exact .index t x ix sb k i b h ht (by rw [E x (by rw [h]; simp [Op.operands])]; exact hx) (by rw [E ix (by rw [h]; simp [Op.operands])]; exact hi) h0 hb
 | sliceStr t x lo hi sb l' h' l hh h ht hx hlo hhi hl hh' hlh hhr=>
  refine .sliceStr t x lo hi sb l' h' l hh h ht (by rw [E x (by rw [h]; simp [Op.operands])]; exact hx) ?_ ?_ hl hh' hlh hhr
  ·rw [← hlo]
   cases lo with
   | none=>rfl
   | some q=>simp only [ixV]; rw [E q (by rw [h]; simp [Op.operands])]
  ·rw [← hhi]
   cases hi with
   | none=>rfl
   | some q=>simp only [ixV]; rw [E q (by rw [h]; simp [Op.operands])]
 | rangeStr t x d sb h hd ht hx=>exact .rangeStr t x d sb h hd ht (by rw [E x (by rw [h]; simp [Op.operands])]; exact hx)
 | nextStr x k ver sb pos h hx hk hlt=>exact .nextStr x k ver sb pos h (by rw [E x (by rw [h]; simp [Op.operands])]; exact hx) hk hlt
 | nextEnd x k ver sb pos h hx hk hge=>exact .nextEnd x k ver sb pos h (by rw [E x (by rw [h]; simp [Op.operands])]; exact hx) hk hge
 | not t x v h hv=>exact .not t x v h (by rw [E x (by rw [h]; simp [Op.operands])]; exact hv)
 | neg t x k i h hx=>exact .neg t x k i h (by rw [E x (by rw [h]; simp [Op.operands])]; exact hx)
 | slice3 t e x hi mx n k k' rows h he hn hx hsz hhi hmx=>
  exact .slice3 t e x hi mx n k k' rows h he hn (by rw [E x (by rw [h]; simp [Op.operands])]; exact hx) hsz (by rw [E hi (by rw [h]; simp [Op.operands])]; exact hhi) (by rw [E mx (by rw [h]; simp [Op.operands])]; exact hmx)
 | fieldAddr t x f off n v h hf hn hv=>exact .fieldAddr t x f off n v h hf hn (by rw [E x (by rw [h]; simp [Op.operands])]; exact hv)
 | field t x f off n ag cs v h hf ha hx hv=>exact .field t x f off n ag cs v h hf ha (by rw [E x (by rw [h]; simp [Op.operands])]; exact hx) hv
 | indexAddr t e x ix n k i v h he hn hi hv=>exact .indexAddr t e x ix n k i v h he hn (by rw [E ix (by rw [h]; simp [Op.operands])]; exact hi) (by rw [E x (by rw [h]; simp [Op.operands])]; exact hv)
 | indexArr t e x ix len n k i v h he hn hi h0 h1 hv=>exact .indexArr t e x ix len n k i v h he hn (by rw [E ix (by rw [h]; simp [Op.operands])]; exact hi) h0 h1 (by rw [E x (by rw [h]; simp [Op.operands])]; exact hv)
 | extract x i vs v h hx hv=>exact .extract x i vs v h (by rw [E x (by rw [h]; simp [Op.operands])]; exact hx) hv
 | slice t e x lo hi n l' h' rows l hh h he hn hx hsz hlo hhi hl hh' hlh hhr=>
  refine .slice t e x lo hi n l' h' rows l hh h he hn (by rw [E x (by rw [h]; simp [Op.operands])]; exact hx) hsz ?_ ?_ hl hh' hlh hhr
  ·rw [← hlo]
   cases lo with
   | none=>rfl
   | some q=>simp only [ixV]; rw [E q (by rw [h]; simp [Op.operands])]
  ·rw [← hhi]
   cases hi with
   | none=>rfl
   | some q=>simp only [ixV]; rw [E q (by rw [h]; simp [Op.operands])]
 | makeFunc f caps h=>
  have:caps.toList.map (ev τ) = caps.toList.map (ev τ'):=List.map_congr_left fun x hx=>(E x (by rw [h]; simpa [Op.operands] using hx)).symm
  rw [this]
  exact .makeFunc f caps h
 | nilCheck x h hx=>
  have ex:=E x (by rw [h]; simp [Op.operands])
  rw [← ex] at hx ⊢
  exact .nilCheck x h hx
 | convInt st dt x k k' i h hs hd hx=>exact .convInt st dt x k k' i h hs hd (by rw [E x (by rw [h]; simp [Op.operands])]; exact hx)
 | len t x n h ht hx=>exact .len t x n h ht (by rw [E x (by rw [h]; simp [Op.operands,Call.operands])]; exact hx)
 | lenStr t x b h ht hx=>exact .lenStr t x b h ht (by rw [E x (by rw [h]; simp [Op.operands,Call.operands])]; exact hx)
 | min t1 t2 x y v h hv=>exact .min t1 t2 x y v h (by rw [E x (by rw [h]; simp [Op.operands,Call.operands]),E y (by rw [h]; simp [Op.operands,Call.operands])]; exact hv)
 | append t e x y n b k ver rows new h he hok hx hk hy hb=>
  exact .append t e x y n b k ver rows new h he hok (by rw [E x (by rw [h]; simp [Op.operands,Call.operands])]; exact hx) hk (by rw [E y (by rw [h]; simp [Op.operands,Call.operands])]; exact hy) hb
 | appendNil t e x y n b d new h he hok hx hd hy hb=>
  exact .appendNil t e x y n b d new h he hok (by rw [E x (by rw [h]; simp [Op.operands,Call.operands])]; exact hx) hd (by rw [E y (by rw [h]; simp [Op.operands,Call.operands])]; exact hy) hb
 | call f c fid caps r H1 h hc hf hH hcl hs=>
  have ef:ev τ' f = ev τ f:=E f (by rw [h]; simp [Op.operands,Call.operands,hc])
  have ea:c.args.toList.map (ev τ') = c.args.toList.map (ev τ):=List.map_congr_left fun x hx=>E x (by rw [h]; simp only [Op.operands,Call.operands,Array.toList_append,List.mem_append]; exact .inr hx)
  have ec:callArgs τ' H' c caps = callArgs τ H' c caps:=by unfold callArgs; rw [ea]
  exact .call f c fid caps v _ h hc (ef.trans hf) (by rw [ea]; exact hH) (by rw [ec]; exact hcl) (by rw [ec]; exact hs)
 | callFlat f c fid caps r H1 h hc hf hH hcl hs hfl=>
  have ef:ev τ' f = ev τ f:=E f (by rw [h]; simp [Op.operands,Call.operands,hc])
  have ea:c.args.toList.map (ev τ') = c.args.toList.map (ev τ):=List.map_congr_left fun x hx=>E x (by rw [h]; simp only [Op.operands,Call.operands,Array.toList_append,List.mem_append]; exact .inr hx)
  have ec:callArgs τ' H1 c caps = callArgs τ H1 c caps:=by unfold callArgs; rw [ea]
  exact .callFlat f c fid caps v H1 h hc (ef.trans hf) (by rw [ea]; exact hH) (by rw [ec]; exact hcl) (by rw [ec]; exact hs) hfl
 | callRow f c fid caps H1 t sz rows d h hc hf hH hcl hd hs=>
  have ef:ev τ' f = ev τ f:=E f (by rw [h]; simp [Op.operands,Call.operands,hc])
  have ea:c.args.toList.map (ev τ') = c.args.toList.map (ev τ):=List.map_congr_left fun x hx=>E x (by rw [h]; simp only [Op.operands,Call.operands,Array.toList_append,List.mem_append]; exact .inr hx)
  have ec:callArgs τ' H1 c caps = callArgs τ H1 c caps:=by unfold callArgs; rw [ea]
  exact .callRow f c fid caps H1 t sz rows d h hc (ef.trans hf) (by rw [ea]; exact hH) (by rw [ec]; exact hcl) hd (by rw [ec]; exact hs)
end Go.Am
namespace Go.Am
open Go.RowKit
def condW:AV → Prop → Prop → Prop
 | .bool true,A,_=>A
 | .bool false,_,B=>B
 | _,_,_=>False
@[simp] theorem condW_true (A B:Prop):condW (.bool true) A B = A:=rfl
@[simp] theorem condW_false (A B:Prop):condW (.bool false) A B = B:=rfl
@[congr] theorem condW_congr {c c':AV} {A B:Prop} (h:c = c'):condW c A B = condW c' A B:=by rw [h]
theorem condW_of {b:Bool} {A B:Prop} (h1:b = true → A) (h2:b = false → B):condW (.bool b) A B:=by cases b <;> simp_all
theorem condW_dec {p:Prop} [Decidable p] {A B:Prop} (h1:p → A) (h2:¬ p → B):condW (.bool (decide p)) A B:=by
 by_cases h:p
 ·simpa [h] using h1 h
 ·simpa [h] using h2 h
theorem condW_inv {c:AV} {A B:Prop} (h:condW c A B):(c = .bool true ∧ A) ∨ (c = .bool false ∧ B):=by
 unfold condW at h
 split at h
 ·exact .inl ⟨rfl,h⟩
 ·exact .inr ⟨rfl,h⟩
 ·exact h.elim
def isTup0:AV → Bool
 | .tup []=>true
 | _=>false
def guardOf (v:AV) (want:Bool):AV:=match v with
 | .bool b=>.bool (b == want)
 | .tup []=>.bool false
 | _=>.any
def guardV (ops:Array Oper) (τ:Nat → AV):Option (Nat × Bool) → AV
 | none=>.bool true
 | some (j,want)=>match (ops[j]?).bind (·.dst) with
  | some d=>guardOf (τ d) want
  | none=>.any
def callP (P:Program) (f:FuncId) (args caps:List AV) (d:Option Nat) (s:St) (K:St → Prop):Prop:=
 ∃ r,closedL ((args ++ caps).map (pur (frzs s.H args))) = true ∧ Spec P f ((args ++ caps).map (pur (frzs s.H args))) r ∧ (K (s.put d r (frzs s.H args)) ∨ flat r = true ∧ K (s.put d r s.H))
def callOf:Op → Option (Operand × Call)
 | .call c=>match c.callee with
  | .value f=>some (f,c)
  | _=>none
 | _=>none
theorem callOf_some {o:Op} {f:Operand} {c:Call} (h:callOf o = some (f,c)):o = .call c ∧ c.callee = .value f:=by
 unfold callOf at h
 split at h
 ·rename_i c'
  split at h
  ·rename_i g hg
   cases h
   exact ⟨rfl,hg⟩
  ·cases h
 ·cases h
def isAppend (d:Nat):Op → Bool
 | .call c=>match c.callee,c.args.toList with
  | .builtin .append,.tmp t :: _=>t == d
  | _,_=>false
 | _=>false
def keeps:List Nat:=[]
def ownLit (rest:List Oper):Option Nat → Bool
 | some d=>keeps.contains d || rest.any fun o=>isAppend d o.op
 | none=>false
abbrev Stp:=Option (AV × Heap)
def cOp (d:Option Nat) (r:Stp) (s:St) (K:St → Prop):Prop:=bindO r fun r=>K (s.put d r.1 r.2)
def callR (P:Program) (f:FuncId) (args caps:List AV) (d:Option Nat) (s:St) (K:St → Prop):Prop:=
 ∃ t sz rows k,d = some k ∧ closedL ((args ++ caps).map (pur (frzs s.H args))) = true ∧ RowSpec P f ((args ++ caps).map (pur (frzs s.H args))) t sz rows ∧
  K (s.put (some k) (.ref k (nv (frzs s.H args) k) .o) (upd (frzs s.H args) k (some (.row (nv (frzs s.H args) k) t sz rows))))
def callHD (P:Program) (f:FuncId) (args:List AV) (d:Option Nat) (s:St) (K:St → Prop):Prop:=
 ∃ L lent r l',(∀ k b,lookB L k = some b → s.H k = some b) ∧ lendOk L lent [] args = true ∧ HSpecL P f (args.map (ren (asc lent))) (lentL L lent lent) (fun x y=>x = r ∧ y = l') ∧
  retOk lent r l' = true ∧ keys l' = lent.map (·.2) ∧ (lent.all fun p=>inK (withM (occL args)) p.1) = true ∧ K ⟨updO s.τ d (ren (csa lent) r),ovr (backL lent l') s.H,s.g⟩
def callPB (P:Program) (f:FuncId) (args caps:List AV) (d:Option Nat) (s:St) (K:St → Prop):Prop:=
 ∃ r,closedL ((args ++ caps).map (pur (frzXs s.H args))) = true ∧ Spec P f ((args ++ caps).map (pur (frzXs s.H args))) r ∧ K (s.put d r (frzXs s.H args))
def cCall0 (P:Program) (f:AV) (args:List AV) (d:Option Nat) (s:St) (K:St → Prop):Prop:=match f with
 | .func fid caps=>callP P fid args caps d s K ∨ callR P fid args caps d s K ∨ callHD P fid (args ++ caps) d s K ∨ callPB P fid args caps d s K
 | _=>False
def hasY (l:List AV):Bool:=l.any fun | .yld=>true | _=>false
def specYW (P:Program) (f:FuncId) (args:List AV) (H:Heap) (d:Option Nat) (s:St) (K:St → Prop):Prop:=
 ∃ xs rest rt rf,s.g = ⟨xs ++ rest,false⟩ ∧ args.all okY = true ∧ SpecY P f args xs rt rf ∧ K ⟨updO s.τ d rt,H,⟨rest,false⟩⟩ ∧ ∀ t,K ⟨updO s.τ d rf,H,⟨t,true⟩⟩
def yieldW (args:List AV) (H:Heap) (d:Option Nat) (s:St) (K:St → Prop):Prop:=∃ rest,s.g = ⟨args :: rest,false⟩ ∧ closedL args = true ∧ ∀ b:Bool,K ⟨updO s.τ d (.bool b),H,⟨rest,!b⟩⟩
def callH (P:Program) (f:FuncId) (args:List AV) (d:Option Nat) (s:St) (K:St → Prop):Prop:=
 ∃ L VS lent nw Q,s.H = hls L VS ∧ lendOk L lent nw args = true ∧ HSpecL P f (args.map (ren (asc (lent ++ nw)))) (lentL L (lent ++ nw) lent) Q ∧
  ∀ r l' VS',Q r l' → retOk (lent ++ nw) r l' = true ∧ K ⟨updO s.τ d (ren (csa (lent ++ nw)) r),hls (dropK ((lent ++ nw).map (·.1)) L ++ backL (lent ++ nw) l') VS',s.g⟩
def cCall (P:Program) (f:AV) (args:List AV) (d:Option Nat) (s:St) (K:St → Prop):Prop:=match f with
 | .func fid caps=>(callP P fid args caps d s K ∨ callR P fid args caps d s K ∨ callHD P fid (args ++ caps) d s K ∨ callPB P fid args caps d s K) ∨ callH P fid (args ++ caps) d s K ∨ specYW P fid ((args ++ caps).map (pur (frzs s.H args))) (frzs s.H args) d s K
 | .yld=>yieldW (args.map (pur (frzs s.H args))) (frzs s.H args) d s K
 | _=>False
section
variable {P : Program} {f : FuncId} {args caps args' : List AV} {d : Option Nat} {s : St} {K : St → Prop} {r : AV}
theorem call0_pure (h:Spec P f args' r) (e:(args ++ caps).map (pur (frzs s.H args)) = args') (hc:closedL args' = true) (k:K (s.put d r (frzs s.H args))):cCall0 P (.func f caps) args d s K:=
 .inl ⟨r,by rw [e]; exact hc,by rw [e]; exact h,.inl k⟩
theorem call0_flat (h:Spec P f args' r) (e:(args ++ caps).map (pur (frzs s.H args)) = args') (hc:closedL args' = true) (hf:flat r = true) (k:K (s.put d r s.H)):cCall0 P (.func f caps) args d s K:=
 .inl ⟨r,by rw [e]; exact hc,by rw [e]; exact h,.inr ⟨hf,k⟩⟩
theorem call0_row {k:Nat} {t:TypeId} {sz:Nat} {rows:List (List AV)} (h:RowSpec P f args' t sz rows) (e:(args ++ caps).map (pur (frzs s.H args)) = args') (hc:closedL args' = true)
  (kk:K (s.put (some k) (.ref k (nv (frzs s.H args) k) .o) (upd (frzs s.H args) k (some (.row (nv (frzs s.H args) k) t sz rows))))):cCall0 P (.func f caps) args (some k) s K:=
 .inr (.inl ⟨t,sz,rows,k,rfl,by rw [e]; exact hc,by rw [e]; exact h,kk⟩)
theorem call0_heap {L:List (Nat × Blk)} {VS:Nat → Nat} {τ:Nat → AV} {g:G} (lent:List (Nat × Nat)) {l0 l':List (Nat × Blk)} (h:HSpecL P f args' l0 fun x y=>x = r ∧ y = l')
  (e:(args ++ caps).map (ren (asc lent)) = args') (el:lentL L lent lent = l0) (hok:lendOk L lent [] (args ++ caps) = true) (hret:retOk lent r l' = true) (hk:keys l' = lent.map (·.2)) (hin:(lent.all fun p=>inK (withM (occL (args ++ caps))) p.1) = true)
  (k:K ⟨updO τ d (ren (csa lent) r),ovr (backL lent l') (hls L VS),g⟩):cCall0 P (.func f caps) args d ⟨τ,hls L VS,g⟩ K:=by
 subst e el
 exact .inr (.inr (.inl ⟨L,lent,r,l',fun k b hb=>hls_some hb,hok,h,hret,hk,hin,k⟩))
theorem call0_pureB (h:Spec P f args' r) (e:(args ++ caps).map (pur (frzXs s.H args)) = args') (hc:closedL args' = true) (k:K (s.put d r (frzXs s.H args))):cCall0 P (.func f caps) args d s K:=
 .inr (.inr (.inr ⟨r,by rw [e]; exact hc,by rw [e]; exact h,k⟩))
theorem call_row {k:Nat} {t:TypeId} {sz:Nat} {rows:List (List AV)} (h:RowSpec P f args' t sz rows) (e:(args ++ caps).map (pur (frzs s.H args)) = args') (hc:closedL args' = true)
  (kk:K (s.put (some k) (.ref k (nv (frzs s.H args) k) .o) (upd (frzs s.H args) k (some (.row (nv (frzs s.H args) k) t sz rows))))):cCall P (.func f caps) args (some k) s K:=
 .inl (call0_row h e hc kk)
theorem call_pure (h:Spec P f args' r) (e:(args ++ caps).map (pur (frzs s.H args)) = args') (hc:closedL args' = true) (k:K (s.put d r (frzs s.H args))):cCall P (.func f caps) args d s K:=
 .inl (call0_pure h e hc k)
theorem call_flat (h:Spec P f args' r) (e:(args ++ caps).map (pur (frzs s.H args)) = args') (hc:closedL args' = true) (hf:flat r = true) (k:K (s.put d r s.H)):cCall P (.func f caps) args d s K:=
 .inl (call0_flat h e hc hf k)
theorem call_heap {L:List (Nat × Blk)} {VS:Nat → Nat} {τ:Nat → AV} {g:G} (lent nw:List (Nat × Nat)) {l0:List (Nat × Blk)} {Q:AV → List (Nat × Blk) → Prop} (h:HSpecL P f args' l0 Q)
  (e:(args ++ caps).map (ren (asc (lent ++ nw))) = args') (el:lentL L (lent ++ nw) lent = l0) (hok:lendOk L lent nw (args ++ caps) = true)
  (k:∀ r l' VS',Q r l' → retOk (lent ++ nw) r l' = true ∧ K ⟨updO τ d (ren (csa (lent ++ nw)) r),hls (dropK ((lent ++ nw).map (·.1)) L ++ backL (lent ++ nw) l') VS',g⟩) :
  cCall P (.func f caps) args d ⟨τ,hls L VS,g⟩ K:=by
 subst e el
 exact .inr (.inl ⟨L,VS,lent,nw,Q,rfl,hok,h,k⟩)
theorem call_ylds {xs:List (List AV)} {rt rf:AV} (rest:List (List AV)) (h:SpecY P f args' xs rt rf) (e:(args ++ caps).map (pur (frzs s.H args)) = args') (hg:s.g = ⟨xs ++ rest,false⟩) (hc:args'.all okY = true)
  (k1:K ⟨updO s.τ d rt,frzs s.H args,⟨rest,false⟩⟩) (k2:∀ t,K ⟨updO s.τ d rf,frzs s.H args,⟨t,true⟩⟩):cCall P (.func f caps) args d s K:=
 .inr (.inr ⟨xs,rest,rt,rf,hg,by rw [e]; exact hc,by rw [e]; exact h,k1,k2⟩)
theorem call_yield {args:List AV} (rest:List (List AV)) (e:args.map (pur (frzs s.H args)) = args') (hg:s.g = ⟨args' :: rest,false⟩) (hc:closedL args' = true) (k:∀ b:Bool,K ⟨updO s.τ d (.bool b),frzs s.H args,⟨rest,!b⟩⟩):cCall P .yld args d s K:=by
 subst e
 exact ⟨rest,hg,hc,k⟩
end
def nilOf (P:Program):Op → Option (Bool × Operand)
 | .binOp op t x (.const (.slice none 0 0)) _=>match op with
  | .eql=>oif (elOf P t).isSome (some (false,x))
  | .neq=>oif (elOf P t).isSome (some (true,x))
  | _=>none
 | _=>none
theorem nilOf_some {P:Program} {o:Op} {ng:Bool} {x:Operand} (h:nilOf P o = some (ng,x)):∃ t yt e,o = .binOp (if ng then .neq else .eql) t x (.const (.slice none 0 0)) yt ∧ P.underlying t = some (.slice e):=by
 unfold nilOf at h
 split at h
 ·rename_i op t y yt
  split at h
  ·obtain ⟨h1,h2⟩:=oif_eq_some h
   cases h2
   obtain ⟨e,he⟩:=Option.isSome_iff_exists.1 h1
   exact ⟨t,yt,e,rfl,elOf_iff he⟩
  ·obtain ⟨h1,h2⟩:=oif_eq_some h
   cases h2
   obtain ⟨e,he⟩:=Option.isSome_iff_exists.1 h1
   exact ⟨t,yt,e,rfl,elOf_iff he⟩
  ·cases h
 ·cases h
def cNil (ng:Bool) (x:AV) (d:Option Nat) (s:St) (K:St → Prop):Prop:=nilK s.H (fun b=>K (s.put d (.bool (b != ng)) s.H)) x
@[congr] theorem cNil_congr {ng:Bool} {x x':AV} {d:Option Nat} {s s':St} {K:St → Prop} (h:x = x') (h2:s = s'):cNil ng x d s K = cNil ng x' d s' K:=by rw [h,h2]
def boolsOf (P:Program) (t:TypeId):Bool:=match elOf P t with
 | some e=>boolOf P e
 | none=>false
def structsOf (P:Program) (t:TypeId):Bool:=match elOf P t with
 | some e=>(match P.underlying e with | some (.struct _)=>true | _=>false)
 | none=>false
def freeOf (P:Program):Op → Bool
 | .slice _ _ _ _ (some _)=>true
 | .makeSlice t _ _=>boolsOf P t
 | .buildSlice t _ _=>match elOf P t with
  | some e=>boolsOf P e || structsOf P e
  | none=>false
 | _=>false
def litRaw (P:Program) (τ:Nat → AV) (H:Heap):Op → Option (AV × Heap)
 | .buildSlice t len parts=>ob (elOf P t) fun e=>ob (szOf P e) fun n=>ob (zcOf P e) fun z=>oif (decide (0 < n ∧ z.length = n ∧ len * n ≤ 16777216))
   (ob (fillR n (List.replicate len z) (parts.toList.map fun p=>(p.1,ev τ p.2))) fun rows=>some (.slt rows,H))
 | _=>none
def cMks (d:Option Nat) (f:Nat → Stp) (s:St) (K:St → Prop):Prop:=∃ k,cOp d (f k) s K
def cLit (d:Option Nat) (r1 r2:Stp) (s:St) (K:St → Prop):Prop:=cOp d r1 s K ∨ cOp d r2 s K
abbrev opW0 (P:Program) (own:Bool) (o:Oper) (s:St) (K:St → Prop):Prop:=match callOf o.op with
 | some (f,c)=>cCall0 P (ev s.τ f) (c.args.toList.map (ev s.τ)) o.dst s K
 | none=>cOp o.dst (stepV P s.τ s.H own o.dst o.op) s K
abbrev opW (P:Program) (own:Bool) (o:Oper) (s:St) (K:St → Prop):Prop:=match callOf o.op with
 | some (f,c)=>cCall P (ev s.τ f) (c.args.toList.map (ev s.τ)) o.dst s K
 | none=>match nilOf P o.op with
  | some (ng,x)=>cNil ng (ev s.τ x) o.dst s K
  | none=>match freeOf P o.op with
   | true=>match o.op with
    | .makeSlice _ _ _=>cMks o.dst (fun k=>stepV P s.τ s.H own (some k) o.op) s K
    | .slice _ x _ _ _=>cOp o.dst (stepV P s.τ (frz s.H (ev s.τ x)) own o.dst o.op) s K
    | _=>cLit o.dst (stepV P s.τ s.H own o.dst o.op) (litRaw P s.τ s.H o.op) s K
   | false=>cOp o.dst (stepV P s.τ s.H own o.dst o.op) s K
inductive OpD (P:Program) (τ:Nat → AV) (H:Heap) (o:Oper):AV → Heap → Prop
 | op {v:AV} {H':Heap} (h:OpR P τ H o v H'):OpD P τ H o v H'
 | callB (f:Operand) (c:Call) (fid:FuncId) (caps:List AV) (r:AV) (h:o.op = .call c) (hc:c.callee = .value f) (hf:ev τ f = .func fid caps)
   (hcl:closedL (callArgs τ (frzXs H (c.args.toList.map (ev τ))) c caps) = true) (hs:Spec P fid (callArgs τ (frzXs H (c.args.toList.map (ev τ))) c caps) r):OpD P τ H o r (frzXs H (c.args.toList.map (ev τ)))
 | heap (f:Operand) (c:Call) (fid:FuncId) (caps:List AV) (L:List (Nat × Blk)) (lent:List (Nat × Nat)) (r:AV) (l':List (Nat × Blk)) (h:o.op = .call c) (hc:c.callee = .value f) (hf:ev τ f = .func fid caps)
   (hH:∀ k b,lookB L k = some b → H k = some b) (hok:lendOk L lent [] (c.args.toList.map (ev τ) ++ caps) = true) (hs:HSpecL P fid ((c.args.toList.map (ev τ) ++ caps).map (ren (asc lent))) (lentL L lent lent) fun x y=>x = r ∧ y = l')
   (hret:retOk lent r l' = true) (hk:keys l' = lent.map (·.2)) (hin:(lent.all fun p=>inK (withM (occL (c.args.toList.map (ev τ) ++ caps))) p.1) = true):OpD P τ H o (ren (csa lent) r) (ovr (backL lent l') H)
theorem OpD.step {P:Program} {s:St} {o:Oper} {v:AV} {H':Heap} {K:St → Prop} (h:OpD P s.τ s.H o v H') (k:K (s.put o.dst v H')):StepR P s o K:=by
 cases h with
 | op h=>exact .op v H' h k
 | callB f c fid caps r h hc hf hcl hs=>exact .callB f c fid caps v h hc hf hcl hs k
 | heap f c fid caps L lent r l' h hc hf hH hok hs hret hk hin=>exact .hdet f c fid caps L lent r l' h hc hf hH hok hs hret hk k
theorem opW0_OpR {P:Program} {s:St} {own:Bool} {o:Oper} {K:St → Prop} (h:opW0 P own o s K):∃ v H',OpD P s.τ s.H o v H' ∧ K (s.put o.dst v H'):=by
 unfold opW0 at h
 split at h
 ·rename_i f c hc
  unfold cCall0 at h
  obtain ⟨e1,e2⟩:=callOf_some hc
  split at h
  ·rename_i fid caps hf
   obtain ⟨r,h1,h2,h3 | ⟨h3,h4⟩⟩ | ⟨t,sz,rows,k,h1,h2,h3,h4⟩ | ⟨L,lent,r,l',h1,h2,h3,h4,h5,h6,h7⟩ | ⟨r,h1,h2,h3⟩:=h
   ·exact ⟨r,_,.op (.call f c fid caps r _ e1 e2 hf rfl h1 h2),h3⟩
   ·exact ⟨r,_,.op (.callFlat f c fid caps r _ e1 e2 hf rfl h1 h2 h3),h4⟩
   ·exact ⟨_,_,.op (.callRow f c fid caps _ t sz rows k e1 e2 hf rfl h2 h1 h3),by rw [h1]; exact h4⟩
   ·exact ⟨_,_,.heap f c fid caps L lent r l' e1 e2 hf h1 h2 h3 h4 h5 h6,h7⟩
   ·exact ⟨_,_,.callB f c fid caps r e1 e2 hf h1 h2,h3⟩
  ·exact h.elim
 ·unfold cOp at h
  cases hs:stepV P s.τ s.H own o.dst o.op with
  | none=>rw [hs] at h; exact h.elim
  | some r=>rw [hs] at h; exact ⟨r.1,r.2,.op (stepV_sound hs),h⟩
theorem opW_StepR {P:Program} {s:St} {own:Bool} {o:Oper} {K:St → Prop} (h:opW P own o s K):StepR P s o K:=by
 unfold opW at h
 split at h
 ·rename_i f c hc
  unfold cCall at h
  obtain ⟨e1,e2⟩:=callOf_some hc
  split at h
  ·rename_i fid caps hf
   rcases h with (⟨r,h1,h2,h3 | ⟨h3,h4⟩⟩ | ⟨t,sz,rows,k,h1,h2,h3,h4⟩ | ⟨L,lent,r,l',h1,h2,h3,h4,h5,h6,h7⟩ | ⟨r,h1,h2,h3⟩) | ⟨L,VS,lent,nw,Q,h1,h2,h3,h4⟩ | ⟨xs,rest,rt,rf,hg,hcl,hs,k1,k2⟩
   ·exact .op r _ (.call f c fid caps r _ e1 e2 hf rfl h1 h2) h3
   ·exact .op r _ (.callFlat f c fid caps r _ e1 e2 hf rfl h1 h2 h3) h4
   ·exact .op _ _ (.callRow f c fid caps _ t sz rows k e1 e2 hf rfl h2 h1 h3) (by rw [h1]; exact h4)
   ·exact .hdet f c fid caps L lent r l' e1 e2 hf h1 h2 h3 h4 h5 h7
   ·exact .callB f c fid caps r e1 e2 hf h1 h2 h3
   ·exact .hcall f c fid caps L VS lent nw Q e1 e2 hf h1 h2 h3 h4
   ·exact .call f c fid caps xs rest rt rf e1 e2 hf hg hcl hs k1 k2
  ·rename_i hf
   obtain ⟨rest,hg,hcl,k⟩:=h
   have e:callArgs s.τ (frzs s.H (c.args.toList.map (ev s.τ))) c [] = (c.args.toList.map (ev s.τ)).map (pur (frzs s.H (c.args.toList.map (ev s.τ)))):=by unfold callArgs; rw [List.append_nil]
   exact .yld f c rest e1 e2 hf (by rw [e]; exact hg) (by rw [e]; exact hcl) k
  ·exact h.elim
 ·split at h
  ·rename_i ng x hn
   obtain ⟨tt,yt,e,h1,h2⟩:=nilOf_some hn
   exact .eqNil ng tt yt e x h1 h2 h
  ·split at h
   ·split at h
    ·rename_i t l c hm
     obtain ⟨k,h⟩:=h
     unfold cOp at h
     dsimp only at h
     cases hs:stepV P s.τ s.H own (some k) o.op with
     | none=>rw [hs] at h; exact h.elim
     | some r=>rw [hs] at h; exact .mk k r.1 r.2 t l c hm (stepV_sound (o:={ o with dst:=some k }) hs) h
    ·rename_i t x lo hi mx hm
     unfold cOp at h
     cases hs:stepV P s.τ (frz s.H (ev s.τ x)) own o.dst o.op with
     | none=>rw [hs] at h; exact h.elim
     | some r=>rw [hs] at h; exact .frzd x r.1 r.2 (stepV_sound hs) h
    ·rcases h with h | h
     ·unfold cOp at h
      cases hs:stepV P s.τ s.H own o.dst o.op with
      | none=>rw [hs] at h; exact h.elim
      | some r=>rw [hs] at h; exact .op r.1 r.2 (stepV_sound hs) h
     ·unfold cOp at h
      cases hs:litRaw P s.τ s.H o.op with
      | none=>rw [hs] at h; exact h.elim
      | some r=>
       rw [hs] at h
       unfold litRaw at hs
       split at hs
       ·rename_i t len parts hop
        obtain ⟨e,he,hs⟩:=ob_eq_some hs
        obtain ⟨n,hn,hs⟩:=ob_eq_some hs
        obtain ⟨z,hz,hs⟩:=ob_eq_some hs
        obtain ⟨zv,h1,h2,rfl⟩:=zcOf_some hz
        obtain ⟨hc,hs⟩:=oif_eq_some hs
        obtain ⟨hn0,hzn,hlim⟩:=of_decide_eq_true hc
        obtain ⟨rows,hf,hs⟩:=ob_eq_some hs
        cases hs
        exact .lraw t len parts e n zv rows hop he hn hn0 h1 h2 hzn (by omega) hf h
       ·cases hs
   ·unfold cOp at h
    cases hs:stepV P s.τ s.H own o.dst o.op with
    | none=>rw [hs] at h; exact h.elim
    | some r=>rw [hs] at h; exact .op r.1 r.2 (stepV_sound hs) h
def cGrd (g:AV) (d:Option Nat) (one:St → (St → Prop) → Prop) (s:St) (K:St → Prop):Prop:=condW g (one s K) (K (s.put d (.tup []) s.H))
@[congr] theorem cGrd_congr {g g':AV} {d:Option Nat} {one:St → (St → Prop) → Prop} {s s':St} {K:St → Prop} (h:g = g') (h2:s = s'):cGrd g d one s K = cGrd g' d one s' K:=by rw [h,h2]
abbrev grdW0 (P:Program) (ops:Array Oper) (own:Bool) (o:Oper) (s:St) (K:St → Prop):Prop:=match o.guard with
 | none=>opW0 P own o s K
 | some g=>cGrd (guardV ops s.τ (some g)) o.dst (fun s K=>opW0 P own o s K) s K
abbrev grdW (P:Program) (ops:Array Oper) (own:Bool) (o:Oper) (s:St) (K:St → Prop):Prop:=match o.guard with
 | none=>opW P own o s K
 | some g=>cGrd (guardV ops s.τ (some g)) o.dst (fun s K=>opW P own o s K) s K
noncomputable abbrev awpOps (P:Program) (ops:Array Oper) (l:List Oper):St → (St → Prop) → Prop:=
 List.rec (motive:=fun _=>St → (St → Prop) → Prop) (fun s K=>K s) (fun o rest ih s K=>grdW P ops (ownLit rest o.dst) o s fun s=>ih s K) l
@[congr] theorem awpOps_congr {P:Program} {ops:Array Oper} {l:List Oper} {s s':St} {K:St → Prop} (h:s = s'):awpOps P ops l s K = awpOps P ops l s' K:=by rw [h]
theorem grdW0_inv {P:Program} {ops:Array Oper} {own:Bool} {o:Oper} {s:St} {K:St → Prop} (h:grdW0 P ops own o s K) :
  (guardV ops s.τ o.guard = .bool true ∧ ∃ v H',OpD P s.τ s.H o v H' ∧ K (s.put o.dst v H')) ∨ (guardV ops s.τ o.guard = .bool false ∧ K (s.put o.dst (.tup []) s.H)):=by
 unfold grdW0 at h
 split at h
 ·rename_i hg
  rw [hg]
  exact .inl ⟨rfl,opW0_OpR h⟩
 ·rename_i g hg
  rw [hg]
  rcases condW_inv h with ⟨hc,h⟩ | ⟨hc,h⟩
  ·exact .inl ⟨hc,opW0_OpR h⟩
  ·exact .inr ⟨hc,h⟩
theorem grdW_inv {P:Program} {ops:Array Oper} {own:Bool} {o:Oper} {s:St} {K:St → Prop} (h:grdW P ops own o s K) :
  (guardV ops s.τ o.guard = .bool true ∧ StepR P s o K) ∨ (guardV ops s.τ o.guard = .bool false ∧ K (s.put o.dst (.tup []) s.H)):=by
 unfold grdW at h
 split at h
 ·rename_i hg
  rw [hg]
  exact .inl ⟨rfl,opW_StepR h⟩
 ·rename_i g hg
  rw [hg]
  rcases condW_inv h with ⟨hc,h⟩ | ⟨hc,h⟩
  ·exact .inl ⟨hc,opW_StepR h⟩
  ·exact .inr ⟨hc,h⟩
theorem StepR.mono {P:Program} {s:St} {o:Oper} {K K':St → Prop} (h:StepR P s o K) (hk:∀ s,K s → K' s):StepR P s o K':=by
 cases h with
 | op v H' h k=>exact .op v H' h (hk _ k)
 | yld f c rest h hc hf hg hcl k=>exact .yld f c rest h hc hf hg hcl fun b=>hk _ (k b)
 | call f c fid caps xs rest rt rf h hc hf hg hcl hs k1 k2=>exact .call f c fid caps xs rest rt rf h hc hf hg hcl hs (hk _ k1) fun t=>hk _ (k2 t)
 | eqNil ng t yt e x h ht k=>
  refine .eqNil ng t yt e x h ht ?_
  unfold nilK at k ⊢
  split at k
  ·exact ⟨hk _ k.1,fun e=>hk _ (k.2 e)⟩
  ·exact hk _ k
  ·exact hk _ k
  ·split at k
   ·exact ⟨k.1,hk _ k.2.1,fun e=>hk _ (k.2.2 e)⟩
   ·exact ⟨k.1,hk _ k.2.1,fun e=>hk _ (k.2.2 e)⟩
   ·exact k.elim
  ·exact k.elim
 | callB f c fid caps r h hc hf hcl hs k=>exact .callB f c fid caps r h hc hf hcl hs (hk _ k)
 | mk k v H' t l c hm h kk=>exact .mk k v H' t l c hm h (hk _ kk)
 | frzd x v H' h k=>exact .frzd x v H' h (hk _ k)
 | lraw t len parts e n z rows h he hn hn0 hz hzc hzn hlim hf k=>exact .lraw t len parts e n z rows h he hn hn0 hz hzc hzn hlim hf (hk _ k)
 | hdet f c fid caps L lent r l' h hc hf hH hok hs hret hkk k=>exact .hdet f c fid caps L lent r l' h hc hf hH hok hs hret hkk (hk _ k)
 | hcall f c fid caps L VS lent nw Q h hc hf hH hok hs k=>exact .hcall f c fid caps L VS lent nw Q h hc hf hH hok hs fun r l' VS' hq=>⟨(k r l' VS' hq).1,hk _ (k r l' VS' hq).2⟩
def awpIdx (P:Program) (ops:Array Oper):List Nat → St → (St → Prop) → Prop
 | [],s,K=>K s
 | i :: rest,s,K=>match ops[i]? with
  | none=>False
  | some o=>condW (guardV ops s.τ o.guard) (StepR P s o fun s'=>awpIdx P ops rest s' K) (awpIdx P ops rest (s.put o.dst (.tup []) s.H) K)
theorem awpOps_idx {P:Program} {ops:Array Oper}:∀ (l:List Oper) (i:Nat) (s:St) (K:St → Prop),l = ops.toList.drop i → awpOps P ops l s K → awpIdx P ops (List.range' i (ops.size - i)) s K
 | [],i,s,K,hl,h=>by
  have:ops.size - i = 0:=by
   have:=congrArg List.length hl
   simp at this
   omega
  rw [this]
  exact h
 | o :: rest,i,s,K,hl,h=>by
  have hi:i < ops.size:=by
   have:=congrArg List.length hl
   simp at this
   omega
  have h2:ops.size - i = (ops.size - (i + 1)) + 1:=by omega
  have ho:ops[i]? = some o:=by
   have:(ops.toList.drop i)[0]? = some o:=by rw [← hl]; rfl
   rw [List.getElem?_drop] at this
   simpa using this
  have hr:rest = ops.toList.drop (i + 1):=by
   rw [← List.drop_drop,← hl]
   rfl
  rw [h2,List.range'_succ]
  unfold awpIdx
  rw [ho]
  dsimp only
  rcases grdW_inv h with ⟨hg,h3⟩ | ⟨hg,h⟩
  ·rw [hg]
   exact h3.mono fun s' h4=>awpOps_idx rest (i + 1) _ K hr h4
  ·rw [hg]
   exact awpOps_idx rest (i + 1) _ K hr h
section
variable {E : Env} {s : St} {a : Act} {w : World} {ro : Option Nat}
theorem Rel.guard (h:Rel E s a w) {ops:Array Oper} {o:Oper} {b:Bool} (hg:guardV ops s.τ o.guard = .bool b):Region.wanted o (yielded ops a.tmps) = b:=by
 obtain ⟨S,own,C,D,Ds,h⟩:=h
 unfold Region.wanted
 cases hgd:o.guard with
 | none=>rw [hgd] at hg; cases hg; rfl
 | some p=>
  obtain ⟨j,want⟩:=p
  rw [hgd] at hg
  unfold guardV at hg
  dsimp only at hg ⊢
  split at hg
  ·rename_i d hd
   have hR:=h.tmps d
   unfold yielded
   rw [hd]
   unfold guardOf at hg
   split at hg
   ·rename_i b' hb'
    cases hg
    rw [hb'] at hR
    generalize hz:a.tmps.getD d undef = z at hR
    cases hR
    rw [Array.getD_eq_getD_getElem?] at hz
    have:a.tmps[d]? = some (.bool b'):=by
     cases hq:a.tmps[d]? with
     | none=>rw [hq] at hz; cases hz
     | some x=>rw [hq] at hz; simp at hz; rw [hz]
    simp [this]
   ·rename_i hb'
    cases hg
    rw [hb'] at hR
    generalize hz:a.tmps.getD d undef = z at hR
    cases hR with
    | tup _ us hl _=>
     rw [Array.getD_eq_getD_getElem?] at hz
     have:a.tmps[d]? = none ∨ ∃ x,a.tmps[d]? = some (.tuple x):=by
      cases hq:a.tmps[d]? with
      | none=>exact .inl rfl
      | some x=>rw [hq] at hz; simp at hz; exact .inr ⟨_,by rw [hz]⟩
     rcases this with h1 | ⟨x,h1⟩ <;> simp [h1]
   ·cases hg
  ·cases hg
def opsOk (n:Nat) (ops:Array Oper):Bool:=ops.all fun o=>match o.dst with | some d=>decide (d < n) | none=>true
theorem opsOk_dst {n:Nat} {ops:Array Oper} (h:opsOk n ops = true) {i:Nat} {o:Oper} (ho:ops[i]? = some o):∀ d,o.dst = some d → d < n:=fun d hd=>by
 obtain ⟨hi,rfl⟩:=Array.getElem?_eq_some_iff.1 ho
 have:=Array.all_eq_true.1 h i hi
 rw [hd] at this
 simpa using this
theorem awpIdx_sound (hJ:JOk E.J) (hY:YOk E.P E.J E.l E.T) {ops:Array Oper} (hok:opsOk E.n ops = true) {K:St → Prop} {Q:Exit → Act → World → Prop} (hQ:∀ s a w,K s → Rel E s a w → Q .normal a w):∀ (l:List Nat) (s:St) (a:Act) (w:World),
  awpIdx E.P ops l s K → Rel E s a w → wpOpsIn (FW ro) 0 E.P ops Q l a w
 | [],s,a,w,h,hr=>hQ s a w h hr
 | i :: rest,s,a,w,h,hr=>by
  unfold awpIdx at h
  unfold wpOpsIn
  split at h
  ·exact h.elim
  ·rename_i o ho
   rw [ho]
   dsimp only
   have hd:=opsOk_dst hok ho
   rcases condW_inv h with ⟨hg,h1⟩ | ⟨hg,h1⟩
   ·rw [if_pos (hr.guard hg)]
    exact h1.sound hJ hY hd hr fun s' a' w' h2 hr'=>awpIdx_sound hJ hY hok hQ rest _ a' w' h2 hr'
   ·rw [if_neg (by rw [hr.guard hg]; simp)]
    refine ⟨fun _ _=>trivial,awpIdx_sound hJ hY hok hQ rest _ _ w h1 ?_⟩
    obtain ⟨S,own,C,D,Ds,hr⟩:=hr
    exact hr.putOld hJ hd (.tup [] [] rfl fun i a hi=>by simp at hi) (Grows.refl w _)
end
end Go.Am
