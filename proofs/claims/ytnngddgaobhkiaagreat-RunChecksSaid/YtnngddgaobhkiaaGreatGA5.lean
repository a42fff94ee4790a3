import Derived.Test.YtnngddgaobhkiaaGreatGA4
import Derived.KernelRfl
set_option linter.unusedVariables false
set_option linter.unusedSimpArgs false
namespace Go.Am
open Go.RowKit
def xMov (v:AV) (H:Heap):Stp:=some (v,H)
def xPick (c x y:AV) (H:Heap):Stp:=ob (pickV c x y) fun v=>some (v,H)
def xAlloc (d:Nat) (e:TypeId) (z:List AV) (H:Heap):Stp:=some (.ref d (nv H d) (.p 0),upd H d (some (.box (nv H d) e z)))
def xBox (d:Nat) (e:TypeId) (v:AV) (H:Heap):Stp:=oif (okCells v.cells) (some (.ref d (nv H d) (.p 0),upd H d (some (.box (nv H d) e v.cells))))
def fillP:List AV → List (Nat × Nat × AV) → Option (List AV)
 | cells,[]=>some cells
 | cells,(o,n,x) :: rest=>if okCells x.cells = true ∧ x.cells.length = n ∧ o + n ≤ cells.length then fillP (setL cells o x.cells) rest else none
def xBuild (z:List AV) (parts:List (Nat × Nat × AV)) (H:Heap):Stp:=ob (fillP z parts) fun cells=>some (.agg cells,H)
def xLit (n len:Nat) (z:List AV) (parts:List (Nat × AV)) (H:Heap):Stp:=
 ob (fillR n (List.replicate len z) (parts.map fun p=>(p.1,pur (frzs H (parts.map fun p=>p.2)) p.2))) fun rows=>some (.slt rows,frzs H (parts.map fun p=>p.2))
def xRow (d:Nat) (e:TypeId) (n len:Nat) (z:List AV) (parts:List (Nat × AV)) (H:Heap):Stp:=
 ob (fillR n (List.replicate len z) (parts.map fun p=>(p.1,pur (frzs H (parts.map fun p=>p.2)) p.2))) fun rows=>some (.ref d (nv (frzs H (parts.map fun p=>p.2)) d) .o,
  upd (frzs H (parts.map fun p=>p.2)) d (some (.row (nv (frzs H (parts.map fun p=>p.2)) d) e n rows)))
def xLitR (n len:Nat) (z:List AV) (parts:List (Nat × AV)) (H:Heap):Stp:=ob (fillR n (List.replicate len z) parts) fun rows=>some (.slt rows,H)
def xMks (d:Nat) (e:TypeId) (n b:Nat) (z:List AV) (l c:AV) (H:Heap):Stp:=ob (intV l) fun p=>ob (intV c) fun q=>
 oif (decide (0 ≤ p.2 ∧ p.2 ≤ q.2 ∧ b * q.2.toNat ≤ 281474976710656 ∧ q.2.toNat ≤ maxLen)) (some (.ref d (nv H d) .o,upd H d (some (.row (nv H d) e n (List.replicate p.2.toNat z)))))
def xLoad (n:Nat) (ag:Bool) (x:AV) (H:Heap):Stp:=ob (rdV H n ag x) fun v=>some (v,H)
def xStore (n:Nat) (x y:AV) (H:Heap):Stp:=ob (wrV H n y.cells x) fun H'=>some (.tup [],H')
def xBin (op:BinOp) (ib:Bool) (x y:AV) (H:Heap):Stp:=ob (binV ib op x y) fun v=>some (v,H)
def xNot (x:AV) (H:Heap):Stp:=ob (notV x) fun v=>some (v,H)
def xNeg (x:AV) (H:Heap):Stp:=ob (intV x) fun p=>some (.int p.1 (p.1.wrap (0 - p.2)),H)
def xSl3 (n:Nat) (x hi mx:AV) (H:Heap):Stp:=ob (rowsA H x) fun rows=>ob (intV hi) fun p=>ob (intV mx) fun q=>oif (decide (p.2 = rows.length ∧ q.2 = rows.length)) (oif (rows.all fun r=>r.length == n) (some (.sl rows,H)))
def xFld (off:Nat) (x:AV) (H:Heap):Stp:=ob (addA H off x) fun v=>some (v,H)
def xIx (n:Nat) (x i:AV) (H:Heap):Stp:=ob (intV i) fun p=>ob (ixA H n p.2 x) fun v=>some (v,H)
def xIxA (len n:Nat) (x i:AV) (H:Heap):Stp:=ob (intV i) fun p=>oif (decide (0 ≤ p.2 ∧ p.2 < len)) (ob (addA H (p.2.toNat * n) x) fun v=>some (v,H))
def xField (off n:Nat) (ag:Bool) (x:AV) (H:Heap):Stp:=ob (aggV x) fun cs=>ob (readA cs off n ag) fun v=>some (v,H)
def xExt (x:AV) (i:Nat) (H:Heap):Stp:=ob (extV i x) fun v=>some (v,H)
def ixO:Option AV → Option (Option (IntKind × Int))
 | none=>some none
 | some (.int k i)=>some (some (k,i))
 | _=>none
def xSlc (n:Nat) (x:AV) (lo hi:Option AV) (H:Heap):Stp:=ob (rowsA H x) fun rows=>ob (ixO lo) fun l=>ob (ixO hi) fun h=>ob (slcV n rows l h) fun v=>some (v,H)
def xMkf (f:FuncId) (caps:List AV) (H:Heap):Stp:=some (.func f caps,H)
def xNil (x:AV) (H:Heap):Stp:=oif (okPtr H x) (some (x,H))
def xConv (k:IntKind) (x:AV) (H:Heap):Stp:=ob (intV x) fun p=>some (.int k (k.wrap p.2),H)
def xLen (x:AV) (H:Heap):Stp:=ob (lenV H x) fun v=>some (v,H)
def xSlen (x:AV) (H:Heap):Stp:=ob (slenV x) fun v=>some (v,H)
def xMin (x y:AV) (H:Heap):Stp:=ob (minV x y) fun v=>some (v,H)
def xApp (P:Program) (e:TypeId) (n b:Nat) (d:Option Nat) (x y:AV) (H:Heap):Stp:=ob (srcA H n y) fun new=>appV P H e n b d new x
def xEq (ng:Bool) (p:List (Nat × LK)) (x y:AV) (H:Heap):Stp:=ob (eqA ng p x y) fun v=>some (v,H)
def xSix (x i:AV) (H:Heap):Stp:=ob (sixV x i) fun v=>some (v,H)
def xSsl (x:AV) (lo hi:Option AV) (H:Heap):Stp:=ob (strV x) fun s=>ob (ixO lo) fun l=>ob (ixO hi) fun h=>ob (sslV s l h) fun v=>some (v,H)
def xRng (d:Nat) (x:AV) (H:Heap):Stp:=ob (strV x) fun s=>some (.ref d (nv H d) (.p 0),upd H d (some (.obj (nv H d) (.siter s 0))))
def xNxt (x:AV) (H:Heap):Stp:=nxtV H x
def cLoop (B:(St → Prop) → St → Prop) (s:St):Prop:=∃ (I:Nat → St → Prop) (k:Nat) (s0:St),s.le s0 ∧ I k s0 ∧ ∀ k s,I k s → B (fun s'=>∃ k' s'',k' < k ∧ s'.le s'' ∧ I k' s'') s
theorem cGrd_of {b:Bool} {d:Option Nat} {one:St → (St → Prop) → Prop} {s:St} {K:St → Prop} (h1:b = true → one s K) (h2:b = false → K (s.put d (.tup []) s.H)):cGrd (.bool b) d one s K:=by
 cases b
 ·exact h2 rfl
 ·exact h1 rfl
theorem cGrd_dec {p:Prop} [Decidable p] {d:Option Nat} {one:St → (St → Prop) → Prop} {s:St} {K:St → Prop} (h1:p → one s K) (h2:¬ p → K (s.put d (.tup []) s.H)):cGrd (.bool (decide p)) d one s K:=
 cGrd_of (fun h=>h1 (of_decide_eq_true h)) fun h=>h2 (of_decide_eq_false h)
def look:List (Nat × AV) → Nat → AV
 | [],_=>.any
 | (i,v) :: l,j=>if i = j then v else look l j
def insT:List (Nat × AV) → Nat → AV → List (Nat × AV)
 | [],j,x=>[(j,x)]
 | (i,v) :: l,j,x=>if i = j then (j,x) :: l else (i,v) :: insT l j x
def insH:List (Nat × Blk) → Nat → Blk → List (Nat × Blk)
 | [],j,x=>[(j,x)]
 | (i,v) :: l,j,x=>if i = j then (j,x) :: l else (i,v) :: insH l j x
theorem look_ins:∀ (l:List (Nat × AV)) (d:Nat) (v:AV) (j:Nat),look (insT l d v) j = if j = d then v else look l j
 | [],d,v,j=>by by_cases h:j = d <;> simp [insT,look,h,eq_comm]; intro e; exact (h e.symm).elim
 | (i,x) :: l,d,v,j=>by
  unfold insT
  by_cases h:i = d
  ·subst h
   by_cases h2:j = i <;> simp [look,h2]
   simp [look,Ne.symm h2]
  ·rw [if_neg h]
   unfold look
   rw [look_ins l d v j]
   by_cases h2:i = j
   ·subst h2; simp [h]
   ·simp [h2]
theorem lookB_ins:∀ (l:List (Nat × Blk)) (d:Nat) (v:Blk) (j:Nat),lookB (insH l d v) j = if j = d then some v else lookB l j
 | [],d,v,j=>by by_cases h:j = d <;> simp [insH,lookB,h,eq_comm]; intro e; exact (h e.symm).elim
 | (i,x) :: l,d,v,j=>by
  unfold insH
  by_cases h:i = d
  ·subst h
   by_cases h2:j = i <;> simp [lookB,h2]
   simp [lookB,Ne.symm h2]
  ·rw [if_neg h]
   unfold lookB
   rw [lookB_ins l d v j]
   by_cases h2:i = j
   ·subst h2; simp [h]
   ·simp [h2]
@[simp] theorem upd_look (l:List (Nat × AV)) (d:Nat) (v:AV):upd (look l) d v = look (insT l d v):=by
 funext j; rw [look_ins]; rfl
@[simp] theorem upd_hls (l:List (Nat × Blk)) (vs:Nat → Nat) (d:Nat) (v:Blk):upd (hls l vs) d (some v) = hls (insH l d v) vs:=by
 funext j
 unfold hls
 rw [lookB_ins]
 unfold upd
 by_cases h:j = d <;> simp [h]
@[simp] theorem put_some (τ:Nat → AV) (H:Heap) (g:G) (d:Nat) (v:AV) (H':Heap):St.put ⟨τ,H,g⟩ (some d) v H' = ⟨upd τ d v,H',g⟩:=rfl
@[simp] theorem put_none (τ:Nat → AV) (H:Heap) (g:G) (v:AV) (H':Heap):St.put ⟨τ,H,g⟩ none v H' = ⟨τ,H',g⟩:=rfl
def subT (l:List (Nat × AV)):List (Nat × AV) → Prop
 | []=>True
 | (i,v) :: r=>look l i = v ∧ subT l r
theorem look_of_subT {l l':List (Nat × AV)} (h:subT l l') (i:Nat):look l' i = look l i ∨ look l' i = .any:=by
 induction l' with
 | nil=>exact .inr rfl
 | cons p r ih=>
  obtain ⟨j,v⟩:=p
  have e0:look ((j,v) :: r) i = if j = i then v else look r i:=rfl
  rw [e0]
  by_cases e:j = i
  ·rw [if_pos e]; subst e; exact .inl h.1.symm
  ·rw [if_neg e]; exact ih h.2
theorem le_of_sub {l l':List (Nat × AV)} {h h':List (Nat × Blk)} {VS:Nat → Nat} {g:G} (hT:subT l l') (hH:subA h h') :
  St.le ⟨look l,hls h VS,g⟩ ⟨look l',hls h' (fun k=>ver0 (hls h VS) k),g⟩ where
 τ:=look_of_subT hT
 H:=hls_le hH VS
 g:=rfl
theorem cLoop_introG {α:Type} {B:(St → Prop) → St → Prop} {l:List (Nat × AV)} {h:List (Nat × Blk)} {VS:Nat → Nat} {g:G} (inv:α → Prop) (μ:α → Nat) (T:α → List (Nat × AV)) (Hh:α → List (Nat × Blk)) (Gg:α → G) (x0:α)
  (h0:inv x0) (hT:subT l (T x0)) (hH:subA h (Hh x0)) (hG:g = Gg x0)
  (hb:∀ (L:St → Prop) (x:α) (vs:Nat → Nat),inv x → (∀ l' h' vs' g' x',inv x' → μ x' < μ x → subT l' (T x') → subA h' (Hh x') → g' = Gg x' → L ⟨look l',hls h' vs',g'⟩) →
   B L ⟨look (T x),hls (Hh x) vs,Gg x⟩):cLoop B ⟨look l,hls h VS,g⟩:=by
 subst hG
 refine ⟨fun k s=>∃ (x:α) (vs:Nat → Nat),inv x ∧ μ x = k ∧ s = ⟨look (T x),hls (Hh x) vs,Gg x⟩,μ x0,_,le_of_sub hT hH,⟨x0,_,h0,rfl,rfl⟩,?_⟩
 rintro k s ⟨x,vs,hi,rfl,rfl⟩
 refine hb _ x vs hi fun l' h' vs' g' x' hi' hlt hT' hH' hG'=>?_
 subst hG'
 exact ⟨_,_,hlt,le_of_sub hT' hH',x',_,hi',rfl,rfl⟩
theorem cLoop_intro {α:Type} {B:(St → Prop) → St → Prop} {l:List (Nat × AV)} {h:List (Nat × Blk)} {VS:Nat → Nat} {g:G} (inv:α → Prop) (μ:α → Nat) (T:α → List (Nat × AV)) (Hh:α → List (Nat × Blk)) (x0:α)
  (h0:inv x0) (hT:subT l (T x0)) (hH:subA h (Hh x0))
  (hb:∀ (L:St → Prop) (x:α) (vs:Nat → Nat),inv x → (∀ l' h' vs' x',inv x' → μ x' < μ x → subT l' (T x') → subA h' (Hh x') → L ⟨look l',hls h' vs',g⟩) →
   B L ⟨look (T x),hls (Hh x) vs,g⟩):cLoop B ⟨look l,hls h VS,g⟩:=
 cLoop_introG inv μ T Hh (fun _=>g) x0 h0 hT hH rfl fun L x vs hi hL=>hb L x vs hi fun l' h' vs' x' hi' hlt hT' hH'=>hL l' h' vs' g x' hi' hlt hT' hH' rfl
def argT:Nat → List AV → List (Nat × AV)
 | _,[]=>[]
 | i,a :: l=>(i,a) :: argT (i + 1) l
theorem look_argT:∀ (l:List AV) (i j:Nat),look (argT i l) j = if i ≤ j then (l[j - i]?).getD .any else .any
 | [],i,j=>by simp [argT,look]
 | a :: l,i,j=>by
  show (if i = j then a else look (argT (i + 1) l) j) = _
  rw [look_argT l (i + 1) j]
  by_cases e:i = j
  ·subst e; simp
  ·by_cases h:i ≤ j
   ·have h1:i + 1 ≤ j:=by omega
    have h2:j - i = (j - (i + 1)) + 1:=by omega
    simp [e,h,h1,h2]
   ·have h1:¬ i + 1 ≤ j:=by omega
    simp [e,h,h1]
theorem le_argsT (args:List AV) (i:Nat):look (argT 0 args) i = argτ args i ∨ look (argT 0 args) i = .any:=by
 rw [look_argT]
 simp only [Nat.zero_le,if_true,Nat.sub_zero,argτ]
 cases h:args[i]? with
 | none=>exact .inr rfl
 | some a=>left; rw [List.getD_eq_getElem?_getD,h]; rfl
theorem le_args (args:List AV) (vs:Nat → Nat):St.le ⟨argτ args,fun _=>none,noG⟩ ⟨look (argT 0 args),hls [] vs,noG⟩ where
 τ:=le_argsT args
 H:=fun k=>.inr ⟨vs k,rfl,fun b hb=>by cases hb⟩
 g:=rfl
theorem Spec.of_W {P : Program} {f : FuncId} {fn : Func} {args : List AV} {r : AV} {W : (Exit → St → Prop) → St → Prop} {rs : List ResultVar} {n : Nat} (hf : P.funcs[f]? = some fn) (hb : fn.body.isSome = true) (hname : (fn.name == "runtime.NumGoroutine") = false)
  (hok:codeOk fn.ntmps (fn.body.getD .skip) = true) (hn:fn.ntmps = n) (hW:∀ Φ s,awp P (fn.body.getD .skip) Φ s = W Φ s) (hrs:fn.results.toList = rs)
  (hlen:args.length ≤ n) (h:∀ vs,W (retK P rs r) ⟨look (argT 0 args),hls [] vs,noG⟩):Spec P f args r:=by
 obtain ⟨c,hc⟩:=Option.isSome_iff_exists.1 hb
 have h:=h fun _=>0
 rw [← hW] at h
 rw [hc] at hok h
 subst hrs
 exact Spec.of_awp (le_args args _) hf hc hname hok (by rw [hn]; exact hlen) h
theorem RowSpec.of_W {P : Program} {f : FuncId} {fn : Func} {args : List AV} {t : TypeId} {sz : Nat} {rows : List (List AV)} {W : (Exit → St → Prop) → St → Prop} {rs : List ResultVar} {n : Nat} (hf : P.funcs[f]? = some fn) (hb : fn.body.isSome = true) (hname : (fn.name == "runtime.NumGoroutine") = false)
  (hok:codeOk fn.ntmps (fn.body.getD .skip) = true) (hn:fn.ntmps = n) (hW:∀ Φ s,awp P (fn.body.getD .skip) Φ s = W Φ s) (hrs:fn.results.toList = rs)
  (hlen:args.length ≤ n) (hflat:closedLL rows = true) (h:∀ vs,W (retRK P rs t sz rows) ⟨look (argT 0 args),hls [] vs,noG⟩):RowSpec P f args t sz rows:=by
 obtain ⟨c,hc⟩:=Option.isSome_iff_exists.1 hb
 have h:=h fun _=>0
 rw [← hW] at h
 rw [hc] at hok h
 subst hrs
 exact RowSpec.of_awp hflat (le_args args _) hf hc hname hok (by rw [hn]; exact hlen) h
theorem HSpecL.of_W {P : Program} {f : FuncId} {fn : Func} {args : List AV} {l : List (Nat × Blk)} {Q : AV → List (Nat × Blk) → Prop} {W : (Exit → St → Prop) → St → Prop} {rs : List ResultVar} {n : Nat} (hf : P.funcs[f]? = some fn) (hb : fn.body.isSome = true) (hname : (fn.name == "runtime.NumGoroutine") = false)
  (hok:codeOk fn.ntmps (fn.body.getD .skip) = true) (hn:fn.ntmps = n) (hW:∀ Φ s,awp P (fn.body.getD .skip) Φ s = W Φ s) (hrs:fn.results.toList = rs)
  (hlen:args.length ≤ n) (h:∀ vs,W (retHK P rs Q) ⟨look (argT 0 args),hls l vs,noG⟩):HSpecL P f args l Q:=by
 obtain ⟨c,hc⟩:=Option.isSome_iff_exists.1 hb
 rw [hc] at hok
 subst hrs
 refine HSpecL.of_awp hf hc hname hok (by rw [hn]; exact hlen) fun vs=>⟨⟨look (argT 0 args),hls l vs,noG⟩,⟨le_argsT args,fun _=>.inl rfl,rfl⟩,?_⟩
 have h:=h vs
 rw [← hW,hc] at h
 exact h
@[simp] theorem setP_nil (τ:Nat → AV):setP τ [] [] = τ:=rfl
@[simp] theorem setP_cons (l:List (Nat × AV)) (p:Nat) (ps:List Nat) (x:AV) (xs:List AV):setP (look l) (p :: ps) (x :: xs) = setP (look (insT l p x)) ps xs:=by
 show setP (upd (look l) p x) ps xs = _
 rw [upd_look]
theorem cRange_introA {α:Type} {P:Program} {fid:FuncId} {caps:List AV} {ps:List Nat} {B:(Exit → St → Prop) → St → Prop} {Φ:Exit → St → Prop} {l:List (Nat × AV)} {h:List (Nat × Blk)} {VS:Nat → Nat} {g:G}
  (xs:List (List AV)) (rt rf:AV) (inv:Nat → α → Prop) (Hh:α → List (Nat × Blk)) (a0:α) (hsp:SpecY P fid (.yld :: caps) xs rt rf) (hcl:closedL caps = true) (h0:inv 0 a0) (hH:subA h (Hh a0))
  (hr:∀ (i:Nat) (hi:i < xs.length) (a:α) (vs:Nat → Nat) (Ψ:Exit → St → Prop),inv i a → (∀ τ' L vs' a',inv (i + 1) a' → subA L (Hh a') → Ψ .normal ⟨τ',hls L vs',g⟩) → (∀ τ' H,Φ .ret ⟨look l,H,g⟩ → Ψ .ret ⟨τ',H,g⟩) →
   (∀ id τ' H,Φ (.exit id) ⟨look l,H,g⟩ → Ψ (.exit id) ⟨τ',H,g⟩) → (∀ lb τ' H,Φ (.goto lb) ⟨look l,H,g⟩ → Ψ (.goto lb) ⟨τ',H,g⟩) → xs[i].length = ps.length ∧ B Ψ ⟨setP (look l) ps xs[i],hls (Hh a) vs,g⟩)
  (hend:∀ vs a,inv xs.length a → Φ .normal ⟨look l,hls (Hh a) vs,g⟩):cRange P (.func fid caps) ps B Φ ⟨look l,hls h VS,g⟩:=by
 refine ⟨xs,rt,rf,fun rest H=>∃ i vs a,i ≤ xs.length ∧ rest = xs.drop i ∧ inv i a ∧ H = hls (Hh a) vs,hls (Hh a0) (fun k=>ver0 (hls h VS) k),hcl,hsp,hls_le hH VS,⟨0,_,a0,Nat.zero_le _,rfl,h0,rfl⟩,?_,?_⟩
 ·rintro args rest H ⟨i,vs,a,hi,hrest,hinv,rfl⟩
  have hlt:i < xs.length:=by
   by_cases e:i < xs.length
   ·exact e
   ·rw [List.drop_of_length_le (by omega)] at hrest; cases hrest
  rw [List.drop_eq_getElem_cons hlt] at hrest
  cases hrest
  refine hr i hlt a vs _ hinv (fun τ' L vs' a' hinv' hsub=>⟨rfl,_,hls_le hsub vs',i + 1,_,a',hlt,rfl,hinv',rfl⟩) (fun τ' H h=>⟨rfl,h⟩) (fun id τ' H h=>⟨rfl,h⟩) (fun lb τ' H h=>⟨rfl,h⟩)
 ·rintro H ⟨i,vs,a,hi,hrest,hinv,rfl⟩
  have e:i = xs.length:=by
   have:=congrArg List.length hrest
   simp at this
   omega
  subst e
  exact hend vs a hinv
theorem SpecY.of_W {P : Program} {f : FuncId} {fn : Func} {args : List AV} {xs : List (List AV)} {rt rf : AV} {W : (Exit → St → Prop) → St → Prop} {rs : List ResultVar} {n : Nat} (hf : P.funcs[f]? = some fn) (hb : fn.body.isSome = true) (hname : (fn.name == "runtime.NumGoroutine") = false)
  (hok:codeOk fn.ntmps (fn.body.getD .skip) = true) (hn:fn.ntmps = n) (hW:∀ Φ s,awp P (fn.body.getD .skip) Φ s = W Φ s) (hrs:fn.results.toList = rs)
  (hlen:args.length ≤ n) (hft:flat rt = true) (hff:flat rf = true) (h:∀ vs rest,W (retYK P rs rt rf rest) ⟨look (argT 0 args),hls [] vs,⟨xs ++ rest,false⟩⟩):SpecY P f args xs rt rf:=by
 obtain ⟨c,hc⟩:=Option.isSome_iff_exists.1 hb
 rw [hc] at hok
 subst hrs
 refine SpecY.of_awp hft hff hf hc hname hok (by rw [hn]; exact hlen) fun rest=>⟨⟨look (argT 0 args),hls [] (fun _=>0),⟨xs ++ rest,false⟩⟩,⟨le_argsT args,fun k=>.inr ⟨0,rfl,fun b hb=>by cases hb⟩,rfl⟩,?_⟩
 have h:=h (fun _=>0) rest
 rw [← hW,hc] at h
 exact h
abbrev EP:=Exit → St → Prop
abbrev SP:=St → Prop
class Kt (α:Type) where
 v:α
@[simp] theorem kv {α:Type} (x:α):(Kt.mk x).v = x:=rfl
def sChk (b:Bool) [A:Kt Prop]:Prop:=b = true ∧ A.v
@[simp] theorem sChk_true (A:Kt Prop):@sChk true A = A.v:=by simp [sChk]
def sOp (d:Option Nat) (r:Stp) (s:St) [K:Kt (St → Prop)]:Prop:=cOp d r s K.v
def sMks (d:Option Nat) (f:Nat → Stp) (s:St) [K:Kt (St → Prop)]:Prop:=cMks d f s K.v
def sLit (d:Option Nat) (r1 r2:Stp) (s:St) [K:Kt (St → Prop)]:Prop:=cLit d r1 r2 s K.v
def sCall (P:Program) (f:AV) (args:List AV) (d:Option Nat) (s:St) [K:Kt (St → Prop)]:Prop:=cCall P f args d s K.v
def sCall0 (P:Program) (f:AV) (args:List AV) (d:Option Nat) (s:St) [K:Kt (St → Prop)]:Prop:=cCall0 P f args d s K.v
def sGrd (g:AV) (d:Option Nat) (s:St) [one:Kt (St → (St → Prop) → Prop)] [K:Kt (St → Prop)]:Prop:=cGrd g d one.v s K.v
def sIf (c:AV) [A:Kt Prop] [B:Kt Prop]:Prop:=condW c A.v B.v
def sNil (ng:Bool) (x:AV) (d:Option Nat) (s:St) [K:Kt (St → Prop)]:Prop:=cNil ng x d s K.v
def sLoop (s:St) [B:Kt ((St → Prop) → St → Prop)]:Prop:=cLoop B.v s
def sScope (s:St) [B:Kt ((Nat → St → Prop) → St → Prop)] [R:Kt (List (Nat × ((Nat → St → Prop) → St → Prop)))]:Prop:=cScope B.v R.v s
def sRange (P:Program) (f:AV) (ps:List Nat) (s:St) [B:Kt ((Exit → St → Prop) → St → Prop)] [Φ:Kt (Exit → St → Prop)]:Prop:=cRange P f ps B.v Φ.v s
section
variable {K : Kt (St → Prop)} {d : Option Nat} {s : St}
@[simp] theorem sOp_some (v:AV) (H:Heap):@sOp d (some (v,H)) s K = K.v (s.put d v H):=propext ⟨id,id⟩
theorem sMks_key (f:Nat → Stp) (k:Nat) (h:@sOp d (f k) s K):@sMks d f s K:=⟨k,h⟩
theorem sLit_f (r1 r2:Stp) (h:@sOp d r1 s K):@sLit d r1 r2 s K:=.inl h
theorem sLit_r (r1 r2:Stp) (h:@sOp d r2 s K):@sLit d r1 r2 s K:=.inr h
@[simp] theorem sGrd_true (one:Kt (St → (St → Prop) → Prop)):@sGrd (.bool true) d s one K = one.v s K.v:=propext ⟨id,id⟩
@[simp] theorem sGrd_false (one:Kt (St → (St → Prop) → Prop)):@sGrd (.bool false) d s one K = K.v (s.put d (.tup []) s.H):=propext ⟨id,id⟩
@[simp] theorem sIf_true (A B:Kt Prop):@sIf (.bool true) A B = A.v:=propext ⟨id,id⟩
@[simp] theorem sIf_false (A B:Kt Prop):@sIf (.bool false) A B = B.v:=propext ⟨id,id⟩
theorem sIf_of {b:Bool} {A B:Kt Prop} (h1:b = true → A.v) (h2:b = false → B.v):@sIf (.bool b) A B:=condW_of h1 h2
theorem sIf_dec {p:Prop} [Decidable p] {A B:Kt Prop} (h1:p → A.v) (h2:¬ p → B.v):@sIf (.bool (decide p)) A B:=condW_dec h1 h2
theorem sGrd_of {b:Bool} {one:Kt (St → (St → Prop) → Prop)} (h1:b = true → one.v s K.v) (h2:b = false → K.v (s.put d (.tup []) s.H)):@sGrd (.bool b) d s one K:=cGrd_of h1 h2
theorem sGrd_dec {p:Prop} [Decidable p] {one:Kt (St → (St → Prop) → Prop)} (h1:p → one.v s K.v) (h2:¬ p → K.v (s.put d (.tup []) s.H)):@sGrd (.bool (decide p)) d s one K:=cGrd_dec h1 h2
theorem sIf_ndec {p:Prop} [Decidable p] {A B:Kt Prop} (h1:¬ p → A.v) (h2:p → B.v):@sIf (.bool (!decide p)) A B:=sIf_of (fun h=>h1 (by simpa using h)) fun h=>h2 (by simpa using h)
theorem sGrd_ndec {p:Prop} [Decidable p] {one:Kt (St → (St → Prop) → Prop)} (h1:¬ p → one.v s K.v) (h2:p → K.v (s.put d (.tup []) s.H)):@sGrd (.bool (!decide p)) d s one K:=sGrd_of (fun h=>h1 (by simpa using h)) fun h=>h2 (by simpa using h)
variable {P : Program} {f : FuncId} {args caps args' : List AV} {r : AV}
theorem scall0_pure (h:Spec P f args' r) (e:(args ++ caps).map (pur (frzs s.H args)) = args') (hc:closedL args' = true) (k:K.v (s.put d r (frzs s.H args))):@sCall0 P (.func f caps) args d s K:=call0_pure h e hc k
theorem scall_pure (h:Spec P f args' r) (e:(args ++ caps).map (pur (frzs s.H args)) = args') (hc:closedL args' = true) (k:K.v (s.put d r (frzs s.H args))):@sCall P (.func f caps) args d s K:=call_pure h e hc k
theorem scall_flat (h:Spec P f args' r) (e:(args ++ caps).map (pur (frzs s.H args)) = args') (hc:closedL args' = true) (hf:flat r = true) (k:K.v (s.put d r s.H)):@sCall P (.func f caps) args d s K:=call_flat h e hc hf k
theorem scall0_row {k:Nat} {t:TypeId} {sz:Nat} {rows:List (List AV)} (h:RowSpec P f args' t sz rows) (e:(args ++ caps).map (pur (frzs s.H args)) = args') (hc:closedL args' = true)
  (kk:K.v (s.put (some k) (.ref k (nv (frzs s.H args) k) .o) (upd (frzs s.H args) k (some (.row (nv (frzs s.H args) k) t sz rows))))):@sCall0 P (.func f caps) args (some k) s K:=call0_row h e hc kk
theorem scall0_pureB (h:Spec P f args' r) (e:(args ++ caps).map (pur (frzXs s.H args)) = args') (hc:closedL args' = true) (k:K.v (s.put d r (frzXs s.H args))):@sCall0 P (.func f caps) args d s K:=call0_pureB h e hc k
theorem scall_row {k:Nat} {t:TypeId} {sz:Nat} {rows:List (List AV)} (h:RowSpec P f args' t sz rows) (e:(args ++ caps).map (pur (frzs s.H args)) = args') (hc:closedL args' = true)
  (kk:K.v (s.put (some k) (.ref k (nv (frzs s.H args) k) .o) (upd (frzs s.H args) k (some (.row (nv (frzs s.H args) k) t sz rows))))):@sCall P (.func f caps) args (some k) s K:=call_row h e hc kk
theorem scall_heap {L:List (Nat × Blk)} {VS:Nat → Nat} {τ:Nat → AV} {g:G} (lent nw:List (Nat × Nat)) {l0:List (Nat × Blk)} {Q:AV → List (Nat × Blk) → Prop} (h:HSpecL P f args' l0 Q)
  (e:(args ++ caps).map (ren (asc (lent ++ nw))) = args') (el:lentL L (lent ++ nw) lent = l0) (hok:lendOk L lent nw (args ++ caps) = true)
  (k:∀ r l' VS',Q r l' → retOk (lent ++ nw) r l' = true ∧ K.v ⟨updO τ d (ren (csa (lent ++ nw)) r),hls (dropK ((lent ++ nw).map (·.1)) L ++ backL (lent ++ nw) l') VS',g⟩) :
  @sCall P (.func f caps) args d ⟨τ,hls L VS,g⟩ K:=call_heap lent nw h e el hok k
theorem scall_ylds {xs:List (List AV)} {rt rf:AV} (rest:List (List AV)) (h:SpecY P f args' xs rt rf) (e:(args ++ caps).map (pur (frzs s.H args)) = args') (hg:s.g = ⟨xs ++ rest,false⟩) (hc:args'.all okY = true)
  (k1:K.v ⟨updO s.τ d rt,frzs s.H args,⟨rest,false⟩⟩) (k2:∀ t,K.v ⟨updO s.τ d rf,frzs s.H args,⟨t,true⟩⟩):@sCall P (.func f caps) args d s K:=call_ylds rest h e hg hc k1 k2
theorem scall_yield {args:List AV} (rest:List (List AV)) (e:args.map (pur (frzs s.H args)) = args') (hg:s.g = ⟨args' :: rest,false⟩) (hc:closedL args' = true) (k:∀ b:Bool,K.v ⟨updO s.τ d (.bool b),frzs s.H args,⟨rest,!b⟩⟩):@sCall P .yld args d s K:=call_yield rest e hg hc k
theorem sScope_straight {B:Kt ((Nat → St → Prop) → St → Prop)} {R:Kt (List (Nat × ((Nat → St → Prop) → St → Prop)))} (h:∀ J,B.v J s):@sScope s B R:=cScope_straight h
end
theorem sLoop_introG {α:Type} {B:Kt ((St → Prop) → St → Prop)} {l:List (Nat × AV)} {h:List (Nat × Blk)} {VS:Nat → Nat} {g:G} (inv:α → Prop) (μ:α → Nat) (T:α → List (Nat × AV)) (Hh:α → List (Nat × Blk)) (Gg:α → G) (x0:α)
  (h0:inv x0) (hT:subT l (T x0)) (hH:subA h (Hh x0)) (hG:g = Gg x0)
  (hb:∀ (L:St → Prop) (x:α) (vs:Nat → Nat),inv x → (∀ l' h' vs' g' x',inv x' → μ x' < μ x → subT l' (T x') → subA h' (Hh x') → g' = Gg x' → L ⟨look l',hls h' vs',g'⟩) →
   B.v L ⟨look (T x),hls (Hh x) vs,Gg x⟩):@sLoop ⟨look l,hls h VS,g⟩ B:=cLoop_introG inv μ T Hh Gg x0 h0 hT hH hG hb
theorem sLoop_intro {α:Type} {B:Kt ((St → Prop) → St → Prop)} {l:List (Nat × AV)} {h:List (Nat × Blk)} {VS:Nat → Nat} {g:G} (inv:α → Prop) (μ:α → Nat) (T:α → List (Nat × AV)) (Hh:α → List (Nat × Blk)) (x0:α)
  (h0:inv x0) (hT:subT l (T x0)) (hH:subA h (Hh x0))
  (hb:∀ (L:St → Prop) (x:α) (vs:Nat → Nat),inv x → (∀ l' h' vs' x',inv x' → μ x' < μ x → subT l' (T x') → subA h' (Hh x') → L ⟨look l',hls h' vs',g⟩) →
   B.v L ⟨look (T x),hls (Hh x) vs,g⟩):@sLoop ⟨look l,hls h VS,g⟩ B:=cLoop_intro inv μ T Hh x0 h0 hT hH hb
theorem sRange_introA {α:Type} {P:Program} {fid:FuncId} {caps:List AV} {ps:List Nat} {B:Kt ((Exit → St → Prop) → St → Prop)} {Φ:Kt (Exit → St → Prop)} {l:List (Nat × AV)} {h:List (Nat × Blk)} {VS:Nat → Nat} {g:G}
  (xs:List (List AV)) (rt rf:AV) (inv:Nat → α → Prop) (Hh:α → List (Nat × Blk)) (a0:α) (hsp:SpecY P fid (.yld :: caps) xs rt rf) (hcl:closedL caps = true) (h0:inv 0 a0) (hH:subA h (Hh a0))
  (hr:∀ (i:Nat) (hi:i < xs.length) (a:α) (vs:Nat → Nat) (Ψ:Exit → St → Prop),inv i a → (∀ τ' L vs' a',inv (i + 1) a' → subA L (Hh a') → Ψ .normal ⟨τ',hls L vs',g⟩) → (∀ τ' H,Φ.v .ret ⟨look l,H,g⟩ → Ψ .ret ⟨τ',H,g⟩) →
   (∀ id τ' H,Φ.v (.exit id) ⟨look l,H,g⟩ → Ψ (.exit id) ⟨τ',H,g⟩) → (∀ lb τ' H,Φ.v (.goto lb) ⟨look l,H,g⟩ → Ψ (.goto lb) ⟨τ',H,g⟩) → xs[i].length = ps.length ∧ B.v Ψ ⟨setP (look l) ps xs[i],hls (Hh a) vs,g⟩)
  (hend:∀ vs a,inv xs.length a → Φ.v .normal ⟨look l,hls (Hh a) vs,g⟩):@sRange P (.func fid caps) ps ⟨look l,hls h VS,g⟩ B Φ:=cRange_introA xs rt rf inv Hh a0 hsp hcl h0 hH hr hend
section
variable (d n t g : Nat) (ag w : Bool) (s : St)
def sMv [K:Kt (St → Prop)]:Prop:=sOp (some d) (xMov (s.τ t) s.H) s
def sFl [K:Kt (St → Prop)]:Prop:=sOp (some d) (xFld n (s.τ t) s.H) s
def sLd [K:Kt (St → Prop)]:Prop:=sOp (some d) (xLoad n ag (s.τ t) s.H) s
def sGm [K:Kt (St → Prop)]:Prop:=@sGrd (guardOf (s.τ g) w) (some d) s ⟨fun s K=>@sOp (some d) (xMov (s.τ t) s.H) s ⟨K⟩⟩ K
def sGf [K:Kt (St → Prop)]:Prop:=@sGrd (guardOf (s.τ g) w) (some d) s ⟨fun s K=>@sOp (some d) (xFld n (s.τ t) s.H) s ⟨K⟩⟩ K
def sGl [K:Kt (St → Prop)]:Prop:=@sGrd (guardOf (s.τ g) w) (some d) s ⟨fun s K=>@sOp (some d) (xLoad n ag (s.τ t) s.H) s ⟨K⟩⟩ K
def sGo (r:St → Stp) [K:Kt (St → Prop)]:Prop:=@sGrd (guardOf (s.τ g) w) (some d) s ⟨fun s K=>@sOp (some d) (r s) s ⟨K⟩⟩ K
variable {d n t g ag w s} {K : Kt (St → Prop)}
@[simp] theorem sGo_eq {r:St → Stp}:@sGo d g w s r K = @sGrd (guardOf (s.τ g) w) (some d) s ⟨fun s K=>@sOp (some d) (r s) s ⟨K⟩⟩ K:=propext ⟨id,id⟩
@[simp] theorem sMv_eq:@sMv d t s K = K.v (s.put (some d) (s.τ t) s.H):=propext ⟨id,id⟩
@[simp] theorem sFl_eq:@sFl d n t s K = @sOp (some d) (xFld n (s.τ t) s.H) s K:=propext ⟨id,id⟩
@[simp] theorem sLd_eq:@sLd d n t ag s K = @sOp (some d) (xLoad n ag (s.τ t) s.H) s K:=propext ⟨id,id⟩
@[simp] theorem sGm_eq:@sGm d t g w s K = @sGrd (guardOf (s.τ g) w) (some d) s ⟨fun s K=>@sOp (some d) (xMov (s.τ t) s.H) s ⟨K⟩⟩ K:=propext ⟨id,id⟩
@[simp] theorem sGf_eq:@sGf d n t g w s K = @sGrd (guardOf (s.τ g) w) (some d) s ⟨fun s K=>@sOp (some d) (xFld n (s.τ t) s.H) s ⟨K⟩⟩ K:=propext ⟨id,id⟩
@[simp] theorem sGl_eq:@sGl d n t g ag w s K = @sGrd (guardOf (s.τ g) w) (some d) s ⟨fun s K=>@sOp (some d) (xLoad n ag (s.τ t) s.H) s ⟨K⟩⟩ K:=propext ⟨id,id⟩
end
attribute [irreducible] sOp sMks sLit sCall sCall0 sGrd sIf sLoop sScope sRange sChk
def z14:List AV:=[.int .i64 0,.int .i64 0,.int .i64 0,.str ⟨#[]⟩,.int .i64 0,.int .i64 0,.str ⟨#[]⟩,.nils,.nils,.str ⟨#[]⟩,.int .i64 0,.int .i64 0,.bool false,.int .i64 0]
@[simp] theorem z14_eq:z14 = [.int .i64 0,.int .i64 0,.int .i64 0,.str ⟨#[]⟩,.int .i64 0,.int .i64 0,.str ⟨#[]⟩,.nils,.nils,.str ⟨#[]⟩,.int .i64 0,.int .i64 0,.bool false,.int .i64 0]:=rfl
def z13:List AV:=[.int .i64 0,.int .i64 0,.int .i64 0,.str ⟨#[]⟩,.int .i64 0,.int .i64 0,.str ⟨#[]⟩,.nils,.nils,.nils,.nils,.int .i64 0,.int .i64 0]
@[simp] theorem z13_eq:z13 = [.int .i64 0,.int .i64 0,.int .i64 0,.str ⟨#[]⟩,.int .i64 0,.int .i64 0,.str ⟨#[]⟩,.nils,.nils,.nils,.nils,.int .i64 0,.int .i64 0]:=rfl
def z9:List AV:=[.int .i64 0,.int .i64 0,.int .i64 0,.str ⟨#[]⟩,.int .i64 0,.int .i64 0,.str ⟨#[]⟩,.nils,.nils]
@[simp] theorem z9_eq:z9 = [.int .i64 0,.int .i64 0,.int .i64 0,.str ⟨#[]⟩,.int .i64 0,.int .i64 0,.str ⟨#[]⟩,.nils,.nils]:=rfl
def z4:List AV:=[.int .i64 0,.int .i64 0,.str ⟨#[]⟩,.nils]
@[simp] theorem z4_eq:z4 = [.int .i64 0,.int .i64 0,.str ⟨#[]⟩,.nils]:=rfl
def z3:List AV:=[.str ⟨#[]⟩,.int .i64 0,.int .i64 0]
@[simp] theorem z3_eq:z3 = [.str ⟨#[]⟩,.int .i64 0,.int .i64 0]:=rfl
def Sv {α:Type} (x:α):α:=x
@[simp] theorem Sv_eq {α:Type} (x:α):Sv x = x:=Eq.trans (b:=x) (by unfold Sv; rfl) rfl
section
variable (s s' : St) (K : St → Prop)
def M (d t:Nat) (s:St) (K:St → Prop):Prop:=@sMv d t s ⟨K⟩
@[congr] theorem M_congr {d t:Nat} {s s':St} {K:St → Prop} (h:Sv s = s'):M d t s K = M d t s' K:=by cases h; rfl
@[simp] theorem M_eq {d t:Nat}:M d t s K = @sMv d t s ⟨K⟩:=propext ⟨id,id⟩
def V (d:Nat) (b:Bool) (s:St) (K:St → Prop):Prop:=@sOp (some d) (xMov (.bool b) s.H) s ⟨K⟩
@[congr] theorem V_congr {d:Nat} {b:Bool} {s s':St} {K:St → Prop} (h:Sv s = s'):V d b s K = V d b s' K:=by cases h; rfl
@[simp] theorem V_eq {d:Nat} {b:Bool}:V d b s K = @sOp (some d) (xMov (.bool b) s.H) s ⟨K⟩:=propext ⟨id,id⟩
def I (d:Nat) (i:Int) (s:St) (K:St → Prop):Prop:=@sOp (some d) (xMov (.int .i64 i) s.H) s ⟨K⟩
@[congr] theorem I_congr {d:Nat} {i:Int} {s s':St} {K:St → Prop} (h:Sv s = s'):I d i s K = I d i s' K:=by cases h; rfl
@[simp] theorem I_eq {d:Nat} {i:Int}:I d i s K = @sOp (some d) (xMov (.int .i64 i) s.H) s ⟨K⟩:=propext ⟨id,id⟩
def F (d n t:Nat) (s:St) (K:St → Prop):Prop:=@sFl d n t s ⟨K⟩
@[congr] theorem F_congr {d n t:Nat} {s s':St} {K:St → Prop} (h:Sv s = s'):F d n t s K = F d n t s' K:=by cases h; rfl
@[simp] theorem F_eq {d n t:Nat}:F d n t s K = @sFl d n t s ⟨K⟩:=propext ⟨id,id⟩
def L (d n t:Nat) (ag:Bool) (s:St) (K:St → Prop):Prop:=@sLd d n t ag s ⟨K⟩
@[congr] theorem L_congr {d n t:Nat} {ag:Bool} {s s':St} {K:St → Prop} (h:Sv s = s'):L d n t ag s K = L d n t ag s' K:=by cases h; rfl
@[simp] theorem L_eq {d n t:Nat} {ag:Bool}:L d n t ag s K = @sLd d n t ag s ⟨K⟩:=propext ⟨id,id⟩
def B (d:Nat) (op:BinOp) (g:Bool) (x y:Nat) (s:St) (K:St → Prop):Prop:=@sOp (some d) (xBin op g (s.τ x) (s.τ y) s.H) s ⟨K⟩
@[congr] theorem B_congr {d:Nat} {op:BinOp} {g:Bool} {x y:Nat} {s s':St} {K:St → Prop} (h:Sv s = s'):B d op g x y s K = B d op g x y s' K:=by cases h; rfl
@[simp] theorem B_eq {d:Nat} {op:BinOp} {g:Bool} {x y:Nat}:B d op g x y s K = @sOp (some d) (xBin op g (s.τ x) (s.τ y) s.H) s ⟨K⟩:=propext ⟨id,id⟩
def J (d:Nat) (op:BinOp) (g:Bool) (x:Nat) (i:Int) (s:St) (K:St → Prop):Prop:=@sOp (some d) (xBin op g (s.τ x) (.int .i64 i) s.H) s ⟨K⟩
@[congr] theorem J_congr {d:Nat} {op:BinOp} {g:Bool} {x:Nat} {i:Int} {s s':St} {K:St → Prop} (h:Sv s = s'):J d op g x i s K = J d op g x i s' K:=by cases h; rfl
@[simp] theorem J_eq {d:Nat} {op:BinOp} {g:Bool} {x:Nat} {i:Int}:J d op g x i s K = @sOp (some d) (xBin op g (s.τ x) (.int .i64 i) s.H) s ⟨K⟩:=propext ⟨id,id⟩
def X (d n x y:Nat) (s:St) (K:St → Prop):Prop:=@sOp (some d) (xIx n (s.τ x) (s.τ y) s.H) s ⟨K⟩
@[congr] theorem X_congr {d n x y:Nat} {s s':St} {K:St → Prop} (h:Sv s = s'):X d n x y s K = X d n x y s' K:=by cases h; rfl
@[simp] theorem X_eq {d n x y:Nat}:X d n x y s K = @sOp (some d) (xIx n (s.τ x) (s.τ y) s.H) s ⟨K⟩:=propext ⟨id,id⟩
def E (d x i:Nat) (s:St) (K:St → Prop):Prop:=@sOp (some d) (xExt (s.τ x) i s.H) s ⟨K⟩
@[congr] theorem E_congr {d x i:Nat} {s s':St} {K:St → Prop} (h:Sv s = s'):E d x i s K = E d x i s' K:=by cases h; rfl
@[simp] theorem E_eq {d x i:Nat}:E d x i s K = @sOp (some d) (xExt (s.τ x) i s.H) s ⟨K⟩:=propext ⟨id,id⟩
def N (d x:Nat) (s:St) (K:St → Prop):Prop:=@sOp (some d) (xLen (s.τ x) s.H) s ⟨K⟩
@[congr] theorem N_congr {d x:Nat} {s s':St} {K:St → Prop} (h:Sv s = s'):N d x s K = N d x s' K:=by cases h; rfl
@[simp] theorem N_eq {d x:Nat}:N d x s K = @sOp (some d) (xLen (s.τ x) s.H) s ⟨K⟩:=propext ⟨id,id⟩
def O (d x y:Nat) (s:St) (K:St → Prop):Prop:=@sOp (some d) (xPick (s.τ x) (.bool true) (s.τ y) s.H) s ⟨K⟩
@[congr] theorem O_congr {d x y:Nat} {s s':St} {K:St → Prop} (h:Sv s = s'):O d x y s K = O d x y s' K:=by cases h; rfl
@[simp] theorem O_eq {d x y:Nat}:O d x y s K = @sOp (some d) (xPick (s.τ x) (.bool true) (s.τ y) s.H) s ⟨K⟩:=propext ⟨id,id⟩
def A (d x y:Nat) (s:St) (K:St → Prop):Prop:=@sOp (some d) (xPick (s.τ x) (s.τ y) (.bool false) s.H) s ⟨K⟩
@[congr] theorem A_congr {d x y:Nat} {s s':St} {K:St → Prop} (h:Sv s = s'):A d x y s K = A d x y s' K:=by cases h; rfl
@[simp] theorem A_eq {d x y:Nat}:A d x y s K = @sOp (some d) (xPick (s.τ x) (s.τ y) (.bool false) s.H) s ⟨K⟩:=propext ⟨id,id⟩
def U (n x y:Nat) (s:St) (K:St → Prop):Prop:=@sOp none (xStore n (s.τ x) (s.τ y) s.H) s ⟨K⟩
@[congr] theorem U_congr {n x y:Nat} {s s':St} {K:St → Prop} (h:Sv s = s'):U n x y s K = U n x y s' K:=by cases h; rfl
@[simp] theorem U_eq {n x y:Nat}:U n x y s K = @sOp none (xStore n (s.τ x) (s.τ y) s.H) s ⟨K⟩:=propext ⟨id,id⟩
def Q (d x:Nat) (s:St) (K:St → Prop):Prop:=@sOp (some d) (xNot (s.τ x) s.H) s ⟨K⟩
@[congr] theorem Q_congr {d x:Nat} {s s':St} {K:St → Prop} (h:Sv s = s'):Q d x s K = Q d x s' K:=by cases h; rfl
@[simp] theorem Q_eq {d x:Nat}:Q d x s K = @sOp (some d) (xNot (s.τ x) s.H) s ⟨K⟩:=propext ⟨id,id⟩
def Z (d:Nat) (t:TypeId) (z:List AV) (s:St) (K:St → Prop):Prop:=@sOp (some d) (xAlloc d t z s.H) s ⟨K⟩
@[congr] theorem Z_congr {d:Nat} {t:TypeId} {z:List AV} {s s':St} {K:St → Prop} (h:Sv s = s'):Z d t z s K = Z d t z s' K:=by cases h; rfl
@[simp] theorem Z_eq {d:Nat} {t:TypeId} {z:List AV}:Z d t z s K = @sOp (some d) (xAlloc d t z s.H) s ⟨K⟩:=propext ⟨id,id⟩
def Y (d:Nat) (t:TypeId) (x:Nat) (s:St) (K:St → Prop):Prop:=@sOp (some d) (xBox d t (s.τ x) s.H) s ⟨K⟩
@[congr] theorem Y_congr {d:Nat} {t:TypeId} {x:Nat} {s s':St} {K:St → Prop} (h:Sv s = s'):Y d t x s K = Y d t x s' K:=by cases h; rfl
@[simp] theorem Y_eq {d:Nat} {t:TypeId} {x:Nat}:Y d t x s K = @sOp (some d) (xBox d t (s.τ x) s.H) s ⟨K⟩:=propext ⟨id,id⟩
def Bd (d:Nat) (z:List AV) (l:List (Nat × Nat × AV)) (s:St) (K:St → Prop):Prop:=@sOp (some d) (xBuild z l s.H) s ⟨K⟩
@[congr] theorem Bd_congr {d:Nat} {z:List AV} {l:List (Nat × Nat × AV)} {s s':St} {K:St → Prop} (h:Sv s = s'):Bd d z l s K = Bd d z l s' K:=by cases h; rfl
@[simp] theorem Bd_eq {d:Nat} {z:List AV} {l:List (Nat × Nat × AV)}:Bd d z l s K = @sOp (some d) (xBuild z l s.H) s ⟨K⟩:=propext ⟨id,id⟩
def Lt (d n m:Nat) (z:List AV) (l:List (Nat × AV)) (s:St) (K:St → Prop):Prop:=@sOp (some d) (xLit n m z l s.H) s ⟨K⟩
@[congr] theorem Lt_congr {d n m:Nat} {z:List AV} {l:List (Nat × AV)} {s s':St} {K:St → Prop} (h:Sv s = s'):Lt d n m z l s K = Lt d n m z l s' K:=by cases h; rfl
@[simp] theorem Lt_eq {d n m:Nat} {z:List AV} {l:List (Nat × AV)}:Lt d n m z l s K = @sOp (some d) (xLit n m z l s.H) s ⟨K⟩:=propext ⟨id,id⟩
def Ca (P:Program) (f:FuncId) (l:List AV) (d:Nat) (s:St) (K:St → Prop):Prop:=@sCall P (.func f []) l (some d) s ⟨K⟩
@[congr] theorem Ca_congr {P:Program} {f:FuncId} {l:List AV} {d:Nat} {s s':St} {K:St → Prop} (h:Sv s = s'):Ca P f l d s K = Ca P f l d s' K:=by cases h; rfl
@[simp] theorem Ca_eq {P:Program} {f:FuncId} {l:List AV} {d:Nat}:Ca P f l d s K = @sCall P (.func f []) l (some d) s ⟨K⟩:=propext ⟨id,id⟩
def C0 (P:Program) (f:FuncId) (l:List AV) (d:Nat) (s:St) (K:St → Prop):Prop:=@sCall0 P (.func f []) l (some d) s ⟨K⟩
@[congr] theorem C0_congr {P:Program} {f:FuncId} {l:List AV} {d:Nat} {s s':St} {K:St → Prop} (h:Sv s = s'):C0 P f l d s K = C0 P f l d s' K:=by cases h; rfl
@[simp] theorem C0_eq {P:Program} {f:FuncId} {l:List AV} {d:Nat}:C0 P f l d s K = @sCall0 P (.func f []) l (some d) s ⟨K⟩:=propext ⟨id,id⟩
def gm (d t g:Nat) (w:Bool) (s:St) (K:St → Prop):Prop:=@sGm d t g w s ⟨K⟩
@[congr] theorem gm_congr {d t g:Nat} {w:Bool} {s s':St} {K:St → Prop} (h:Sv s = s'):gm d t g w s K = gm d t g w s' K:=by cases h; rfl
@[simp] theorem gm_eq {d t g:Nat} {w:Bool}:gm d t g w s K = @sGm d t g w s ⟨K⟩:=propext ⟨id,id⟩
def gf (d n t g:Nat) (w:Bool) (s:St) (K:St → Prop):Prop:=@sGf d n t g w s ⟨K⟩
@[congr] theorem gf_congr {d n t g:Nat} {w:Bool} {s s':St} {K:St → Prop} (h:Sv s = s'):gf d n t g w s K = gf d n t g w s' K:=by cases h; rfl
@[simp] theorem gf_eq {d n t g:Nat} {w:Bool}:gf d n t g w s K = @sGf d n t g w s ⟨K⟩:=propext ⟨id,id⟩
def gl (d n t g:Nat) (ag w:Bool) (s:St) (K:St → Prop):Prop:=@sGl d n t g ag w s ⟨K⟩
@[congr] theorem gl_congr {d n t g:Nat} {ag w:Bool} {s s':St} {K:St → Prop} (h:Sv s = s'):gl d n t g ag w s K = gl d n t g ag w s' K:=by cases h; rfl
@[simp] theorem gl_eq {d n t g:Nat} {ag w:Bool}:gl d n t g ag w s K = @sGl d n t g ag w s ⟨K⟩:=propext ⟨id,id⟩
def go (d g:Nat) (w:Bool) (s:St) (r:St → Stp) (K:St → Prop):Prop:=@sGo d g w s r ⟨K⟩
@[congr] theorem go_congr {d g:Nat} {w:Bool} {s s':St} {r:St → Stp} {K:St → Prop} (h:Sv s = s'):go d g w s r K = go d g w s' r K:=by cases h; rfl
@[simp] theorem go_eq {d g:Nat} {w:Bool} {r:St → Stp}:go d g w s r K = @sGo d g w s r ⟨K⟩:=propext ⟨id,id⟩
def If (x:Nat) (s:St) (p q:Prop):Prop:=@sIf (s.τ x) ⟨p⟩ ⟨q⟩
@[congr] theorem If_congr {x:Nat} {s s':St} {p q:Prop} (h:Sv s = s'):If x s p q = If x s' p q:=by cases h; rfl
@[simp] theorem If_eq {x:Nat} {p q:Prop}:If x s p q = @sIf (s.τ x) ⟨p⟩ ⟨q⟩:=propext ⟨id,id⟩
def k1 (x:AV) (k:Nat) (p:Prop):Prop:=@sChk (compat (occ x,[]) ([k],[k])) ⟨p⟩
@[congr] theorem k1_congr {x x':AV} {k:Nat} {p:Prop} (h:Sv x = x'):k1 x k p = k1 x' k p:=by cases h; rfl
@[simp] theorem k1_eq {x:AV} {k:Nat} {p:Prop}:k1 x k p = @sChk (compat (occ x,[]) ([k],[k])) ⟨p⟩:=propext ⟨id,id⟩
def k2 (e:List Nat × List Nat) (k:Nat) (p:Prop):Prop:=@sChk (compat e ([k],[k])) ⟨p⟩
@[congr] theorem k2_congr {e e':List Nat × List Nat} {k:Nat} {p:Prop} (h:Sv e = e'):k2 e k p = k2 e' k p:=by cases h; rfl
@[simp] theorem k2_eq {e:List Nat × List Nat} {k:Nat} {p:Prop}:k2 e k p = @sChk (compat e ([k],[k])) ⟨p⟩:=propext ⟨id,id⟩
def k3 (x:AV) (e:List Nat × List Nat) (p:Prop):Prop:=@sChk (compat (occ x,[]) e) ⟨p⟩
@[congr] theorem k3_congr {x x':AV} {e e':List Nat × List Nat} {p:Prop} (h:Sv x = x') (h2:e = e'):k3 x e p = k3 x' e' p:=by cases h; cases h2; rfl
@[simp] theorem k3_eq {x:AV} {e:List Nat × List Nat} {p:Prop}:k3 x e p = @sChk (compat (occ x,[]) e) ⟨p⟩:=propext ⟨id,id⟩
end
abbrev EqW (P:Program) (fn:Func) (W:(Exit → St → Prop) → St → Prop):Prop:=∀ Φ s,awp P (fn.body.getD .skip) Φ s = W Φ s
abbrev SpW (P:Program) (f:FuncId) (n:Nat) (rs:List ResultVar) (W:(Exit → St → Prop) → St → Prop):Prop:=
 ∀ {args:List AV} {r:AV},args.length ≤ n → (∀ vs,W (retK P rs r) ⟨look (argT 0 args),hls [] vs,noG⟩) → Spec P f args r
theorem spW {P:Program} {f:FuncId} {fn:Func} {W:(Exit → St → Prop) → St → Prop} {rs:List ResultVar} {n:Nat} (hf:P.funcs[f]? = some fn) (hn:fn.ntmps = n) (hW:EqW P fn W) (hb:fn.body.isSome = true:=by kernel_rfl)
    (hname : (fn.name == "runtime.NumGoroutine") = false := by kernel_rfl) (hok : codeOk fn.ntmps (fn.body.getD .skip) = true := by kernel_rfl) (hrs : fn.results.toList = rs := by kernel_rfl) : SpW P f n rs W :=
 fun hlen h=>.of_W hf hb hname hok hn hW hrs hlen h
end Go.Am
namespace Go.Am
open Go.RowKit
section
variable (H : Heap) (k ver off n : Nat) (ag : Bool)
@[simp] theorem cells_agg (cs:List AV):AV.cells (.agg cs) = cs:=rfl
@[simp] theorem cells_int (k:IntKind) (i:Int):AV.cells (.int k i) = [.int k i]:=rfl
@[simp] theorem cells_bool (b:Bool):AV.cells (.bool b) = [.bool b]:=rfl
@[simp] theorem cells_str (b:ByteArray):AV.cells (.str b) = [.str b]:=rfl
@[simp] theorem cells_sl (r:List (List AV)):AV.cells (.sl r) = [.sl r]:=rfl
@[simp] theorem cells_slt (r:List (List AV)):AV.cells (.slt r) = [.slt r]:=rfl
@[simp] theorem cells_nils:AV.cells .nils = [.nils]:=rfl
@[simp] theorem cells_nilf:AV.cells .nilf = [.nilf]:=rfl
@[simp] theorem cells_nilp:AV.cells .nilp = [.nilp]:=rfl
@[simp] theorem cells_yld:AV.cells .yld = [.yld]:=rfl
@[simp] theorem cells_ref (r:RefK):AV.cells (.ref k ver r) = [.ref k ver r]:=rfl
@[simp] theorem cells_elt (r:List AV):AV.cells (.elt r off) = [.elt r off]:=rfl
@[simp] theorem cells_func (f:FuncId) (c:List AV):AV.cells (.func f c) = [.func f c]:=rfl
@[simp] theorem cell_int (k:IntKind) (i:Int):AV.cell (.int k i) = true:=rfl
@[simp] theorem cell_bool (b:Bool):AV.cell (.bool b) = true:=rfl
@[simp] theorem cell_str (b:ByteArray):AV.cell (.str b) = true:=rfl
@[simp] theorem cell_sl (r:List (List AV)):AV.cell (.sl r) = true:=rfl
@[simp] theorem cell_slt (r:List (List AV)):AV.cell (.slt r) = true:=rfl
@[simp] theorem cell_nils:AV.cell .nils = true:=rfl
@[simp] theorem cell_nilf:AV.cell .nilf = true:=rfl
@[simp] theorem cell_nilp:AV.cell .nilp = true:=rfl
@[simp] theorem cell_yld:AV.cell .yld = true:=rfl
@[simp] theorem cell_ref (r:RefK):AV.cell (.ref k ver r) = true:=rfl
@[simp] theorem cell_elt (r:List AV):AV.cell (.elt r off) = true:=rfl
@[simp] theorem cell_func (f:FuncId) (c:List AV):AV.cell (.func f c) = true:=rfl
def rdB (ver off n:Nat) (ag:Bool):Option Blk → Option AV
 | some (.box v _ cells)=>if v = ver then readA cells off n ag else none
 | some (.fbox v cells)=>if v = ver then readA cells off n ag else none
 | _=>none
def rdE (ver i off n:Nat) (ag:Bool):Option Blk → Option AV
 | some (.row v _ _ rows)=>if v = ver then (rows[i]?).bind fun r=>readA r off n ag else none
 | _=>none
def adB (k ver off n:Nat):Option Blk → Option AV
 | some (.box v _ _)=>if v = ver then some (.ref k ver (.p (off + n))) else none
 | some (.fbox v _)=>if v = ver then some (.ref k ver (.p (off + n))) else none
 | _=>none
def adE (k ver i off n:Nat):Option Blk → Option AV
 | some (.row v _ _ rows)=>if v = ver ∧ i < rows.length then some (.ref k ver (.e i (off + n))) else none
 | _=>none
def wrB (H:Heap) (k ver off n:Nat) (x:List AV):Option Blk → Option Heap
 | some (.box v t cells)=>if v = ver ∧ okCells x = true ∧ x.length = n ∧ off + n ≤ cells.length then some (upd H k (some (.box v t (setL cells off x)))) else none
 | _=>none
def ixB (k ver n:Nat) (i:Int):Option Blk → Option AV
 | some (.row v _ sz rows)=>if v = ver ∧ sz = n ∧ 0 ≤ i ∧ i < rows.length then some (.ref k ver (.e i.toNat 0)) else none
 | some (.froz v rows)=>if v = ver then ixRows rows i n else none
 | _=>none
def lenB (ver:Nat):Option Blk → Option Nat
 | some (.row v _ _ rows)=>if v = ver then some rows.length else none
 | some (.froz v rows)=>if v = ver then some rows.length else none
 | _=>none
def rowsB (ver:Nat):Option Blk → Option (List (List AV))
 | some (.froz v rows)=>if v = ver then some rows else none
 | _=>none
def srcB (ver n:Nat):Option Blk → Option (List (List AV))
 | some (.row v _ sz rows)=>if v = ver ∧ sz = n then some rows else none
 | some (.froz v rows)=>if v = ver ∧ (rows.all fun r=>r.length == n && okCells r) = true then some rows else none
 | _=>none
def appB (H:Heap) (e n b k ver:Nat) (new:List (List AV)):Option Blk → Option (AV × Heap)
 | some (.row v t sz rows)=>oif (decide (v = ver ∧ t = e ∧ sz = n ∧ (rows.length + new.length) * b ≤ 140737488355328)) (some (.ref k (nv H k) .o,upd H k (some (.row (nv H k) e n (rows ++ new)))))
 | _=>none
def f0B (H:Heap) (k ver:Nat):Option Blk → Heap
 | some (.row v _ _ rows)=>if v = ver then upd H k (some (.froz v rows)) else H
 | _=>H
def fbB (H:Heap) (k ver:Nat):Option Blk → Heap
 | some (.box v _ cells)=>if v = ver then upd H k (some (.fbox v cells)) else H
 | _=>H
def p0o (k ver:Nat):Option Blk → AV
 | some (.froz v rows)=>if v = ver then .sl rows else .any
 | _=>.ref k ver .o
def p0p (k ver off:Nat):Option Blk → AV
 | some (.fbox v cells)=>if v = ver then .elt cells off else .any
 | _=>.ref k ver (.p off)
section
variable (v : Nat) (t : TypeId) (cells : List AV) (rows : List (List AV)) (sz : Nat) (i : Nat) (z : Int)
@[simp] theorem rdB_box:rdB ver off n ag (some (.box v t cells)) = if v = ver then readA cells off n ag else none:=rfl
@[simp] theorem rdB_fbox:rdB ver off n ag (some (.fbox v cells)) = if v = ver then readA cells off n ag else none:=rfl
@[simp] theorem rdE_row:rdE ver i off n ag (some (.row v t sz rows)) = if v = ver then (rows[i]?).bind fun r=>readA r off n ag else none:=rfl
@[simp] theorem adB_box:adB k ver off n (some (.box v t cells)) = if v = ver then some (.ref k ver (.p (off + n))) else none:=rfl
@[simp] theorem adB_fbox:adB k ver off n (some (.fbox v cells)) = if v = ver then some (.ref k ver (.p (off + n))) else none:=rfl
@[simp] theorem adE_row:adE k ver i off n (some (.row v t sz rows)) = if v = ver ∧ i < rows.length then some (.ref k ver (.e i (off + n))) else none:=rfl
@[simp] theorem wrB_box (x:List AV):wrB H k ver off n x (some (.box v t cells)) = if v = ver ∧ okCells x = true ∧ x.length = n ∧ off + n ≤ cells.length then some (upd H k (some (.box v t (setL cells off x)))) else none:=rfl
@[simp] theorem ixB_row:ixB k ver n z (some (.row v t sz rows)) = if v = ver ∧ sz = n ∧ 0 ≤ z ∧ z < rows.length then some (.ref k ver (.e z.toNat 0)) else none:=rfl
@[simp] theorem ixB_froz:ixB k ver n z (some (.froz v rows)) = if v = ver then ixRows rows z n else none:=rfl
@[simp] theorem lenB_row:lenB ver (some (.row v t sz rows)) = if v = ver then some rows.length else none:=rfl
@[simp] theorem lenB_froz:lenB ver (some (.froz v rows)) = if v = ver then some rows.length else none:=rfl
@[simp] theorem rowsB_froz:rowsB ver (some (.froz v rows)) = if v = ver then some rows else none:=rfl
@[simp] theorem srcB_row:srcB ver n (some (.row v t sz rows)) = if v = ver ∧ sz = n then some rows else none:=rfl
@[simp] theorem srcB_froz:srcB ver n (some (.froz v rows)) = if v = ver ∧ (rows.all fun r=>r.length == n && okCells r) = true then some rows else none:=rfl
@[simp] theorem appB_row (e b:Nat) (new:List (List AV)):appB H e n b k ver new (some (.row v t sz rows)) = oif (decide (v = ver ∧ t = e ∧ sz = n ∧ (rows.length + new.length) * b ≤ 140737488355328)) (some (.ref k (nv H k) .o,upd H k (some (.row (nv H k) e n (rows ++ new))))):=rfl
@[simp] theorem f0B_none:f0B H k ver none = H:=rfl
@[simp] theorem f0B_row:f0B H k ver (some (.row v t sz rows)) = if v = ver then upd H k (some (.froz v rows)) else H:=rfl
@[simp] theorem f0B_box:f0B H k ver (some (.box v t cells)) = H:=rfl
@[simp] theorem f0B_froz:f0B H k ver (some (.froz v rows)) = H:=rfl
@[simp] theorem f0B_fbox:f0B H k ver (some (.fbox v cells)) = H:=rfl
@[simp] theorem f0B_dead:f0B H k ver (some (.dead v)) = H:=rfl
@[simp] theorem fbB_none:fbB H k ver none = H:=rfl
@[simp] theorem fbB_box:fbB H k ver (some (.box v t cells)) = if v = ver then upd H k (some (.fbox v cells)) else H:=rfl
@[simp] theorem fbB_row:fbB H k ver (some (.row v t sz rows)) = H:=rfl
@[simp] theorem fbB_froz:fbB H k ver (some (.froz v rows)) = H:=rfl
@[simp] theorem fbB_fbox:fbB H k ver (some (.fbox v cells)) = H:=rfl
@[simp] theorem fbB_dead:fbB H k ver (some (.dead v)) = H:=rfl
@[simp] theorem p0o_froz:p0o k ver (some (.froz v rows)) = if v = ver then .sl rows else .any:=rfl
@[simp] theorem p0p_fbox:p0p k ver off (some (.fbox v cells)) = if v = ver then .elt cells off else .any:=rfl
end
@[simp] theorem xMov_eq (v:AV):xMov v H = some (v,H):=rfl
@[simp] theorem xPick_true (x y:AV):xPick (.bool true) x y H = some (x,H):=rfl
@[simp] theorem xPick_false (x y:AV):xPick (.bool false) x y H = some (y,H):=rfl
@[simp] theorem xPick_or (c y:Bool):xPick (.bool c) (.bool true) (.bool y) H = some (.bool (c || y),H):=by cases c <;> rfl
@[simp] theorem xPick_and (c x:Bool):xPick (.bool c) (.bool x) (.bool false) H = some (.bool (c && x),H):=by cases c <;> rfl
@[simp] theorem xAlloc_eq (d:Nat) (e:TypeId) (z:List AV):xAlloc d e z H = some (.ref d (nv H d) (.p 0),upd H d (some (.box (nv H d) e z))):=rfl
@[simp] theorem xBox_eq (d:Nat) (e:TypeId) (v:AV):xBox d e v H = oif (okCells v.cells) (some (.ref d (nv H d) (.p 0),upd H d (some (.box (nv H d) e v.cells)))):=rfl
@[simp] theorem xBuild_eq (z:List AV) (p:List (Nat × Nat × AV)):xBuild z p H = ob (fillP z p) fun cells=>some (.agg cells,H):=rfl
@[simp] theorem fillP_nil (z:List AV):fillP z [] = some z:=rfl
@[simp] theorem fillP_cons (z:List AV) (o:Nat) (x:AV) (r:List (Nat × Nat × AV)):fillP z ((o,n,x) :: r) = if okCells x.cells = true ∧ x.cells.length = n ∧ o + n ≤ z.length then fillP (setL z o x.cells) r else none:=rfl
@[simp] theorem fillR_nil (z:List (List AV)):fillR n z [] = some z:=by cases z <;> rfl
@[simp] theorem fillR_cons (z:List (List AV)) (i:Nat) (x:AV) (r:List (Nat × AV)):fillR n z ((i,x) :: r) = if okCells x.cells = true ∧ x.cells.length = n ∧ i < z.length then fillR n (z.set i x.cells) r else none:=by cases z <;> rfl
@[simp] theorem xLit_eq (len:Nat) (z:List AV) (ps:List (Nat × AV)):xLit n len z ps H = ob (fillR n (List.replicate len z) (ps.map fun p=>(p.1,pur (frzs H (ps.map fun p=>p.2)) p.2))) fun rows=>some (.slt rows,frzs H (ps.map fun p=>p.2)):=rfl
@[simp] theorem xLitR_eq (len:Nat) (z:List AV) (ps:List (Nat × AV)):xLitR n len z ps H = ob (fillR n (List.replicate len z) ps) fun rows=>some (.slt rows,H):=rfl
@[simp] theorem xRow_eq (d:Nat) (e:TypeId) (len:Nat) (z:List AV) (ps:List (Nat × AV)):xRow d e n len z ps H = ob (fillR n (List.replicate len z) (ps.map fun p=>(p.1,pur (frzs H (ps.map fun p=>p.2)) p.2))) fun rows=>
  some (.ref d (nv (frzs H (ps.map fun p=>p.2)) d) .o,upd (frzs H (ps.map fun p=>p.2)) d (some (.row (nv (frzs H (ps.map fun p=>p.2)) d) e n rows))):=rfl
@[simp] theorem xMks_int (d:Nat) (e:TypeId) (b:Nat) (z:List AV) (kl kc:IntKind) (l c:Int):xMks d e n b z (.int kl l) (.int kc c) H =
  oif (decide (0 ≤ l ∧ l ≤ c ∧ b * c.toNat ≤ 281474976710656 ∧ c.toNat ≤ maxLen)) (some (.ref d (nv H d) .o,upd H d (some (.row (nv H d) e n (List.replicate l.toNat z))))):=rfl
@[simp] theorem xLoad_p:xLoad n ag (.ref k ver (.p off)) H = ob (rdB ver off n ag (H k)) fun v=>some (v,H):=by
 unfold xLoad rdV rdB; rfl
@[simp] theorem xLoad_e (i:Nat):xLoad n ag (.ref k ver (.e i off)) H = ob (rdE ver i off n ag (H k)) fun v=>some (v,H):=by
 unfold xLoad rdV rdE; rfl
@[simp] theorem xLoad_elt (row:List AV):xLoad n ag (.elt row off) H = ob (readA row off n ag) fun v=>some (v,H):=rfl
@[simp] theorem rdV_p:rdV H n ag (.ref k ver (.p off)) = rdB ver off n ag (H k):=by unfold rdV rdB; rfl
@[simp] theorem rdV_elt (row:List AV):rdV H n ag (.elt row off) = readA row off n ag:=rfl
@[simp] theorem xStore_p (y:AV):xStore n (.ref k ver (.p off)) y H = ob (wrB H k ver off n y.cells (H k)) fun H'=>some (.tup [],H'):=by
 unfold xStore wrV wrB; rfl
@[simp] theorem xFld_p:xFld n (.ref k ver (.p off)) H = ob (adB k ver off n (H k)) fun v=>some (v,H):=by unfold xFld addA adB; rfl
@[simp] theorem xFld_e (i:Nat):xFld n (.ref k ver (.e i off)) H = ob (adE k ver i off n (H k)) fun v=>some (v,H):=by unfold xFld addA adE; rfl
@[simp] theorem xFld_elt (row:List AV):xFld n (.elt row off) H = some (.elt row (off + n),H):=rfl
@[simp] theorem xIx_sl (rows:List (List AV)) (q:IntKind) (i:Int):xIx n (.sl rows) (.int q i) H = ob (ixRows rows i n) fun v=>some (v,H):=rfl
@[simp] theorem xIx_slt (rows:List (List AV)) (q:IntKind) (i:Int):xIx n (.slt rows) (.int q i) H = ob (ixRows rows i n) fun v=>some (v,H):=rfl
@[simp] theorem xIx_ref (q:IntKind) (i:Int):xIx n (.ref k ver .o) (.int q i) H = ob (ixB k ver n i (H k)) fun v=>some (v,H):=by unfold xIx intV ob ixA ixB; rfl
@[simp] theorem xIxA_p (len:Nat) (q:IntKind) (i:Int):xIxA len n (.ref k ver (.p off)) (.int q i) H = oif (decide (0 ≤ i ∧ i < len)) (ob (adB k ver off (i.toNat * n) (H k)) fun v=>some (v,H)):=by unfold xIxA intV addA adB; rfl
@[simp] theorem xIxA_elt (len:Nat) (row:List AV) (q:IntKind) (i:Int):xIxA len n (.elt row off) (.int q i) H = oif (decide (0 ≤ i ∧ i < len)) (some (.elt row (off + i.toNat * n),H)):=rfl
@[simp] theorem ixRows_nat (rows:List (List AV)) (i:Nat):ixRows rows (i:Int) n = (rows[i]?).bind fun r=>if r.length = n then some (.elt r 0) else none:=by
 unfold ixRows
 simp only [Int.natCast_nonneg,if_true,Int.toNat_natCast]
 cases rows[i]? <;> rfl
@[simp] theorem xField_agg (cs:List AV):xField off n ag (.agg cs) H = ob (readA cs off n ag) fun v=>some (v,H):=rfl
@[simp] theorem xExt_tup (vs:List AV) (i:Nat):xExt (.tup vs) i H = ob (vs[i]?) fun v=>some (v,H):=rfl
@[simp] theorem xMkf_eq (f:FuncId) (c:List AV):xMkf f c H = some (.func f c,H):=rfl
@[simp] theorem xNil_func (f:FuncId) (c:List AV):xNil (.func f c) H = some (.func f c,H):=rfl
@[simp] theorem xNil_elt (row:List AV):xNil (.elt row off) H = some (.elt row off,H):=rfl
@[simp] theorem xConv_int (q q':IntKind) (i:Int):xConv q (.int q' i) H = some (.int q (q.wrap i),H):=rfl
@[simp] theorem xLen_sl (rows:List (List AV)):xLen (.sl rows) H = some (.int .i64 rows.length,H):=rfl
@[simp] theorem xLen_slt (rows:List (List AV)):xLen (.slt rows) H = some (.int .i64 rows.length,H):=rfl
@[simp] theorem xLen_nils:xLen .nils H = some (.int .i64 0,H):=rfl
@[simp] theorem xLen_ref:xLen (.ref k ver .o) H = ob (lenB ver (H k)) fun (n:Nat)=>some (.int .i64 n,H):=by
 unfold xLen lenV lenA lenB
 dsimp only
 generalize H k = b
 cases b with
 | none=>rfl
 | some b=>
  cases b with
  | row v t sz rows=>by_cases h:v = ver <;> simp [h]
  | froz v rows=>by_cases h:v = ver <;> simp [h]
  | _=>rfl
@[simp] theorem xSlen_str (b:ByteArray):xSlen (.str b) H = some (.int .i64 b.size,H):=rfl
@[simp] theorem xMin_int (q q':IntKind) (a b:Int):xMin (.int q a) (.int q' b) H = some (.int q (if b < a then b else a),H):=rfl
@[simp] theorem xNot_bool (b:Bool):xNot (.bool b) H = some (.bool (!b),H):=rfl
@[simp] theorem guardOf_bool (b w:Bool):guardOf (.bool b) w = .bool (b == w):=rfl
@[simp] theorem guardOf_tup (w:Bool):guardOf (.tup []) w = .bool false:=rfl
@[simp] theorem ixO_none:ixO none = some none:=rfl
@[simp] theorem ixO_int (q:IntKind) (i:Int):ixO (some (.int q i)) = some (some (q,i)):=rfl
@[simp] theorem xSlc_sl (rows:List (List AV)) (lo hi:Option AV):xSlc n (.sl rows) lo hi H = ob (ixO lo) fun l=>ob (ixO hi) fun h=>ob (slcV n rows l h) fun v=>some (v,H):=rfl
@[simp] theorem xSlc_slt (rows:List (List AV)) (lo hi:Option AV):xSlc n (.slt rows) lo hi H = ob (ixO lo) fun l=>ob (ixO hi) fun h=>ob (slcV n rows l h) fun v=>some (v,H):=rfl
@[simp] theorem xSlc_nils (lo hi:Option AV):xSlc n .nils lo hi H = ob (ixO lo) fun l=>ob (ixO hi) fun h=>ob (slcV n [] l h) fun v=>some (v,H):=rfl
@[simp 10] theorem readA_one (cells:List AV):readA cells off n false = cells[off]?:=rfl
@[simp 10] theorem readA_agg (cells:List AV):readA cells off n true = if off + n ≤ cells.length then some (.agg ((cells.drop off).take n)) else none:=rfl
section
variable (ib : Bool) (a b : Int) (q : IntKind)
@[simp] theorem xBin_add:xBin .add ib (.int q a) (.int q b) H = some (.int q (q.wrap (a + b)),H):=by simp [xBin,binV]
@[simp] theorem xBin_sub:xBin .sub ib (.int q a) (.int q b) H = some (.int q (q.wrap (a - b)),H):=by simp [xBin,binV]
@[simp] theorem xBin_mul:xBin .mul ib (.int q a) (.int q b) H = some (.int q (q.wrap (a * b)),H):=by simp [xBin,binV]
@[simp] theorem xBin_quo:xBin .quo ib (.int q a) (.int q b) H = if b ≠ 0 then some (.int q (q.wrap (a.tdiv b)),H) else none:=by by_cases h:b = 0 <;> simp [xBin,binV,h]
@[simp] theorem xBin_rem:xBin .rem ib (.int q a) (.int q b) H = if b ≠ 0 then some (.int q (a.tmod b),H) else none:=by by_cases h:b = 0 <;> simp [xBin,binV,h]
@[simp] theorem xBin_shl (q':IntKind):xBin .shl ib (.int q a) (.int q' b) H = if b < 0 then none else some (.int q (q.wrap (a * 2 ^ min b.toNat q.bits)),H):=by by_cases h:b < 0 <;> simp [xBin,binV,h]
@[simp] theorem xBin_shr (q':IntKind):xBin .shr ib (.int q a) (.int q' b) H = if b < 0 then none else some (.int q (a.fdiv (2 ^ min b.toNat q.bits)),H):=by by_cases h:b < 0 <;> simp [xBin,binV,h]
@[simp] theorem xBin_eql:xBin .eql ib (.int q a) (.int q b) H = some (.bool (decide (a = b)),H):=by simp [xBin,binV]
@[simp] theorem xBin_neq:xBin .neq ib (.int q a) (.int q b) H = some (.bool (!decide (a = b)),H):=by simp [xBin,binV]
@[simp] theorem xBin_lss:xBin .lss ib (.int q a) (.int q b) H = some (.bool (decide (a < b)),H):=by simp [xBin,binV]
@[simp] theorem xBin_leq:xBin .leq ib (.int q a) (.int q b) H = some (.bool (decide (a ≤ b)),H):=by simp [xBin,binV]
@[simp] theorem xBin_gtr:xBin .gtr ib (.int q a) (.int q b) H = some (.bool (decide (b < a)),H):=by simp [xBin,binV]
@[simp] theorem xBin_geq:xBin .geq ib (.int q a) (.int q b) H = some (.bool (decide (b ≤ a)),H):=by simp [xBin,binV]
@[simp] theorem xBin_seql (a b:ByteArray):xBin .eql ib (.str a) (.str b) H = some (.bool (decide (a = b)),H):=by simp [xBin,binV]
@[simp] theorem xBin_sneq (a b:ByteArray):xBin .neq ib (.str a) (.str b) H = some (.bool (!decide (a = b)),H):=by simp [xBin,binV]
@[simp] theorem xBin_sadd (a b:ByteArray):xBin .add ib (.str a) (.str b) H = if a.size + b.size ≤ maxLen then some (.str (a ++ b),H) else none:=by by_cases h:a.size + b.size ≤ maxLen <;> simp [xBin,binV,h]
@[simp] theorem xBin_beql (a b:Bool):xBin .eql true (.bool a) (.bool b) H = some (.bool (a == b),H):=by simp [xBin,binV]
@[simp] theorem xBin_bneq (a b:Bool):xBin .neq true (.bool a) (.bool b) H = some (.bool (!(a == b)),H):=by simp [xBin,binV]
end
@[simp] theorem xEq_agg (ng:Bool) (p:List (Nat × LK)) (x y:List AV):xEq ng p (.agg x) (.agg y) H = ob ((planA x y p).map fun b=>.bool (b != ng)) fun v=>some (v,H):=rfl
@[simp] theorem planA_nil (x y:List AV):planA x y [] = some true:=rfl
@[simp] theorem planA_cons (x y:List AV) (o:Nat) (k:LK) (p:List (Nat × LK)):planA x y ((o,k) :: p) = (x[o]?).bind fun u=>(y[o]?).bind fun v=>(leafA k u v).bind fun b=>(planA x y p).map fun c=>b && c:=rfl
@[simp] theorem leafA_int (q:IntKind) (a b:Int):leafA .int (.int q a) (.int q b) = some (decide (a = b)):=by simp [leafA]
@[simp] theorem leafA_str (a b:ByteArray):leafA .str (.str a) (.str b) = some (decide (a = b)):=rfl
@[simp] theorem leafA_bool (a b:Bool):leafA .bool (.bool a) (.bool b) = some (a == b):=rfl
@[simp] theorem xSix_str (s:ByteArray) (q:IntKind) (i:Int):xSix (.str s) (.int q i) H = ob (sixV (.str s) (.int q i)) fun v=>some (v,H):=rfl
@[simp] theorem xSsl_str (s:ByteArray) (lo hi:Option AV):xSsl (.str s) lo hi H = ob (ixO lo) fun l=>ob (ixO hi) fun h=>ob (sslV s l h) fun v=>some (v,H):=rfl
@[simp] theorem xRng_str (d:Nat) (s:ByteArray):xRng d (.str s) H = some (.ref d (nv H d) (.p 0),upd H d (some (.obj (nv H d) (.siter s 0)))):=rfl
def nxB (H:Heap) (k ver:Nat):Option Blk → Option (AV × Heap)
 | some (.obj v (.siter s pos))=>if v = ver then (if pos < s.size then some (.tup [.bool true,.int .i64 pos,.int .i32 (Utf8.decode s pos).1],upd H k (some (.obj ver (.siter s (pos + (Utf8.decode s pos).2))))) else some (.tup [.bool false],H)) else none
 | _=>none
@[simp] theorem nxB_obj (v:Nat) (s:ByteArray) (pos:Nat):nxB H k ver (some (.obj v (.siter s pos))) = if v = ver then (if pos < s.size then some (.tup [.bool true,.int .i64 pos,.int .i32 (Utf8.decode s pos).1],upd H k (some (.obj ver (.siter s (pos + (Utf8.decode s pos).2))))) else some (.tup [.bool false],H)) else none:=rfl
@[simp] theorem xNxt_ref:xNxt (.ref k ver (.p 0)) H = nxB H k ver (H k):=by unfold xNxt nxtV nxB; rfl
def nilB (ver:Nat) (K:Bool → Prop):Option Blk → Prop
 | some (.row v _ _ rows)=>v = ver ∧ K false ∧ (rows = [] → K true)
 | some (.froz v rows)=>v = ver ∧ K false ∧ (rows = [] → K true)
 | _=>False
theorem sNil_sl {K:Kt (St → Prop)} (ng:Bool) (rows:List (List AV)) (d:Option Nat) (τ:Nat → AV) (g:G) (h1:K.v (St.put ⟨τ,H,g⟩ d (.bool ng) H)) (h2:rows = [] → K.v (St.put ⟨τ,H,g⟩ d (.bool (!ng)) H)):@sNil ng (.sl rows) d ⟨τ,H,g⟩ K:=by
 cases ng
 ·exact ⟨h1,h2⟩
 ·exact ⟨h1,h2⟩
@[simp] theorem sNil_slt {K:Kt (St → Prop)} (ng:Bool) (rows:List (List AV)) (d:Option Nat) (s:St):@sNil ng (.slt rows) d s K = K.v (s.put d (.bool ng) s.H):=by cases ng <;> rfl
@[simp] theorem sNil_nils {K:Kt (St → Prop)} (ng:Bool) (d:Option Nat) (s:St):@sNil ng .nils d s K = K.v (s.put d (.bool (!ng)) s.H):=by cases ng <;> rfl
@[simp] theorem xApp_eq (P:Program) (e b:Nat) (d:Option Nat) (x y:AV):xApp P e n b d x y H = ob (srcA H n y) fun new=>appV P H e n b d new x:=rfl
@[simp] theorem srcA_sl (rows:List (List AV)):srcA H n (.sl rows) = if (rows.all fun r=>r.length == n && okCells r) then some rows else none:=rfl
@[simp] theorem srcA_slt (rows:List (List AV)):srcA H n (.slt rows) = if (rows.all fun r=>r.length == n && okCells r) then some rows else none:=rfl
@[simp] theorem srcA_nils:srcA H n .nils = some []:=rfl
@[simp] theorem srcA_ref:srcA H n (.ref k ver .o) = srcB ver n (H k):=by unfold srcA srcB; rfl
@[simp] theorem appV_ref (P:Program) (e b:Nat) (d:Option Nat) (new:List (List AV)):appV P H e n b d new (.ref k ver .o) = appB H e n b k ver new (H k):=by unfold appV appB; rfl
@[simp] theorem appV_nils (P:Program) (e b d:Nat) (new:List (List AV)):appV P H e n b (some d) new .nils = oif (decide (new.length * b ≤ 140737488355328)) (some (.ref d (nv H d) .o,upd H d (some (.row (nv H d) e n new)))):=rfl
@[simp] theorem frzs_nil:frzs H [] = H:=rfl
@[simp] theorem frzs_cons (x:AV) (l:List AV):frzs H (x :: l) = frzs (frz H x) l:=rfl
@[simp] theorem frz_agg (cs:List AV):frz H (.agg cs) = cs.foldl frz0 H:=rfl
@[simp] theorem frz_func (f:FuncId) (cs:List AV):frz H (.func f cs) = cs.foldl frzB H:=rfl
@[simp] theorem frz_tup (cs:List AV):frz H (.tup cs) = cs.foldl frz1 H:=rfl
@[simp] theorem frz_int (q:IntKind) (i:Int):frz H (.int q i) = H:=rfl
@[simp] theorem frz_bool (b:Bool):frz H (.bool b) = H:=rfl
@[simp] theorem frz_str (b:ByteArray):frz H (.str b) = H:=rfl
@[simp] theorem frz_sl (r:List (List AV)):frz H (.sl r) = H:=rfl
@[simp] theorem frz_slt (r:List (List AV)):frz H (.slt r) = H:=rfl
@[simp] theorem frz_nils:frz H .nils = H:=rfl
@[simp] theorem frz_nilf:frz H .nilf = H:=rfl
@[simp] theorem frz_nilp:frz H .nilp = H:=rfl
@[simp] theorem frz_yld:frz H .yld = H:=rfl
@[simp] theorem frz_elt (r:List AV):frz H (.elt r off) = H:=rfl
@[simp] theorem frz_p:frz H (.ref k ver (.p off)) = H:=rfl
@[simp] theorem frz_o:frz H (.ref k ver .o) = f0B H k ver (H k):=by unfold frz frz1 frz0 f0B; rfl
@[simp] theorem frz1_agg (cs:List AV):frz1 H (.agg cs) = cs.foldl frz0 H:=rfl
@[simp] theorem frz1_func (f:FuncId) (cs:List AV):frz1 H (.func f cs) = cs.foldl frzB H:=rfl
@[simp] theorem frz1_int (q:IntKind) (i:Int):frz1 H (.int q i) = H:=rfl
@[simp] theorem frz1_bool (b:Bool):frz1 H (.bool b) = H:=rfl
@[simp] theorem frz1_str (b:ByteArray):frz1 H (.str b) = H:=rfl
@[simp] theorem frz1_sl (r:List (List AV)):frz1 H (.sl r) = H:=rfl
@[simp] theorem frz1_slt (r:List (List AV)):frz1 H (.slt r) = H:=rfl
@[simp] theorem frz1_nils:frz1 H .nils = H:=rfl
@[simp] theorem frz1_nilf:frz1 H .nilf = H:=rfl
@[simp] theorem frz1_nilp:frz1 H .nilp = H:=rfl
@[simp] theorem frz1_elt (r:List AV):frz1 H (.elt r off) = H:=rfl
@[simp] theorem frz1_p:frz1 H (.ref k ver (.p off)) = H:=rfl
@[simp] theorem frz1_o:frz1 H (.ref k ver .o) = f0B H k ver (H k):=by unfold frz1 frz0 f0B; rfl
@[simp] theorem frz0_int (q:IntKind) (i:Int):frz0 H (.int q i) = H:=rfl
@[simp] theorem frz0_bool (b:Bool):frz0 H (.bool b) = H:=rfl
@[simp] theorem frz0_str (b:ByteArray):frz0 H (.str b) = H:=rfl
@[simp] theorem frz0_sl (r:List (List AV)):frz0 H (.sl r) = H:=rfl
@[simp] theorem frz0_slt (r:List (List AV)):frz0 H (.slt r) = H:=rfl
@[simp] theorem frz0_nils:frz0 H .nils = H:=rfl
@[simp] theorem frz0_nilf:frz0 H .nilf = H:=rfl
@[simp] theorem frz0_nilp:frz0 H .nilp = H:=rfl
@[simp] theorem frz0_yld:frz0 H .yld = H:=rfl
@[simp] theorem frz0_elt (r:List AV):frz0 H (.elt r off) = H:=rfl
@[simp] theorem frz0_func (f:FuncId) (cs:List AV):frz0 H (.func f cs) = H:=rfl
@[simp] theorem frz0_p:frz0 H (.ref k ver (.p off)) = H:=rfl
@[simp] theorem frz0_o:frz0 H (.ref k ver .o) = f0B H k ver (H k):=by unfold frz0 f0B; rfl
@[simp] theorem frzB_int (q:IntKind) (i:Int):frzB H (.int q i) = H:=rfl
@[simp] theorem frzB_bool (b:Bool):frzB H (.bool b) = H:=rfl
@[simp] theorem frzB_str (b:ByteArray):frzB H (.str b) = H:=rfl
@[simp] theorem frzB_sl (r:List (List AV)):frzB H (.sl r) = H:=rfl
@[simp] theorem frzB_slt (r:List (List AV)):frzB H (.slt r) = H:=rfl
@[simp] theorem frzB_nils:frzB H .nils = H:=rfl
@[simp] theorem frzB_yld:frzB H .yld = H:=rfl
@[simp] theorem frzB_elt (r:List AV):frzB H (.elt r off) = H:=rfl
@[simp] theorem frzB_func (f:FuncId) (cs:List AV):frzB H (.func f cs) = H:=rfl
@[simp] theorem frzB_p:frzB H (.ref k ver (.p off)) = fbB H k ver (H k):=by unfold frzB fbB; rfl
@[simp] theorem frzB_o:frzB H (.ref k ver .o) = f0B H k ver (H k):=by unfold frzB frz0 f0B; rfl
@[simp] theorem pur_agg (cs:List AV):pur H (.agg cs) = .agg (cs.map (pur0 H)):=rfl
@[simp] theorem pur_func (f:FuncId) (cs:List AV):pur H (.func f cs) = .func f (cs.map (pur0 H)):=rfl
@[simp] theorem pur_tup (cs:List AV):pur H (.tup cs) = .tup (cs.map (pur1 H)):=rfl
@[simp] theorem pur1_agg (cs:List AV):pur1 H (.agg cs) = .agg (cs.map (pur0 H)):=rfl
@[simp] theorem pur1_func (f:FuncId) (cs:List AV):pur1 H (.func f cs) = .func f (cs.map (pur0 H)):=rfl
@[simp] theorem pur_int (q:IntKind) (i:Int):pur H (.int q i) = .int q i:=rfl
@[simp] theorem pur_bool (b:Bool):pur H (.bool b) = .bool b:=rfl
@[simp] theorem pur_str (b:ByteArray):pur H (.str b) = .str b:=rfl
@[simp] theorem pur_sl (r:List (List AV)):pur H (.sl r) = .sl r:=rfl
@[simp] theorem pur_slt (r:List (List AV)):pur H (.slt r) = .sl r:=rfl
@[simp] theorem pur_nils:pur H .nils = .sl []:=rfl
@[simp] theorem pur_yld:pur H .yld = .yld:=rfl
@[simp] theorem pur_nilf:pur H .nilf = .nilf:=rfl
@[simp] theorem pur_nilp:pur H .nilp = .nilp:=rfl
@[simp] theorem pur_elt (r:List AV):pur H (.elt r off) = .elt r off:=rfl
@[simp] theorem pur_o:pur H (.ref k ver .o) = p0o k ver (H k):=by unfold pur pur1 pur0 p0o; rfl
@[simp] theorem pur_p:pur H (.ref k ver (.p off)) = p0p k ver off (H k):=by unfold pur pur1 pur0 p0p; rfl
@[simp] theorem pur1_int (q:IntKind) (i:Int):pur1 H (.int q i) = .int q i:=rfl
@[simp] theorem pur1_bool (b:Bool):pur1 H (.bool b) = .bool b:=rfl
@[simp] theorem pur1_str (b:ByteArray):pur1 H (.str b) = .str b:=rfl
@[simp] theorem pur1_sl (r:List (List AV)):pur1 H (.sl r) = .sl r:=rfl
@[simp] theorem pur1_slt (r:List (List AV)):pur1 H (.slt r) = .sl r:=rfl
@[simp] theorem pur1_nils:pur1 H .nils = .sl []:=rfl
@[simp] theorem pur1_o:pur1 H (.ref k ver .o) = p0o k ver (H k):=by unfold pur1 pur0 p0o; rfl
@[simp] theorem pur0_int (q:IntKind) (i:Int):pur0 H (.int q i) = .int q i:=rfl
@[simp] theorem pur0_bool (b:Bool):pur0 H (.bool b) = .bool b:=rfl
@[simp] theorem pur0_str (b:ByteArray):pur0 H (.str b) = .str b:=rfl
@[simp] theorem pur0_sl (r:List (List AV)):pur0 H (.sl r) = .sl r:=rfl
@[simp] theorem pur0_slt (r:List (List AV)):pur0 H (.slt r) = .sl r:=rfl
@[simp] theorem pur0_nils:pur0 H .nils = .sl []:=rfl
@[simp] theorem pur0_nilf:pur0 H .nilf = .nilf:=rfl
@[simp] theorem pur0_nilp:pur0 H .nilp = .nilp:=rfl
@[simp] theorem pur0_yld:pur0 H .yld = .yld:=rfl
@[simp] theorem pur0_elt (r:List AV):pur0 H (.elt r off) = .elt r off:=rfl
@[simp] theorem pur0_func (f:FuncId) (cs:List AV):pur0 H (.func f cs) = .func f cs:=rfl
@[simp] theorem pur0_o:pur0 H (.ref k ver .o) = p0o k ver (H k):=by unfold pur0 p0o; rfl
@[simp] theorem pur0_p:pur0 H (.ref k ver (.p off)) = p0p k ver off (H k):=by unfold pur0 p0p; rfl
def isY:AV → Bool
 | .yld=>true
 | _=>false
@[simp] theorem hasY_nil:hasY [] = false:=rfl
@[simp] theorem hasY_cons (x:AV) (l:List AV):hasY (x :: l) = (isY x || hasY l):=by cases x <;> rfl
@[simp] theorem isY_agg (c:List AV):isY (.agg c) = false:=rfl
@[simp] theorem isY_tup (c:List AV):isY (.tup c) = false:=rfl
@[simp] theorem isY_int (q:IntKind) (i:Int):isY (.int q i) = false:=rfl
@[simp] theorem isY_bool (b:Bool):isY (.bool b) = false:=rfl
@[simp] theorem isY_str (b:ByteArray):isY (.str b) = false:=rfl
@[simp] theorem isY_sl (r:List (List AV)):isY (.sl r) = false:=rfl
@[simp] theorem isY_slt (r:List (List AV)):isY (.slt r) = false:=rfl
@[simp] theorem isY_nils:isY .nils = false:=rfl
@[simp] theorem isY_elt (r:List AV):isY (.elt r off) = false:=rfl
@[simp] theorem isY_ref (r:RefK):isY (.ref k ver r) = false:=rfl
@[simp] theorem isY_func (f:FuncId) (c:List AV):isY (.func f c) = false:=rfl
@[simp] theorem isY_nilf:isY .nilf = false:=rfl
@[simp] theorem isY_nilp:isY .nilp = false:=rfl
@[simp] theorem isY_yld:isY .yld = true:=rfl
end
attribute [simp] closed closedL closedLL argT subT subA Blk.ver
section
variable (l : List (Nat × AV)) (h : List (Nat × Blk)) (i j : Nat)
@[simp] theorem look_nil:look [] j = .any:=rfl
@[simp] theorem look_cons (v:AV):look ((i,v) :: l) j = if i = j then v else look l j:=rfl
attribute [simp] look_ins
@[simp] theorem lookB_nil:lookB [] j = none:=rfl
@[simp] theorem lookB_cons (v:Blk):lookB ((i,v) :: h) j = if i = j then some v else lookB h j:=rfl
@[simp] theorem hls_nil (vs:Nat → Nat):hls [] vs j = some (.dead (vs j)):=rfl
@[simp] theorem hls_cons (v:Blk) (vs:Nat → Nat):hls ((i,v) :: h) vs j = if i = j then some v else hls h vs j:=by
 unfold hls
 rw [lookB_cons]
 by_cases e:i = j <;> simp [e]
@[simp] theorem insH_nil (x:Blk):insH [] j x = [(j,x)]:=rfl
@[simp] theorem insH_cons (v x:Blk):insH ((i,v) :: h) j x = if i = j then (j,x) :: h else (i,v) :: insH h j x:=rfl
@[simp] theorem nv_nil (vs:Nat → Nat):nv (hls [] vs) j = vs j + 1:=rfl
@[simp] theorem nv_cons (v:Blk) (vs:Nat → Nat):nv (hls ((i,v) :: h) vs) j = if i = j then v.ver + 1 else nv (hls h vs) j:=by
 unfold nv
 rw [hls_cons]
 by_cases e:i = j <;> simp [e]
end
@[simp] theorem retK_ret (P:Program) (rs:List ResultVar) (r:AV) (s:St):retK P rs r .ret s = retW P rs r s:=rfl
@[simp] theorem retK_normal (P:Program) (rs:List ResultVar) (r:AV) (s:St):retK P rs r .normal s = retW P rs r s:=rfl
theorem retW_eq (P:Program) (rs:List ResultVar) (r:AV) (s:St):retW P rs r s = bindO (resV P s.τ s.H rs) fun v=>closed (pur (frz s.H v) v) = true ∧ pur (frz s.H v) v = r:=rfl
@[simp] theorem retYK_ret (P:Program) (rs:List ResultVar) (rt rf:AV) (rest:List (List AV)) (s:St):retYK P rs rt rf rest .ret s = retYW P rs rt rf rest s:=rfl
@[simp] theorem retYK_normal (P:Program) (rs:List ResultVar) (rt rf:AV) (rest:List (List AV)) (s:St):retYK P rs rt rf rest .normal s = retYW P rs rt rf rest s:=rfl
@[simp] theorem retHK_ret (P:Program) (rs:List ResultVar) (Q:AV → List (Nat × Blk) → Prop) (s:St):retHK P rs Q .ret s = retHW P rs Q s:=rfl
@[simp] theorem retHK_normal (P:Program) (rs:List ResultVar) (Q:AV → List (Nat × Blk) → Prop) (s:St):retHK P rs Q .normal s = retHW P rs Q s:=rfl
theorem wrap64 {x:Int} (h:-9223372036854775808 ≤ x) (h2:x < 9223372036854775808):IntKind.wrap .i64 x = x:=by
 rw [IntKind.wrap_i64]
 omega
@[simp] theorem setL_whole {cells vs:List AV} (h:vs.length = cells.length):setL cells 0 vs = vs:=by simp [setL,h]
@[simp] theorem setL_succ (c:AV) (cs vs:List AV) (n:Nat):setL (c :: cs) (n + 1) vs = c :: setL cs n vs:=by
 unfold setL
 simp only [Nat.add_one_ne_zero,false_and,if_false,List.take_succ_cons,List.cons_append]
 split
 ·rename_i h
  obtain ⟨h0,h⟩:=h
  subst h0
  simp [h,Nat.add_comm]
 ·rename_i h
  have e:n + 1 + vs.length = (n + vs.length) + 1:=by omega
  rw [e]
  rfl
@[simp] theorem setL_zero_one (c x:AV) (cs:List AV):setL (c :: cs) 0 [x] = x :: cs:=by
 unfold setL
 split
 ·rename_i h
  have:cs = []:=by
   have:=h.2
   simp at this
   exact this
  rw [this]
 ·simp
@[simp] theorem setL_zero_cons (c x y:AV) (cs r:List AV):setL (c :: cs) 0 (x :: y :: r) = x :: setL cs 0 (y :: r):=by
 unfold setL
 simp only [true_and,List.length_cons,List.take_zero,List.nil_append,Nat.zero_add]
 by_cases h:r.length + 1 + 1 = cs.length + 1
 ·have h2:r.length + 1 = cs.length:=by omega
  simp [h,h2]
 ·have h2:¬ r.length + 1 = cs.length:=by omega
  simp [h2]
@[simp] theorem closedLL_sl_map {α:Type} (enc:α → List AV) (h:∀ x,closedL (enc x) = true) (l:List α):closedLL (l.map enc) = true:=closedLL_map h l
section
@[simp] theorem compat_eq (a b c d:List Nat):compat (a,b) (c,d) = ((b.all fun k=>!c.contains k) && d.all fun k=>!a.contains k):=rfl
@[simp] theorem occ_ref (k v:Nat) (r:RefK):occ (.ref k v r) = [k]:=by simp [occ]
@[simp] theorem occ_int (k:IntKind) (v:Int):occ (.int k v) = []:=by simp [occ]
@[simp] theorem occ_bool (v:Bool):occ (.bool v) = []:=by simp [occ]
@[simp] theorem occ_str (v:ByteArray):occ (.str v) = []:=by simp [occ]
@[simp] theorem occ_nils:occ .nils = []:=by simp [occ]
@[simp] theorem occ_nilf:occ .nilf = []:=by simp [occ]
@[simp] theorem occ_nilp:occ .nilp = []:=by simp [occ]
@[simp] theorem occ_yld:occ .yld = []:=by simp [occ]
@[simp] theorem occ_agg (cs:List AV):occ (.agg cs) = occL cs:=by simp [occ]
@[simp] theorem occ_elt (cs:List AV) (o:Nat):occ (.elt cs o) = occL cs:=by simp [occ]
@[simp] theorem occ_func (f:FuncId) (cs:List AV):occ (.func f cs) = occL cs:=by simp [occ]
@[simp] theorem occ_sl (r:List (List AV)):occ (.sl r) = occLL r:=by simp [occ]
@[simp] theorem occ_slt (r:List (List AV)):occ (.slt r) = occLL r:=by simp [occ]
@[simp] theorem occL_nil:occL [] = []:=by simp [occL]
@[simp] theorem occL_cons (c:AV) (cs:List AV):occL (c :: cs) = occ c ++ occL cs:=by simp [occL]
@[simp] theorem occLL_nil:occLL [] = []:=by simp [occLL]
@[simp] theorem occLL_cons (c:List AV) (cs:List (List AV)):occLL (c :: cs) = occL c ++ occLL cs:=by simp [occLL]
@[simp] theorem occL_off {cs:List AV} (h:closedL cs = true):occL cs = []:=occL_closed h
@[simp] theorem occLL_off {cs:List (List AV)} (h:closedLL cs = true):occLL cs = []:=occLL_closed h
end
@[simp] theorem ixRows_zero (rows:List (List AV)) (n:Nat):ixRows rows 0 n = (rows[0]?).bind fun r=>if r.length = n then some (.elt r 0) else none:=ixRows_nat n rows 0
@[simp] theorem ixRows_one (rows:List (List AV)) (n:Nat):ixRows rows 1 n = (rows[1]?).bind fun r=>if r.length = n then some (.elt r 0) else none:=ixRows_nat n rows 1
@[simp] theorem ixRows_two (rows:List (List AV)) (n:Nat):ixRows rows 2 n = (rows[2]?).bind fun r=>if r.length = n then some (.elt r 0) else none:=ixRows_nat n rows 2
@[simp] theorem ixRows_three (rows:List (List AV)) (n:Nat):ixRows rows 3 n = (rows[3]?).bind fun r=>if r.length = n then some (.elt r 0) else none:=ixRows_nat n rows 3
@[simp] theorem ixRows_four (rows:List (List AV)) (n:Nat):ixRows rows 4 n = (rows[4]?).bind fun r=>if r.length = n then some (.elt r 0) else none:=ixRows_nat n rows 4
@[simp] theorem ixRows_five (rows:List (List AV)) (n:Nat):ixRows rows 5 n = (rows[5]?).bind fun r=>if r.length = n then some (.elt r 0) else none:=ixRows_nat n rows 5
@[simp] theorem ixRows_six (rows:List (List AV)) (n:Nat):ixRows rows 6 n = (rows[6]?).bind fun r=>if r.length = n then some (.elt r 0) else none:=ixRows_nat n rows 6
@[simp] theorem ixRows_seven (rows:List (List AV)) (n:Nat):ixRows rows 7 n = (rows[7]?).bind fun r=>if r.length = n then some (.elt r 0) else none:=ixRows_nat n rows 7
@[simp] theorem updO_some (τ:Nat → AV) (d:Nat) (v:AV):updO τ (some d) v = upd τ d v:=rfl
@[simp] theorem updO_none (τ:Nat → AV) (v:AV):updO τ none v = τ:=rfl
@[simp] theorem okY_yld:okY .yld = true:=rfl
@[simp] theorem okY_agg (cs:List AV):okY (.agg cs) = closed (.agg cs):=rfl
@[simp] theorem okY_elt (cs:List AV) (o:Nat):okY (.elt cs o) = closed (.elt cs o):=rfl
@[simp] theorem okY_int (k:IntKind) (i:Int):okY (.int k i) = true:=rfl
@[simp] theorem okY_bool (b:Bool):okY (.bool b) = true:=rfl
@[simp] theorem okY_str (b:ByteArray):okY (.str b) = true:=rfl
@[simp] theorem okY_sl (r:List (List AV)):okY (.sl r) = closed (.sl r):=rfl
@[simp] theorem closed_agg (cs:List AV):closed (.agg cs) = closedL cs:=by simp [closed]
@[simp] theorem closed_elt (cs:List AV) (o:Nat):closed (.elt cs o) = closedL cs:=by simp [closed]
@[simp] theorem closed_sl (r:List (List AV)):closed (.sl r) = closedLL r:=by simp [closed]
theorem slcV_to (n:Nat) (rows:List (List AV)) (k:IntKind) (b:Int) (m:Nat) (e:b = m) (h:m ≤ rows.length) (hr:∀ r ∈ rows,r.length = n):slcV n rows none (some (k,b)) = some (.sl (rows.take m)):=by
 subst e
 have:(rows.all fun r=>r.length == n) = true:=List.all_eq_true.2 fun r hx=>by simp [hr r hx]
 simp [slcV,this]
 rw [decide_eq_true h]; rfl
theorem slcV_from (n:Nat) (rows:List (List AV)) (k:IntKind) (a:Int) (m:Nat) (e:a = m) (h:m ≤ rows.length) (hr:∀ r ∈ rows,r.length = n):slcV n rows (some (k,a)) none = some (.sl (rows.drop m)):=by
 subst e
 have:(rows.all fun r=>r.length == n) = true:=List.all_eq_true.2 fun r hx=>by simp [hr r hx]
 simp [slcV,this]
 rw [List.take_of_length_le (by simp)]
 rw [decide_eq_true h]; rfl
@[simp] theorem retRK_ret (P:Program) (rs:List ResultVar) (t:TypeId) (sz:Nat) (rows:List (List AV)) (s:St):retRK P rs t sz rows .ret s = retRW P rs t sz rows s:=rfl
@[simp] theorem retRK_normal (P:Program) (rs:List ResultVar) (t:TypeId) (sz:Nat) (rows:List (List AV)) (s:St):retRK P rs t sz rows .normal s = retRW P rs t sz rows s:=rfl
theorem retRW_of (P:Program) (rs:List ResultVar) (t:TypeId) (sz:Nat) (rows:List (List AV)) (s:St) (k ver:Nat) (h1:resV P s.τ s.H rs = some (.ref k ver .o)) (h2:s.H k = some (.row ver t sz rows)):retRW P rs t sz rows s:=.inl ⟨k,ver,h1,h2⟩
theorem retRW_nil (P:Program) (rs:List ResultVar) (t:TypeId) (sz:Nat) (s:St) (h1:resV P s.τ s.H rs = some .nils) (h2:0 < sz):retRW P rs t sz [] s:=.inr ⟨h1,rfl,h2⟩
@[simp] theorem xNeg_int (q:IntKind) (i:Int) (H:Heap):xNeg (.int q i) H = some (.int q (q.wrap (0 - i)),H):=rfl
@[simp] theorem xSl3_sl (n:Nat) (rows:List (List AV)) (q q':IntKind) (i j:Int) (H:Heap):xSl3 n (.sl rows) (.int q i) (.int q' j) H = oif (decide (i = rows.length ∧ j = rows.length)) (oif (rows.all fun r=>r.length == n) (some (.sl rows,H))):=rfl
@[simp] theorem xSl3_nils (n:Nat) (q q':IntKind) (i j:Int) (H:Heap):xSl3 n .nils (.int q i) (.int q' j) H = oif (decide (i = 0 ∧ j = 0)) (some (.sl [],H)):=by simp [xSl3,rowsA,intV,oif,ob]
@[simp] theorem xSl3_ref (n k ver:Nat) (q q':IntKind) (i j:Int) (H:Heap):xSl3 n (.ref k ver .o) (.int q i) (.int q' j) H = ob (rowsB ver (H k)) fun rows=>oif (decide (i = rows.length ∧ j = rows.length)) (oif (rows.all fun r=>r.length == n) (some (.sl rows,H))):=by
 unfold xSl3 rowsA rowsB intV; rfl
def cfp (d f:Nat) (l:List AV):List Nat × List Nat:=([d] ++ withM (occ (.func f []) ++ occL l),[d] ++ withM (occ (.func f []) ++ occL l))
@[simp] theorem cfp_eq (d f:Nat) (l:List AV):cfp d f l = ([d] ++ withM (occ (.func f []) ++ occL l),[d] ++ withM (occ (.func f []) ++ occL l)):=rfl
@[simp] theorem withM_eq (l:List Nat):withM l = l ++ [(12,37)].filterMap fun p:Nat × Nat=>if l.contains p.1 then some p.2 else none:=rfl
end Go.Am
namespace Go.Am
open Go.RowKit
mutual
def nrm:AV → AV
 | .nils=>.sl []
 | .agg cs=>.agg (nrmL cs)
 | .tup cs=>.tup (nrmL cs)
 | .sl rows=>.sl (nrmLL rows)
 | a=>a
def nrmL:List AV → List AV
 | []=>[]
 | a :: l=>nrm a :: nrmL l
def nrmLL:List (List AV) → List (List AV)
 | []=>[]
 | r :: l=>nrmL r :: nrmLL l
end
theorem nrmL_map:∀ l,nrmL l = l.map nrm
 | []=>rfl
 | a :: l=>by simp [nrmL,nrmL_map l]
theorem nrmLL_map:∀ l,nrmLL l = l.map nrmL
 | []=>rfl
 | a :: l=>by simp [nrmLL,nrmLL_map l]
theorem R.nrm {C:Ctx} {a:AV} {v:Value} (h:R C a v):R C (Am.nrm a) v:=by
 induction h with
 | agg cs vs hl hh ih=>
  unfold Am.nrm
  refine .agg _ vs (by rw [nrmL_map]; simpa using hl) fun i a ha=>?_
  rw [nrmL_map,List.getElem?_map] at ha
  obtain ⟨b,hb,rfl⟩:=Option.map_eq_some_iff.1 ha
  exact ih i b hb
 | tup cs vs hl hh ih=>
  unfold Am.nrm
  refine .tup _ vs (by rw [nrmL_map]; simpa using hl) fun i a ha=>?_
  rw [nrmL_map,List.getElem?_map] at ha
  obtain ⟨b,hb,rfl⟩:=Option.map_eq_some_iff.1 ha
  exact ih i b hb
 | sl rows A cap g off sz f hA hcap hmax hsz hc hone hh ih=>
  unfold Am.nrm
  have e:(nrmLL rows).length = rows.length:=by rw [nrmLL_map]; simp
  have:=R.sl (C:=C) (nrmLL rows) A cap g off sz f (fun hne=>hA fun e2=>hne (by rw [e2]; rfl)) (by rw [e]; exact hcap) (by rw [e]; exact hmax) (fun r hr=>by
   rw [nrmLL_map] at hr
   obtain ⟨q,hq,rfl⟩:=List.mem_map.1 hr
   rw [nrmL_map,List.length_map]
   exact hsz q hq) (by rw [e]; exact hc) hone (fun i r hr j a ha=>by
   rw [nrmLL_map,List.getElem?_map] at hr
   obtain ⟨q,hq,rfl⟩:=Option.map_eq_some_iff.1 hr
   rw [nrmL_map,List.getElem?_map] at ha
   obtain ⟨b,hb,rfl⟩:=Option.map_eq_some_iff.1 ha
   exact ih i q hq j b hb)
  rw [e] at this
  exact this
 | nils=>exact R.nil_sl .nils
 | _=>first | exact R.any _ | (unfold Am.nrm; constructor <;> assumption)
theorem Spec.nrm {P:Program} {f:FuncId} {args:List AV} {r:AV} (h:Spec P f (nrmL args) r):Spec P f args r where
 enters:=h.enters
 calls:=fun w S l vs hS hR=>h.calls w S l vs hS ⟨by rw [nrmL_map]; simpa using hR.1,fun i a ha=>by
  rw [nrmL_map,List.getElem?_map] at ha
  obtain ⟨b,hb,rfl⟩:=Option.map_eq_some_iff.1 ha
  exact (hR.2 i b hb).nrm⟩
theorem Spec.resN {P:Program} {f:FuncId} {args:List AV} {r r':AV} (h:Spec P f args r) (e:Am.nrm r = r'):Spec P f args r' where
 enters:=h.enters
 calls:=fun w S l vs hS hR=>(h.calls w S l vs hS hR).mono fun e' w' ⟨v,h1,h2,h3⟩=>⟨v,h1,h2,e ▸ h3.nrm⟩
section
variable {P : Program} {f : FuncId} {args caps args' : List AV} {d : Option Nat} {s : St} {K : Kt (St → Prop)} {r : AV}
theorem scall_nrm (h:Spec P f args' r) (e:nrmL ((args ++ caps).map (pur (frzs s.H args))) = args') (hc:closedL ((args ++ caps).map (pur (frzs s.H args))) = true) (k:K.v (s.put d r (frzs s.H args))):@sCall P (.func f caps) args d s K:=
 scall_pure (Spec.nrm (by rw [e]; exact h)) rfl hc k
end
end Go.Am
namespace Go.Am
open Go.RowKit
section
variable (σ : Nat → Nat) (K : Nat → Bool) (k v : Nat)
@[simp] theorem ren_ref (r:RefK):ren σ (.ref k v r) = .ref (σ k) v r:=rfl
@[simp] theorem ren_agg (cs:List AV):ren σ (.agg cs) = .agg (renL σ cs):=rfl
@[simp] theorem ren_tup (cs:List AV):ren σ (.tup cs) = .tup (renL σ cs):=rfl
@[simp] theorem ren_sl (r:List (List AV)):ren σ (.sl r) = .sl (renLL σ r):=rfl
@[simp] theorem ren_slt (r:List (List AV)):ren σ (.slt r) = .slt (renLL σ r):=rfl
@[simp] theorem ren_elt (r:List AV) (o:Nat):ren σ (.elt r o) = .elt (renL σ r) o:=rfl
@[simp] theorem ren_func (f:FuncId) (cs:List AV):ren σ (.func f cs) = .func f (renL σ cs):=rfl
@[simp] theorem ren_int (q:IntKind) (i:Int):ren σ (.int q i) = .int q i:=rfl
@[simp] theorem ren_bool (b:Bool):ren σ (.bool b) = .bool b:=rfl
@[simp] theorem ren_str (b:ByteArray):ren σ (.str b) = .str b:=rfl
@[simp] theorem ren_nils:ren σ .nils = .nils:=rfl
@[simp] theorem ren_nilp:ren σ .nilp = .nilp:=rfl
@[simp] theorem ren_nilf:ren σ .nilf = .nilf:=rfl
@[simp] theorem ren_any:ren σ .any = .any:=rfl
@[simp] theorem renL_nil:renL σ [] = []:=rfl
@[simp] theorem renL_cons (c:AV) (cs:List AV):renL σ (c :: cs) = ren σ c :: renL σ cs:=rfl
@[simp] theorem renLL_nil:renLL σ [] = []:=rfl
@[simp] theorem renLL_cons (c:List AV) (cs:List (List AV)):renLL σ (c :: cs) = renL σ c :: renLL σ cs:=rfl
@[simp] theorem renL_off {cs:List AV} (h:closedL cs = true):renL σ cs = cs:=renL_closed σ h
@[simp] theorem renLL_off {cs:List (List AV)} (h:closedLL cs = true):renLL σ cs = cs:=renLL_closed σ h
@[simp] theorem renL_app (a b:List AV):renL σ (a ++ b) = renL σ a ++ renL σ b:=by simp [renL_map]
@[simp] theorem okk_ref (r:RefK):okk K (.ref k v r) = K k:=rfl
@[simp] theorem okk_agg (cs:List AV):okk K (.agg cs) = okkL K cs:=rfl
@[simp] theorem okk_tup (cs:List AV):okk K (.tup cs) = okkL K cs:=rfl
@[simp] theorem okk_sl (r:List (List AV)):okk K (.sl r) = okkLL K r:=rfl
@[simp] theorem okk_slt (r:List (List AV)):okk K (.slt r) = okkLL K r:=rfl
@[simp] theorem okk_elt (r:List AV) (o:Nat):okk K (.elt r o) = okkL K r:=rfl
@[simp] theorem okk_func (f:FuncId) (cs:List AV):okk K (.func f cs) = okkL K cs:=rfl
@[simp] theorem okk_int (q:IntKind) (i:Int):okk K (.int q i) = true:=rfl
@[simp] theorem okk_bool (b:Bool):okk K (.bool b) = true:=rfl
@[simp] theorem okk_str (b:ByteArray):okk K (.str b) = true:=rfl
@[simp] theorem okk_nils:okk K .nils = true:=rfl
@[simp] theorem okk_nilp:okk K .nilp = true:=rfl
@[simp] theorem okk_nilf:okk K .nilf = true:=rfl
@[simp] theorem okkL_nil:okkL K [] = true:=rfl
@[simp] theorem okkL_cons (c:AV) (cs:List AV):okkL K (c :: cs) = (okk K c && okkL K cs):=rfl
@[simp] theorem okkLL_nil:okkLL K [] = true:=rfl
@[simp] theorem okkLL_cons (c:List AV) (cs:List (List AV)):okkLL K (c :: cs) = (okkL K c && okkLL K cs):=rfl
@[simp] theorem okkL_off {cs:List AV} (h:closedL cs = true):okkL K cs = true:=okkL_closed K h
@[simp] theorem okkLL_off {cs:List (List AV)} (h:closedLL cs = true):okkLL K cs = true:=okkLL_closed K h
@[simp] theorem okkL_app (a b:List AV):okkL K (a ++ b) = (okkL K a && okkL K b):=okkL_append
@[simp] theorem renB_box (t:TypeId) (cs:List AV):renB σ (.box v t cs) = .box v t (renL σ cs):=rfl
@[simp] theorem renB_row (t:TypeId) (sz:Nat) (rows:List (List AV)):renB σ (.row v t sz rows) = .row v t sz (renLL σ rows):=rfl
@[simp] theorem renB_froz (rows:List (List AV)):renB σ (.froz v rows) = .froz v (renLL σ rows):=rfl
@[simp] theorem renB_dead:renB σ (.dead v) = .dead v:=rfl
@[simp] theorem okB_box (t:TypeId) (cs:List AV):okB K (.box v t cs) = okkL K cs:=rfl
@[simp] theorem okB_row (t:TypeId) (sz:Nat) (rows:List (List AV)):okB K (.row v t sz rows) = okkLL K rows:=rfl
@[simp] theorem okB_froz (rows:List (List AV)):okB K (.froz v rows) = okkLL K rows:=rfl
@[simp] theorem asc_nil:asc [] k = k:=rfl
@[simp] theorem asc_cons (a b:Nat) (r:List (Nat × Nat)):asc ((a,b) :: r) k = if a = k then b else asc r k:=rfl
@[simp] theorem csa_nil:csa [] k = k:=rfl
@[simp] theorem csa_cons (a b:Nat) (r:List (Nat × Nat)):csa ((a,b) :: r) k = if b = k then a else csa r k:=rfl
@[simp] theorem inK_eq (l:List Nat):inK l k = l.contains k:=rfl
@[simp] theorem lentL_nil (L:List (Nat × Blk)) (ks:List (Nat × Nat)):lentL L ks [] = []:=rfl
@[simp] theorem lentL_cons (L:List (Nat × Blk)) (ks:List (Nat × Nat)) (p:Nat × Nat) (r:List (Nat × Nat)):lentL L ks (p :: r) = (p.2,renB (asc ks) ((lookB L p.1).getD (.dead 0))) :: lentL L ks r:=rfl
@[simp] theorem backL_nil (ks:List (Nat × Nat)):backL ks [] = []:=rfl
@[simp] theorem backL_cons (ks:List (Nat × Nat)) (p:Nat × Blk) (r:List (Nat × Blk)):backL ks (p :: r) = (csa ks p.1,renB (csa ks) p.2) :: backL ks r:=rfl
@[simp] theorem keys_nil:keys [] = []:=rfl
@[simp] theorem keys_cons (p:Nat × Blk) (r:List (Nat × Blk)):keys (p :: r) = p.1 :: keys r:=rfl
@[simp] theorem dropK_nil (ks:List Nat):dropK ks [] = []:=rfl
@[simp] theorem dropK_cons (ks:List Nat) (b:Blk) (r:List (Nat × Blk)):dropK ks ((k,b) :: r) = if inK ks k = true then dropK ks r else (k,b) :: dropK ks r:=rfl
@[simp] theorem nodupB_nil:nodupB [] = true:=rfl
@[simp] theorem nodupB_cons (l:List Nat):nodupB (k :: l) = (!inK l k && nodupB l):=rfl
@[simp] theorem ovr_nil (H:Heap):ovr [] H = H:=rfl
@[simp] theorem ovr_cons (b:Blk) (r:List (Nat × Blk)) (H:Heap):ovr ((k,b) :: r) H = upd (ovr r H) k (some b):=by
 funext j
 show (match (if k = j then some b else lookB r j) with | some b=>some b | none=>H j) = if j = k then some b else _
 by_cases e:k = j
 ·rw [if_pos e,if_pos e.symm]
 ·rw [if_neg e,if_neg fun h=>e h.symm]; rfl
end
@[simp] theorem lendOk_eq (L:List (Nat × Blk)) (lent nw:List (Nat × Nat)) (args:List AV):lendOk L lent nw args =
 (nodupB ((lent ++ nw).map (·.1)) && (nodupB ((lent ++ nw).map (·.2)) && ((lent.all fun p=>match lookB L p.1 with | some b=>okB (inK (lent.map (·.1))) b | none=>false) && args.all (okk (inK (lent.map (·.1))))))):=rfl
@[simp] theorem retOk_eq (ks:List (Nat × Nat)) (r:AV) (l':List (Nat × Blk)):retOk ks r l' = ((keys l').all (inK (ks.map (·.2))) && ((l'.all fun p=>okB (inK (keys l')) p.2) && okk (inK (keys l')) r)):=rfl
@[simp] theorem frzXs_nil (H:Heap):frzXs H [] = H:=rfl
@[simp] theorem frzXs_cons (H:Heap) (x:AV) (l:List AV):frzXs H (x :: l) = frzXs (frz (frzB H x) x) l:=rfl
@[simp] theorem frzB_agg (H:Heap) (cs:List AV):frzB H (.agg cs) = H:=rfl
def wrE (H:Heap) (k ver i off n:Nat) (x:List AV):Option Blk → Option Heap
 | some (.row v t sz rows)=>(rows[i]?).bind fun r=>if v = ver ∧ okCells x = true ∧ x.length = n ∧ off + n ≤ r.length then some (upd H k (some (.row v t sz (rows.set i (setL r off x))))) else none
 | _=>none
@[simp] theorem wrE_row (H:Heap) (k ver i off n v sz:Nat) (t:TypeId) (x:List AV) (rows:List (List AV)):wrE H k ver i off n x (some (.row v t sz rows)) = (rows[i]?).bind fun r=>if v = ver ∧ okCells x = true ∧ x.length = n ∧ off + n ≤ r.length then some (upd H k (some (.row v t sz (rows.set i (setL r off x))))) else none:=rfl
@[simp] theorem xStore_e (H:Heap) (n k ver i off:Nat) (y:AV):xStore n (.ref k ver (.e i off)) y H = ob (wrE H k ver i off n y.cells (H k)) fun H'=>some (.tup [],H'):=by
 unfold xStore wrV wrE
 dsimp only
 generalize H k = b
 cases b with
 | none=>rfl
 | some b=>
  cases b with
  | row v t sz rows=>
   dsimp only
   generalize rows[i]? = q
   cases q <;> rfl
  | _=>rfl
def nlB (ver:Nat):Option Blk → Bool
 | some (.box v _ _) | some (.fbox v _)=>v == ver
 | _=>false
def nlE (ver i:Nat):Option Blk → Bool
 | some (.row v _ _ rows)=>v == ver && decide (i < rows.length)
 | _=>false
section
variable (H : Heap) (k ver off v i : Nat) (t : TypeId) (sz : Nat) (cells : List AV) (rows : List (List AV))
@[simp] theorem nlB_box:nlB ver (some (.box v t cells)) = (v == ver):=rfl
@[simp] theorem nlB_fbox:nlB ver (some (.fbox v cells)) = (v == ver):=rfl
@[simp] theorem nlE_row:nlE ver i (some (.row v t sz rows)) = (v == ver && decide (i < rows.length)):=rfl
@[simp] theorem xNil_p:xNil (.ref k ver (.p off)) H = oif (nlB ver (H k)) (some (.ref k ver (.p off),H)):=by
 unfold xNil okPtr nlB
 rfl
@[simp] theorem xNil_e:xNil (.ref k ver (.e i off)) H = oif (nlE ver i (H k)) (some (.ref k ver (.e i off),H)):=by
 unfold xNil okPtr nlE
 rfl
end
theorem retHW_to {P:Program} {rs:List ResultVar} {Q:AV → List (Nat × Blk) → Prop} {τ:Nat → AV} {L:List (Nat × Blk)} {VS:Nat → Nat} {g:G} (l':List (Nat × Blk))
  (h:bindO (resV P τ (hls L VS) rs) fun v=>subA L l' ∧ Q v l'):retHW P rs Q ⟨τ,hls L VS,g⟩:=by
 unfold bindO at h
 cases e:resV P τ (hls L VS) rs with
 | none=>rw [e] at h; exact h.elim
 | some v=>rw [e] at h; exact ⟨false,v,L,VS,l',e,rfl,h.1,h.2⟩
def hasL (H:Heap):List (Nat × Blk) → Prop
 | []=>True
 | (k,b) :: r=>H k = some b ∧ b.live = true ∧ hasL H r
@[simp] theorem hasL_nil (H:Heap):hasL H [] = True:=rfl
@[simp] theorem hasL_cons (H:Heap) (k:Nat) (b:Blk) (r:List (Nat × Blk)):hasL H ((k,b) :: r) = (H k = some b ∧ b.live = true ∧ hasL H r):=rfl
@[simp] theorem live_box (v:Nat) (t:TypeId) (cs:List AV):(Blk.box v t cs).live = true:=rfl
@[simp] theorem live_row (v:Nat) (t:TypeId) (sz:Nat) (rows:List (List AV)):(Blk.row v t sz rows).live = true:=rfl
end Go.Am
namespace Go.Am
open Go.RowKit
def purD (H:Heap):AV → AV
 | .sl rows=>.sl (rows.map fun r=>r.map (pur H))
 | a=>a
def innD (H:Heap):AV → List AV
 | .ref k ver .o=>match H k with
  | some (.row _ _ _ rows)=>rows.flatten
  | _=>[]
 | _=>[]
theorem R.purD {C:Ctx} (hH:∀ k blk,C.H k = some blk → HRel C (C.own k) blk) {a:AV} {v:Value} (h:R C a v):R C (Am.purD C.H a) v:=by
 unfold Am.purD
 split
 ·rename_i rows
  cases h with
  | sl _ A cap g off sz f hA hcap hmax hsz hc hone h=>
   have e:(rows.map fun r=>r.map (Am.pur C.H)).length = rows.length:=by simp
   rw [← e] at hcap hmax hc ⊢
   refine .sl _ A cap g off sz f (fun hr=>hA fun e0=>hr (by rw [e0]; rfl)) hcap hmax (fun r hr=>?_) hc hone (fun i r hi j a ha=>?_)
   ·obtain ⟨q,hq,rfl⟩:=List.mem_map.1 hr
    rw [List.length_map]; exact hsz q hq
   ·rw [List.getElem?_map] at hi
    obtain ⟨q,hq,rfl⟩:=Option.map_eq_some_iff.1 hi
    rw [List.getElem?_map] at ha
    obtain ⟨b,hb,rfl⟩:=Option.map_eq_some_iff.1 ha
    exact R.pur hH (h i q hq j b hb)
 ·exact h
def retDW (P:Program) (rs:List ResultVar) (r:AV) (s:St):Prop:=bindO (resV P s.τ s.H rs) fun v=>
 closed (purD (frz (frzs s.H (innD s.H v)) v) (pur (frz (frzs s.H (innD s.H v)) v) v)) = true ∧ purD (frz (frzs s.H (innD s.H v)) v) (pur (frz (frzs s.H (innD s.H v)) v) v) = r
def retDK (P:Program) (rs:List ResultVar) (r:AV):Exit → St → Prop
 | .normal,s=>retDW P rs r s
 | .ret,s=>retDW P rs r s
 | _,_=>False
theorem Spec.of_awpD {P : Program} {f : FuncId} {fn : Func} {c : Code} {args : List AV} {r : AV} {s0 : St} (hle : St.le ⟨argτ args, fun _ => none, noG⟩ s0) (hf : P.funcs[f]? = some fn) (hb : fn.body = some c) (hname : (fn.name == "runtime.NumGoroutine") = false) (hok : codeOk fn.ntmps c = true) (hn : args.length ≤ fn.ntmps)
  (h:awp P c (retDK P fn.results.toList r) s0):Spec P f args r where
 enters:=fun as w=>by
  unfold callFunc
  simp only [Sem.run_bind,run_program,Result.andThen_ok,hf,hname,hb]
  simp
 calls:=fun w S l vs hS hvs=>by
  refine callsIn_of_wp_marks hf hb trivial ?_ rfl
  let E:Env:=⟨P,fn.ntmps,w,S,fun _=>False,noJ,l,⟨fun _=>none,fun _=>none,S,w,l⟩,fun _=>False,fun _=>False,false⟩
  have hrel:RelAt E ⟨argτ args,fun _=>none,noG⟩ { tmps:=vs.toArray ++ Array.replicate (fn.ntmps - vs.toArray.size) undef,defers:=[] } w S (fun _=>none) (fun _=>False) (fun _=>False) []:={
   fr:=⟨rfl,rfl,rfl,Nat.le_refl _,fun _ _ _=>rfl⟩
   hS:=fun b hb=>⟨hS b hb,id,.inl hb⟩
   hS0:=fun b hb=>hb
   hC:=fun b hb=>hb.elim
   hD:=fun b hb=>hb.elim
   j:=⟨rfl,fun _ h=>h,fun _ h=>h⟩
   hown:=fun k blk g hk=>by cases hk
   inj:=fun k k' b b' g hk=>by cases hk
   heap:=fun k blk hk=>by cases hk
   tmps:=fun i=>by
    have hlen:=hvs.1
    show R (bare S w l) (args.getD i (.tup [])) _
    rw [Array.getD_eq_getD_getElem?,Array.getElem?_append]
    simp only [List.size_toArray]
    by_cases hi:i < vs.length
    ·rw [if_pos hi,List.getD_eq_getElem?_getD,List.getElem?_eq_getElem (by omega)]
     have:=hvs.2 i args[i] (List.getElem?_eq_getElem (by omega))
     rw [List.getD_eq_getElem?_getD,List.getElem?_eq_getElem hi] at this
     simpa [hi] using this
    ·rw [if_neg hi,List.getD_eq_getElem?_getD,List.getElem?_eq_none (by omega)]
     have hu:((Array.replicate (fn.ntmps - vs.length) undef)[i - vs.length]?).getD undef = undef:=by
      rw [Array.getElem?_replicate]
      split <;> rfl
     rw [hu]
     exact .tup [] [] rfl fun i a hi=>by simp at hi
   size:=by
    have:=hvs.1
    show (vs.toArray ++ Array.replicate (fn.ntmps - vs.toArray.size) undef).size = fn.ntmps
    simp
    omega
   defers:=rfl
   hDs:=fun d hd=>by simp at hd
   nodup:=List.nodup_nil
   le:=.refl _
   cd:=⟨fun _ h=>h,fun _ h=>h.elim,fun _ h=>h,fun _ h=>h.elim⟩
   fix:=fun e=>by cases e }
  refine wpIn_mono (awp_sound (E:=E) noJ_ok (noJ_yok P l _) rfl c _ _ _ w hok h (Rel.weaken ⟨S,_,_,_,[],hrel⟩ hle)) ?_
  have key:∀ s a' w',retDW P fn.results.toList r s → Rel E s a' w' →
    LeavesInM (FW none) 0 P fn a'.tmps (fun e w'=>∃ v,e = .returned v ∧ Below w.heap.size w w' ∧ R (bare (fun b=>S b ∨ (w.heap.size ≤ b ∧ b < w'.heap.size)) w' l) r v) a'.defers .returning w':=by
   rintro s a' w' hret hr
   unfold retDW at hret
   cases hres:resV P s.τ s.H fn.results.toList with
   | none=>rw [hres] at hret; exact hret.elim
   | some v=>
    rw [hres] at hret
    obtain ⟨hcl,rfl⟩:=hret
    obtain ⟨S',own,C,D,Ds,hr⟩:=hr
    rw [hr.defers]
    refine hr.leaves noJ_ok rfl hres fun a2 w2 u hr3 hu=>⟨u,rfl,?_,?_⟩
    ·exact ⟨hr3.fr.os,hr3.fr.tape,hr3.fr.output,hr3.fr.size,fun k hk=>hr3.fr.block k hk id⟩
    ·obtain ⟨S1,hr5,hle1⟩:=frz_ok.fold (innD s.H v) E s a2 w2 S' own C D [] hr3
     obtain ⟨S2,hr4,hle2⟩:=frz_ok E _ a2 w2 S1 own C D [] v hr5
     have h0:=R.pur (C:=ctx E { s with H:=frz (frzs s.H (innD s.H v)) v } w2 S2 own) hr4.heap ((hu.mono hle1).mono hle2)
     have h1:=(R.purD (C:=ctx E { s with H:=frz (frzs s.H (innD s.H v)) v } w2 S2 own) hr4.heap h0).bare l hcl
     refine R.mono (C:=bare S2 w2 l) (C':=bare (fun b=>S b ∨ (w.heap.size ≤ b ∧ b < w2.heap.size)) w2 l) ⟨fun b hb=>⟨?_,rfl⟩,fun k blk hk=>(by cases hk),rfl⟩ h1
     show S b ∨ (w.heap.size ≤ b ∧ b < w2.heap.size)
     obtain ⟨q1,_,q2⟩:=hr4.hS b hb
     rcases q2 with q2 | q2 | q2
     ·exact .inl q2
     ·exact q2.elim
     ·exact .inr ⟨q2,q1⟩
  rintro e a' w' ⟨s,hΦ,hr⟩
  cases e with
  | normal=>exact key s a' w' hΦ hr
  | ret=>exact key s a' w' hΦ hr
  | _=>exact hΦ.elim
theorem Spec.of_WD {P : Program} {f : FuncId} {fn : Func} {args : List AV} {r : AV} {W : (Exit → St → Prop) → St → Prop} {rs : List ResultVar} {n : Nat} (hf : P.funcs[f]? = some fn) (hb : fn.body.isSome = true) (hname : (fn.name == "runtime.NumGoroutine") = false)
  (hok:codeOk fn.ntmps (fn.body.getD .skip) = true) (hn:fn.ntmps = n) (hW:∀ Φ s,awp P (fn.body.getD .skip) Φ s = W Φ s) (hrs:fn.results.toList = rs)
  (hlen:args.length ≤ n) (h:∀ vs,W (retDK P rs r) ⟨look (argT 0 args),hls [] vs,noG⟩):Spec P f args r:=by
 obtain ⟨c,hc⟩:=Option.isSome_iff_exists.1 hb
 have h:=h fun _=>0
 rw [← hW] at h
 rw [hc] at hok h
 subst hrs
 exact Spec.of_awpD (le_args args _) hf hc hname hok (by rw [hn]; exact hlen) h
end Go.Am
