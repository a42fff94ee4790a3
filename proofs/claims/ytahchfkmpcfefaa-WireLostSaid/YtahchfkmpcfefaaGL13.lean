import Derived.Test.YtahchfkmpcfefaaGA6
import Derived.WalkKit
import Derived.ProofKit
import Derived.OpenShut
import Derived.ReadAgain
import Derived.Below
import Derived.ShutString
set_option linter.unusedVariables false
set_option linter.unusedSimpArgs false
namespace Go.Am
open Go.ChangeShapes Go.WideShapes Go.ChangeAt Go.RowKit
theorem RL.none (C:Ctx):RL C [] []:=⟨rfl,fun i a h=>by simp at h⟩
theorem RL.more {C:Ctx} {a:AV} {v:Value} {as:List AV} {vs:List Value} (h:R C a v) (t:RL C as vs):RL C (a :: as) (v :: vs):=by
 refine ⟨by simp [t.1],fun i x hx=>?_⟩
 cases i with
 | zero=>cases hx; exact h
 | succ i=>exact t.2 i x hx
theorem Spec.toCalls {P:Program} {f:FuncId} {as:List AV} (h:Spec P f as (.bool true)) {w:World} {vs:List Value} (hR:RL (bare (fun b=>b < w.heap.size) w 0) as vs) :
  Calls P f vs.toArray w fun e w'=>e = .returned (.bool true) ∧ Below w.heap.size w w':=by
 refine (callsIn_wide.1 (h.calls w (fun b=>b < w.heap.size) 0 vs (fun _ h=>h) hR)).mono fun e w' ⟨v,he,hb,hv⟩=>?_
 cases hv
 exact ⟨he,hb⟩
variable {P : Program} {H : Type} {enc : TypeId × Value → H}
theorem post_of_below {f:Func} {s:ChangeSpec} {apart fresh handsOn again:Bool} {W W':World} {args:Array Value} {v:Value} {ds gs:List (DataW H)} {before pa pv:List MemPlace}
  (hW:DataW.Whole enc P f.params.toList s.vars apart W args.toList ds gs before)
  (hres:∀ (b:Nat) (sp:Nat → Bool) (hd:Bool),DataW.TrodAll enc P W' b sp hd f.resultTypes.toList (v.resultList f.resultTypes.size) (s.fn H (ds ++ gs)).results [])
  (hargs:∀ sp:Nat → Bool,(∀ p ∈ before,sp p.block = true) → DataW.TrodAll enc P W' 0 sp true f.params.toList args.toList (s.fn H (ds ++ gs)).args pa)
  (hvars:∀ sp:Nat → Bool,(∀ p ∈ before,sp p.block = true) → DataW.TrodVars enc P W' sp s.vars (s.fn H (ds ++ gs)).vars pv)
  (hps:before = pa ++ pv) (hb:Below W.heap.size W W')
  (hok:∀ (j:Nat) (t:TypeId) (r:Value),f.resultTypes[j]? = some t → (v.resultList f.resultTypes.size)[j]? = some r → Value.okWide P W' .any 0 t r) :
  s.post enc P f apart fresh handsOn again W args v W':=by
 have hlt:=hW.lt
 have hold:∀ p ∈ before,(fun b=>decide (b < W.heap.size)) p.block = true:=fun p hp=>by simpa using hW.lt p hp
 refine ⟨ds,gs,before,[],pa,pv,hW,hres _ _ _,hargs _ hold,hvars _ hold,World.keptBut_mono (fun p hp=>⟨hp,?_⟩) (hb.frame (· ∈ before)),fun _=>?_⟩
 ·rw [hps,List.mem_append] at hp
  exact Or.inr hp
 ·obtain ⟨_,_,_,_,_,hz,hn⟩:=hW
  refine ⟨hok,_,_,([] ++ pa) ++ pv,⟨[] ++ pa,pv,trodAll_append (hargs _ (fun _ _=>rfl)) (hres _ _ _),hvars _ (fun _ _=>rfl),rfl,?_,?_⟩,?_⟩
  ·intro b off hp
   have hp':MemPlace.cell b off ∈ before:=by rw [hps]; simpa using hp
   rw [hb.frozen (hlt _ hp')]
   exact hz b off hp'
  ·intro ha
   have:=hn ha
   rw [hps] at this
   simpa using this
  ·intro p hp _
   rw [hps]
   simpa using hp
end Go.Am
namespace Go.Am
open Go.ChangeShapes Go.WideShapes Go.ChangeAt Go.RowKit
abbrev bareC (W:World):Ctx:=bare (fun b=>b < W.heap.size) W 0
def RdN (P:Program) (W:World) (n:Nat) (t:TypeId) {α:Type} (e:α → List AV) (ok:α → Prop):Prop:=
 ∀ (m:Nat),m ≤ n → ∀ {H:Type} (enc:TypeId × Value → H) (cs:List Value) (x:DataW H × List MemPlace),DataW.trod enc P W 0 (fun _=>true) true m t cs = some x → ∃ a,ok a ∧ RL (bareC W) (e a) cs
def RdV (P:Program) (t:TypeId) {α:Type} (g:α → AV) (ok:α → Prop):Prop:=
 ∀ (W:World) {H:Type} (enc:TypeId × Value → H) (b:Nat) (v:Value) (d:DataW H) (p:List MemPlace),Value.okWide P W .any b t v → DataW.Trod enc P W 0 (fun _=>true) true t v d p → ∃ a,ok a ∧ R (bareC W) (g a) v
section
variable {P : Program} {W : World}
theorem RdN.mono {n m:Nat} {t:TypeId} {α:Type} {e:α → List AV} {ok:α → Prop} (h:RdN P W n t e ok) (hm:m ≤ n):RdN P W m t e ok:=fun k hk=>h k (Nat.le_trans hk hm)
theorem RdN.zero {t:TypeId} {α:Type} {e:α → List AV} {ok:α → Prop}:RdN P W 0 t e ok:=fun m hm H enc cs x hx=>by
 obtain rfl:m = 0:=by omega
 simp [DataW.trod] at hx
theorem RdN.int {t:TypeId} {k:IntKind} (ht:P.underlying t = some (.int k)) (n:Nat):RdN P W n t (fun i:Int=>[.int k i]) (fun i=>(Lit.int k i).wf = true):=fun m hm H enc cs x hx=>by
 obtain ⟨i,rfl,-,hw⟩:=DataW.trod_int ht hx
 exact ⟨i,hw,RL.more (.int _ _) (RL.none _)⟩
theorem RdN.bool {t:TypeId} (ht:P.underlying t = some .bool) (n:Nat):RdN P W n t (fun b:Bool=>[.bool b]) (fun _=>True):=fun m hm H enc cs x hx=>by
 obtain ⟨i,rfl,-⟩:=DataW.trod_bool ht hx
 exact ⟨i,trivial,RL.more (.bool _) (RL.none _)⟩
theorem RdN.str {t:TypeId} (ht:P.underlying t = some .string) (n:Nat):RdN P W n t (fun b:ByteArray=>[.str b]) (fun b=>b.size ≤ maxLen):=fun m hm H enc cs x hx=>by
 obtain ⟨i,rfl,-,hw⟩:=DataW.trod_string ht hx
 exact ⟨i,hw,RL.more (.str _ hw) (RL.none _)⟩
theorem list_of_each {β:Type} {Q:Nat → β → Prop}:∀ {n:Nat},(∀ i,i < n → ∃ y,Q i y) → ∃ l:List β,l.length = n ∧ ∀ (i:Nat) (h:i < l.length),Q i l[i]
 | 0,_=>⟨[],rfl,fun i h=>absurd h (by simp)⟩
 | n + 1,h=>by
  obtain ⟨l,hl,hq⟩:=list_of_each (n:=n) fun i hi=>h i (by omega)
  obtain ⟨y,hy⟩:=h n (by omega)
  refine ⟨l ++ [y],by simp [hl],fun i hi=>?_⟩
  by_cases e:i < l.length
  ·rw [List.getElem_append_left e]; exact hq i e
  ·simp at hi
   have:i = n:=by omega
   subst this
   rw [List.getElem_append_right (by omega)]
   simpa [hl] using hy
theorem cell?_spot {a:Addr} {v:Value} (h:W.cell? a = some v):a.spot = none:=by
 unfold World.cell? at h
 split at h
 ·cases hs:a.spot with
  | none=>rfl
  | some s=>simp [hs] at h
 ·cases h
theorem Addr.eq_of_spot {a:Addr} (h:a.spot = none):a = ⟨a.block,a.off,none⟩:=by cases a; cases h; rfl
theorem Addr.add_spot {a:Addr} (h:a.spot = none) (n:Nat):a.add n = ⟨a.block,a.off + n,none⟩:=by
 unfold Addr.add
 split
 ·rename_i e; subst e; exact Addr.eq_of_spot h
 ·rfl
theorem RdN.slice {t et:TypeId} {α:Type} {e:α → List AV} {ok:α → Prop} {n:Nat} (h:RdN P W n et e ok) (ht:P.underlying t = some (.slice et)) (hlen:∀ a,(e a).length = P.cellsOf et) (hpos:0 < P.cellsOf et) (hcell:∀ a,∀ c ∈ e a,c.cell = true) :
  RdN P W (n + 1) t (fun l:List α=>[.sl (l.map e)]) (fun l=>l.length ≤ maxLen ∧ ∀ a ∈ l,ok a):=by
 intro m hm H enc cs x hx
 rcases DataW.trod_slice ht hx with ⟨rfl,-⟩ | ⟨a,len,cap,elems,rest,k,rfl,rfl,-,hb,hl,hc,hel,hE,-,-⟩
 ·refine ⟨[],by simp,RL.more ?_ (RL.none _)⟩
  exact R.sl [] none 0 0 0 0 (fun _ _=>.bool true) (fun h=>absurd rfl h) (by simp) (by simp) (by simp) (fun i hi=>absurd hi (by simp)) (fun _ _=>rfl) (fun i r h=>by simp at h)
 ·generalize hsz:P.cellsOf et = sz at *
  have each:∀ i,i < len → ∃ y:α × List Value,ok y.1 ∧ W.cells? 0 (a.add (i * sz)) sz = some y.2 ∧ RL (bareC W) (e y.1) y.2:=by
   intro i hi
   have h1:=hE i hi
   obtain ⟨z,hz⟩:∃ z,elems[i]? = some z:=⟨_,List.getElem?_eq_getElem (by omega)⟩
   rw [hz,Option.bind_eq_some_iff] at h1
   obtain ⟨cs',hcs,hy⟩:=h1
   obtain ⟨y,hok,hR⟩:=h k (by omega) enc cs' z hy
   exact ⟨(y,cs'),hok,hcs,hR⟩
  obtain ⟨l,hll,hq⟩:=list_of_each each
  have hspot:0 < len → a.spot = none ∧ a.block < W.heap.size:=by
   intro h0
   obtain ⟨-,hc,-⟩:=hq 0 (by omega)
   obtain ⟨-,hc1,hc2⟩:=World.cells?_some hc
   have:=hc2 0 hpos
   have h00:0 < (l[0]'(by omega)).2.length:=by omega
   obtain ⟨v,hv⟩:∃ v,(l[0]'(by omega)).2[0]? = some v:=⟨_,List.getElem?_eq_getElem h00⟩
   rw [hv] at this
   simp only [Addr.add,Nat.zero_mul,if_true] at this
   exact ⟨cell?_spot this,by simpa using World.block_lt_of_cell? W _ this⟩
  let f:Nat → Nat → Value:=fun i j=>match l[i]? with
   | some y=>if j < sz then y.2.getD j undef else .bool true
   | none=>.bool true
  have hf:∀ i (hi:i < l.length) j,j < sz → f i j = l[i].2.getD j undef:=fun i hi j hj=>by
   show (match l[i]? with | some y=>if j < sz then y.2.getD j undef else .bool true | none=>.bool true) = _
   rw [List.getElem?_eq_getElem hi]
   simp [hj]
  have hfR:∀ i (hi:i < l.length) j (x:AV),(e l[i].1)[j]? = some x → R (bareC W) x (f i j):=fun i hi j x hx=>by
   have hj:j < sz:=by have:=(List.getElem?_eq_some_iff.1 hx).1; rw [hlen] at this; exact this
   rw [hf i hi j hj]
   exact (hq i hi).2.2.2 j x hx
  refine ⟨l.map (·.1),⟨by simp; omega,?_⟩,RL.more ?_ (RL.none _)⟩
  ·intro y hy
   obtain ⟨z,hz,rfl⟩:=List.mem_map.1 hy
   obtain ⟨i,hi,rfl⟩:=List.getElem_of_mem hz
   exact (hq i hi).1
  ·have hL:len = ((l.map (·.1)).map e).length:=by simp [hll]
   rw [hL]
   refine R.sl _ (some a) cap a.block a.off sz f ?_ (by simp; omega) (by simp; omega) ?_ ?_ ?_ ?_
   ·intro hne
    have h0:0 < len:=by
     rcases Nat.eq_zero_or_pos len with e | e
     ·exfalso; apply hne
      have:l = []:=List.eq_nil_of_length_eq_zero (by omega)
      simp [this]
     ·exact e
    exact ⟨congrArg some (Addr.eq_of_spot (hspot h0).1),(hspot h0).2⟩
   ·intro r hr
    simp only [List.map_map,List.mem_map] at hr
    obtain ⟨y,-,rfl⟩:=hr
    exact hlen _
   ·intro i hi j hj
    have hi':i < l.length:=by simpa using hi
    obtain ⟨-,hc,-⟩:=hq i hi'
    obtain ⟨-,hc1,hc2⟩:=World.cells?_some hc
    have h3:=hc2 j hj
    have hs:=(hspot (by omega)).1
    rw [Addr.add_spot hs,Addr.add_spot rfl] at h3
    rw [hf i hi' j hj]
    refine h3.trans ?_
    rw [List.getElem?_eq_getElem (by omega),List.getD_eq_getElem?_getD,List.getElem?_eq_getElem (by omega)]
    rfl
   ·intro i j
    by_cases hi:i < l.length
    ·by_cases hj:j < sz
     ·have hx:(e l[i].1)[j]? = some ((e l[i].1)[j]'(by rw [hlen]; exact hj)):=List.getElem?_eq_getElem _
      exact (hfR i hi j _ hx).one (hcell _ _ (List.getElem_mem _))
     ·show Value.oneCell' (match l[i]? with | some y=>if j < sz then y.2.getD j undef else .bool true | none=>.bool true) = true
      rw [List.getElem?_eq_getElem hi]
      simp [hj]
      rfl
    ·show Value.oneCell' (match l[i]? with | some y=>if j < sz then y.2.getD j undef else .bool true | none=>.bool true) = true
     rw [List.getElem?_eq_none (by omega)]
     rfl
   ·intro i r hr j x hx
    rw [List.map_map,List.getElem?_map] at hr
    by_cases hi:i < l.length
    ·rw [List.getElem?_eq_getElem hi] at hr
     cases hr
     exact hfR i hi j x hx
    ·rw [List.getElem?_eq_none (by omega)] at hr
     cases hr
theorem RdV.struct {t:TypeId} {fs:Array Field} {α:Type} {e:α → List AV} {ok:α → Prop} (ht:P.underlying t = some (.struct fs)) (h:∀ W n,RdN P W n t e ok):RdV P t (fun a=>.agg (e a)) ok:=fun W H enc b v d p hv hd=>by
 obtain ⟨cs,rfl,-⟩:=okWide_struct ht hv
 obtain ⟨n,hn⟩:=hd
 obtain ⟨a,hok,hR⟩:=h W n n (Nat.le_refl _) enc _ _ hn
 refine ⟨a,hok,?_⟩
 have:=R.agg (C:=bareC W) (e a) cs.toList hR.1 hR.2
 simpa using this
theorem RdV.one {t:TypeId} {α:Type} {g:α → AV} {ok:α → Prop} (hv:∀ W b v,Value.okWide P W .any b t v → v.cells = #[v]) (h:∀ W n,RdN P W n t (fun a=>[g a]) ok):RdV P t g ok:=fun W H enc b v d p hvv hd=>by
 obtain ⟨n,hn⟩:=hd
 rw [hv W b v hvv] at hn
 obtain ⟨a,hok,hR⟩:=h W n n (Nat.le_refl _) enc _ _ hn
 exact ⟨a,hok,hR.2 0 (g a) rfl⟩
theorem RdV.int {t:TypeId} {k:IntKind} (ht:P.underlying t = some (.int k)):RdV P t (fun i:Int=>.int k i) (fun i=>(Lit.int k i).wf = true):=
 .one (fun W b v h=>by obtain ⟨n,rfl⟩:=okWide_int ht h; rfl) fun W n=>.int ht n
theorem RdV.bool {t:TypeId} (ht:P.underlying t = some .bool):RdV P t (fun b:Bool=>.bool b) (fun _=>True):=
 .one (fun W b v h=>by obtain ⟨n,rfl⟩:=okWide_bool ht h; rfl) fun W n=>.bool ht n
theorem RdV.str {t:TypeId} (ht:P.underlying t = some .string):RdV P t (fun b:ByteArray=>.str b) (fun b=>b.size ≤ maxLen):=
 .one (fun W b v h=>by obtain ⟨n,rfl⟩:=okWide_string ht h; rfl) fun W n=>.str ht n
theorem RdV.slice {t et:TypeId} {α:Type} {e:α → List AV} {ok:α → Prop} (ht:P.underlying t = some (.slice et)) (h:∀ W n,RdN P W n et e ok) (hlen:∀ a,(e a).length = P.cellsOf et) (hpos:0 < P.cellsOf et) (hcell:∀ a,∀ c ∈ e a,c.cell = true) :
  RdV P t (fun l:List α=>.sl (l.map e)) (fun l=>l.length ≤ maxLen ∧ ∀ a ∈ l,ok a):=
 .one (fun W b v h=>by obtain ⟨a,len,cap,rfl⟩:=okWide_slice ht h; rfl) fun W n=>((h W n).slice ht hlen hpos hcell).mono (by omega)
end
def structOf (P:Program) (t:TypeId):Array Field:=match P.underlying t with | some (.struct fs)=>fs | _=>#[]
theorem RdN.field {P:Program} {W:World} {H:Type} {enc:TypeId × Value → H} {fs:Array Field} {k n:Nat} {cs:List Value} {xs:List (DataW H × List MemPlace)} {α:Type} {e:α → List AV} {ok:α → Prop}
  (hf:∀ (i:Nat) (f:Field),fs[i]? = some f → DataW.trod enc P W 0 (fun _=>true) true k f.type ((cs.drop f.offset).take (P.cellsOf f.type)) = xs[i]?) (hx:xs.length = fs.size)
  (i ty off sz:Nat) (h:(fs[i]?).map (fun f=>(f.type,f.offset)) = some (ty,off)) (hsz:P.cellsOf ty = sz) (hr:RdN P W n ty e ok) (hk:k ≤ n):∃ a,ok a ∧ RL (bareC W) (e a) ((cs.drop off).take sz):=by
 obtain ⟨f,hfi,he⟩:=Option.map_eq_some_iff.1 h
 cases he
 have h1:=hf i f hfi
 have hi:i < xs.length:=by
  rw [hx]
  exact (Array.getElem?_eq_some_iff.1 hfi).1
 rw [List.getElem?_eq_getElem hi,hsz] at h1
 exact hr k hk enc _ _ h1
section
variable {H : Type} {enc : TypeId × Value → H} {P : Program}
theorem trodAll_keep (hl:laidOutB P = true) (hm:mapsRowed P = true) (hz:∀ t e,t < P.types.size → P.underlying t = some (.slice e) → 0 < P.cellsOf e) {W W':World} (hb:Below W.heap.size W W') {sp:Nat → Bool} :
  ∀ {ts:List TypeId} {vs:List Value} {ds:List (DataW H)} {ps:List MemPlace},(∀ t ∈ ts,t < P.types.size) → (∀ p ∈ ps,p.block < W.heap.size) → (∀ p ∈ ps,sp p.block = true) →
   DataW.TrodAll enc P W 0 (fun _=>true) true ts vs ds ps → DataW.TrodAll enc P W' 0 sp true ts vs ds ps
 | [],[],[],_,_,_,_,h=>h
 | _ :: _,_ :: _,_ :: _,_,hT,hp,hs,⟨p,q,⟨n,h1⟩,h2,e⟩=>by
  subst e
  have hT0:=hT _ (List.mem_cons.2 (Or.inl rfl))
  have hpp:∀ x ∈ p,x.block < W.heap.size:=fun x hx=>hp x (List.mem_append_left _ hx)
  have hsp:∀ x ∈ p,sp x.block = true:=fun x hx=>hs x (List.mem_append_left _ hx)
  refine ⟨p,q,⟨n,?_⟩,trodAll_keep hl hm hz hb (fun t ht=>hT t (List.mem_cons.2 (Or.inr ht))) (fun x hx=>hp x (List.mem_append_right _ hx)) (fun x hx=>hs x (List.mem_append_right _ hx)) h2,rfl⟩
  exact DataW.trod_carry n _ _ _ (DataW.trod_respare (T:=(· < P.types.size)) (kids_rows hl hm) hz n _ _ _ hT0 h1 hsp) (fun x hx=>hb.same (hpp x hx))
theorem post_of_keep {f:Func} {s:ChangeSpec} {apart fresh handsOn again:Bool} {W W':World} {args:Array Value} {v:Value} {ds:List (DataW H)} {before:List MemPlace}
  (hl:laidOutB P = true) (hm:mapsRowed P = true) (hz:∀ t e,t < P.types.size → P.underlying t = some (.slice e) → 0 < P.cellsOf e) (hT:∀ t ∈ f.params.toList,t < P.types.size) (hvs:s.vars = [])
  (hW:DataW.Whole enc P f.params.toList s.vars apart W args.toList ds [] before) (hargs:(s.fn H ds).args = ds) (hvars:(s.fn H ds).vars = [])
  (hres:∀ (b:Nat) (sp:Nat → Bool) (hd:Bool),DataW.TrodAll enc P W' b sp hd f.resultTypes.toList (v.resultList f.resultTypes.size) (s.fn H ds).results [])
  (hb:Below W.heap.size W W')
  (hok:∀ (j:Nat) (t:TypeId) (r:Value),f.resultTypes[j]? = some t → (v.resultList f.resultTypes.size)[j]? = some r → Value.okWide P W' .any 0 t r) :
  s.post enc P f apart fresh handsOn again W args v W':=by
 have hW':=hW
 obtain ⟨p,q,h1,h2,e,-,-⟩:=hW
 rw [hvs] at h2
 have hq:q = []:=h2
 subst hq
 simp only [List.append_nil] at e
 subst e
 have hlt:=hW'.lt
 refine post_of_below (gs:=[]) (pa:=before) (pv:=[]) hW' (by simpa using hres) (fun sp hs=>?_) (fun sp _=>?_) (by simp) hb hok
 ·simp only [List.append_nil,hargs]
  exact trodAll_keep hl hm hz hb hT hlt hs h1
 ·simp only [List.append_nil,hvars,hvs]
  rfl
end
end Go.Am
