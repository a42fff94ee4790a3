import Derived.Test.YtahchfkmpcfefaaGA4
import Derived.Test.YtahchfkmpcfefaaGA5
import Derived.RangeFuncLeaves
import Derived.KernelRfl
set_option linter.unusedVariables false
set_option linter.unusedSimpArgs false
namespace Go.Am
open Go.RowKit
abbrev blkK (id:Nat) (Φ:Exit → St → Prop):Exit → St → Prop
 | .exit id',s=>if id' = id then Φ .normal s else Φ (.exit id') s
 | e,s=>Φ e s
abbrev gotoK (J:Nat → St → Prop) (Φ:Exit → St → Prop):Exit → St → Prop
 | .goto l,s=>J l s
 | e,s=>Φ e s
abbrev Pd:=(Exit → St → Prop) → St → Prop
def lookR:List (Nat × ((Nat → St → Prop) → St → Prop)) → Nat → (Nat → St → Prop) → St → Prop
 | [],_,_,_=>False
 | (l,k) :: r,l',J,s=>if l = l' then k J s else lookR r l' J s
def cScope (B:(Nat → St → Prop) → St → Prop) (R:List (Nat × ((Nat → St → Prop) → St → Prop))) (s:St):Prop:=
 ∃ I:Nat → Nat → St → Prop,B (fun l s'=>∃ m s'',s'.le s'' ∧ I l m s'') s ∧ ∀ l m s,I l m s → lookR R l (fun l' s'=>∃ m' s'',m' < m ∧ s'.le s'' ∧ I l' m' s'') s
@[congr] theorem cScope_congr {B:(Nat → St → Prop) → St → Prop} {R:List (Nat × ((Nat → St → Prop) → St → Prop))} {s s':St} (h:s = s'):cScope B R s = cScope B R s':=by rw [h]
noncomputable abbrev awp2 (P:Program) (c:Code):Pd × List (Nat × Pd):=
 Code.rec (motive:=fun _=>Pd × List (Nat × Pd))
  (fun Φ s=>Φ .normal s,[])
  (fun _ ops draw=>(match draw with
   | false=>fun Φ s=>awpOps P ops ops.toList s (Φ .normal)
   | true=>fun Φ s=>awpDrawX P ops s (Φ .normal),[]))
  (fun _ _ ia ib=>(fun Φ s=>ia.1 (thenK (ib.1 Φ) Φ) s,ia.2.map (fun p=>(p.1,fun Φ s=>p.2 (thenK (ib.1 Φ) Φ) s)) ++ ib.2))
  (fun c _ _ ix iy=>(fun Φ s=>condW (ev s.τ c) (ix.1 Φ s) (iy.1 Φ s),[]))
  (fun id _ ic=>(fun Φ s=>ic.1 (blkK id Φ) s,[]))
  (fun _ ic=>(fun Φ s=>∃ (I:Nat → St → Prop) (k:Nat) (s0:St),s.le s0 ∧ I k s0 ∧ ∀ k s,I k s → ic.1 (thenK (fun s'=>∃ k' s'',k' < k ∧ s'.le s'' ∧ I k' s'') Φ) s,[]))
  (fun f ps _ _ ia ib=>(fun Φ s=>cRange P (ev s.τ f) ps.toList (fun Φ s=>ia.1 (thenK (ib.1 Φ) fun _ _=>False) s) Φ s,[]))
  (fun id=>(fun Φ s=>Φ (.exit id) s,[]))
  (fun _ ic=>(fun Φ s=>cScope (fun J s=>ic.1 (gotoK J Φ) s) (ic.2.map fun p=>(p.1,fun J s=>p.2 (gotoK J Φ) s)) s,[]))
  (fun l=>(fun Φ s=>Φ .normal s,[(l,fun Φ s=>Φ .normal s)]))
  (fun l=>(fun Φ s=>Φ (.goto l) s,[]))
  (fun Φ s=>Φ .ret s,[])
  (fun _=>(fun _ _=>False,[]))
  c
noncomputable abbrev awp (P:Program) (c:Code):Pd:=(awp2 P c).1
@[congr] theorem awp_congr {P:Program} {c:Code} {Φ:Exit → St → Prop} {s s':St} (h:s = s'):awp P c Φ s = awp P c Φ s':=by rw [h]
def codeOk (n:Nat):Code → Bool
 | .region _ ops _=>opsOk n ops
 | .seq a b | .cond _ a b=>codeOk n a && codeOk n b
 | .block _ c | .loop c | .scope c=>codeOk n c
 | .rangeFunc _ ps a b=>ps.toList.all (fun p=>decide (p < n)) && (codeOk n a && codeOk n b && (noRange a && noRange b))
 | _=>true
where noRange:Code → Bool
 | .seq a b | .cond _ a b=>noRange a && noRange b
 | .block _ c | .loop c | .scope c=>noRange c
 | .rangeFunc ..=>false
 | _=>true
section
variable {F : Fence} {n : Nat} {P : Program} {Q : Exit → Act → World → Prop} {a : Act} {w : World}
def Exit.jumps (J:Nat → Act → World → Prop) (Q:Exit → Act → World → Prop):Exit → Act → World → Prop
 | .goto l,a,w=>J l a w
 | e,a,w=>Q e a w
theorem stepR_scope {b:Frame} {k:List Item} {cs:List Frame} {c:Code}:step P (lone (b.atR a (.code (.scope c) :: k)) cs w) = .next (lone (b.atR a (.code c :: .inScope c :: k)) cs w):=
 step_lone_go (by simp [stepG,stepG.exec,Frame.atR])
theorem stepR_inScope {b:Frame} {k:List Item} {cs:List Frame} {c:Code}:step P (lone (b.atR a (.inScope c :: k)) cs w) = .next (lone (b.atR a k) cs w):=
 step_lone_go (by simp [stepG,stepG.exec,Frame.atR])
theorem wpIn_scope {c:Code} (J:Nat → Nat → Act → World → Prop) (first:c.wpIn F n P (Exit.jumps (fun l a w=>∃ m,J l m a w) Q) a w)
  (pass:∀ l m a w,J l m a w → ∃ rest,findLabel c l = some rest ∧ rest.wpIn F n P (Exit.jumps (fun l' a' w'=>∃ m',m' < m ∧ J l' m' a' w') Q) a w):(Code.scope c).wpIn F n P Q a w:=by
 intro b k cs hro hb hr
 have h0:(lone (b.atR a (.code (.scope c) :: k)) cs w).fenced P F:=fenced_calm hb hr rfl
 have hexit:∀ id,exitTo id (.inScope c :: k) = exitTo id k:=fun id=>by simp [exitTo]
 have key:∀ m l a w,J l m a w → ∃ rest,findLabel c l = some rest ∧ ∃ e a' w',Q e a' w' ∧ ArrivesIn (Machine.fenced P F) P (lone (b.atR a (.code rest :: .inScope c :: k)) cs w) b k cs e a' w':=by
  intro m
  induction m using Nat.strongRecOn with
  | _ m ih=>
   intro l a w hJ
   obtain ⟨rest,hrest,hw⟩:=pass l m a w hJ
   refine ⟨rest,hrest,?_⟩
   obtain ⟨e,a₁,w₁,hq,harr⟩:=hw b (.inScope c :: k) cs hro hb hr
   cases e with
   | normal=>exact ⟨.normal,a₁,w₁,hq,StepsIn.trans harr (.one (fenced_calm hb hr rfl) stepR_inScope)⟩
   | exit id=>exact ⟨.exit id,a₁,w₁,hq,fun k' hk=>harr.1 k' (by rw [hexit]; exact hk),fun hr' hk=>harr.2 hr' (by rw [hexit]; exact hk)⟩
   | goto l'=>
    obtain ⟨m',hlt,hJ'⟩:=hq
    obtain ⟨rest',hrest',e₂,a₂,w₂,hq₂,harr₂⟩:=ih m' hlt l' a₁ w₁ hJ'
    exact ⟨e₂,a₂,w₂,hq₂,.of_steps (harr.1 _ (by simp [gotoIn,hrest'])) harr₂⟩
   | ret=>exact ⟨_,a₁,w₁,hq,harr⟩
   | panic ch=>exact ⟨_,a₁,w₁,hq,harr⟩
   | outgrown=>exact ⟨_,a₁,w₁,hq,harr⟩
 obtain ⟨e,a₁,w₁,hq,harr⟩:=first b (.inScope c :: k) cs hro hb hr
 cases e with
 | normal=>exact ⟨.normal,a₁,w₁,hq,.head h0 stepR_scope (StepsIn.trans harr (.one (fenced_calm hb hr rfl) stepR_inScope))⟩
 | exit id=>exact ⟨.exit id,a₁,w₁,hq,fun k' hk=>.head h0 stepR_scope (harr.1 k' (by rw [hexit]; exact hk)),fun hr' hk=>let ⟨k₁,h1,h2⟩:=harr.2 hr' (by rw [hexit]; exact hk); ⟨k₁,h1,.head h0 stepR_scope h2⟩⟩
 | goto l'=>
  obtain ⟨m',hJ'⟩:=hq
  obtain ⟨rest',hrest',e₂,a₂,w₂,hq₂,harr₂⟩:=key m' l' a₁ w₁ hJ'
  exact ⟨e₂,a₂,w₂,hq₂,.of_steps (.head h0 stepR_scope (harr.1 _ (by simp [gotoIn,hrest']))) harr₂⟩
 | ret=>exact ⟨_,a₁,w₁,hq,.of_steps (.one h0 stepR_scope) harr⟩
 | panic ch=>exact ⟨_,a₁,w₁,hq,.of_steps (.one h0 stepR_scope) harr⟩
 | outgrown=>exact ⟨_,a₁,w₁,hq,.of_steps (.one h0 stepR_scope) harr⟩
end
def lookP:List (Nat × Pd) → Nat → Option Pd
 | [],_=>none
 | (l,k) :: r,l'=>if l = l' then some k else lookP r l'
theorem lookP_append (a b:List (Nat × Pd)) (l:Nat):lookP (a ++ b) l = (lookP a l).or (lookP b l):=by
 induction a with
 | nil=>simp [lookP]
 | cons p r ih=>
  obtain ⟨i,k⟩:=p
  show (if i = l then some k else lookP (r ++ b) l) = (if i = l then some k else lookP r l).or _
  by_cases e:i = l <;> simp [e,ih]
theorem lookP_map (f:Pd → Pd) (a:List (Nat × Pd)) (l:Nat):lookP (a.map fun p=>(p.1,f p.2)) l = (lookP a l).map f:=by
 induction a with
 | nil=>rfl
 | cons p r ih=>
  obtain ⟨i,k⟩:=p
  show (if i = l then some (f k) else lookP _ l) = (if i = l then some k else lookP r l).map f
  by_cases e:i = l <;> simp [e,ih]
theorem lookR_map (f:Pd → (Nat → St → Prop) → St → Prop) (a:List (Nat × Pd)) {l:Nat} {J:Nat → St → Prop} {s:St} (h:lookR (a.map fun p=>(p.1,f p.2)) l J s):∃ k,lookP a l = some k ∧ f k J s:=by
 induction a with
 | nil=>exact h.elim
 | cons p r ih=>
  obtain ⟨i,k⟩:=p
  have h:if i = l then f k J s else lookR (r.map fun p=>(p.1,f p.2)) l J s:=h
  unfold lookP
  by_cases e:i = l
  ·rw [if_pos e] at h ⊢; exact ⟨k,rfl,h⟩
  ·rw [if_neg e] at h ⊢; exact ih h
def CodeSound (P:Program) (c:Code):Prop:=
 ∀ (E:Env) (ro:Option Nat),E.P = P → JOk E.J → YOkE E → codeOk E.n c = true → ((E.fixed = false ∧ ro = none) ∨ codeOk.noRange c = true) → ∀ (Φ:Exit → St → Prop) (s:St) (a:Act) (w:World),
  (awp P c Φ s → Rel E s a w → c.wpIn (FW ro) 0 E.P (post E Φ) a w) ∧
  ∀ l rest,findLabel c l = some rest → ∃ k,lookP (awp2 P c).2 l = some k ∧ (k Φ s → Rel E s a w → rest.wpIn (FW ro) 0 E.P (post E Φ) a w)
theorem labels_none {P:Program}:∀ (c:Code) (l:Nat),findLabel c l = none → lookP (awp2 P c).2 l = none
 | .seq a b,l,h=>by
  unfold findLabel at h
  show lookP (((awp2 P a).2.map fun p=>(p.1,fun Φ s=>p.2 (thenK ((awp2 P b).1 Φ) Φ) s)) ++ (awp2 P b).2) l = none
  rw [lookP_append,lookP_map (fun k Φ s=>k (thenK ((awp2 P b).1 Φ) Φ) s)]
  cases ha:findLabel a l with
  | some r=>rw [ha] at h; cases h
  | none=>
   rw [ha] at h
   rw [labels_none a l ha,labels_none b l h]
   rfl
 | .label l',l,h=>by
  unfold findLabel at h
  show lookP [(l',_)] l = none
  unfold lookP
  by_cases e:l' = l
  ·simp [e] at h
  ·rw [if_neg e]; rfl
 | .skip,_,_=>rfl
 | .region _ _ _,_,_=>rfl
 | .cond _ _ _,_,_=>rfl
 | .block _ _,_,_=>rfl
 | .loop _,_,_=>rfl
 | .rangeFunc _ _ _ _,_,_=>rfl
 | .exit _,_,_=>rfl
 | .scope _,_,_=>rfl
 | .goto _,_,_=>rfl
 | .ret,_,_=>rfl
 | .refuse _,_,_=>rfl
theorem code_sound {P:Program}:∀ (c:Code),CodeSound P c
 | .skip,E,ro,hP,hJ,hY,hok,hn,Φ,s,a,w=>⟨fun h hr=>wpIn_skip ⟨s,h,hr⟩,fun l rest h=>by cases h⟩
 | .label l',E,ro,hP,hJ,hY,hok,hn,Φ,s,a,w=>⟨fun h hr=>wpIn_label ⟨s,h,hr⟩,fun l rest h=>by
   unfold findLabel at h
   split at h
   ·rename_i e
    cases h
    have e:l' = l:=by simpa using e
    subst e
    exact ⟨fun Φ s=>Φ .normal s,by show lookP [(l',_)] l' = _; simp [lookP],fun h hr=>wpIn_skip ⟨s,h,hr⟩⟩
   ·cases h⟩
 | .region id ops false,E,ro,hP,hJ,hY,hok,hn,Φ,s,a,w=>⟨fun h hr=>by
   subst hP
   refine wpIn_region (awpIdx_sound hJ hY hok (fun s a w hk hr=>⟨s,hk,hr⟩) _ s a w ?_ hr)
   have:=awpOps_idx ops.toList 0 s (Φ .normal) rfl h
   rwa [Nat.sub_zero,← List.range_eq_range'] at this,fun l rest h=>by cases h⟩
 | .region id ops true,E,ro,hP,hJ,hY,hok,hn,Φ,s,a,w=>⟨fun h hr=>by
   subst hP
   have h:awpDrawX E.P ops s (Φ .normal):=h
   refine wpIn_region_draw fun t=>awpIdx_sound hJ hY hok (fun s a w hk hr=>⟨s,hk,hr⟩) _ s a _ (awpDX_sound h _ t) ?_
   obtain ⟨S,own,C,D,Ds,hr⟩:=hr
   have hg:Grows w { w with drawn:=w.drawn + 1 } fun _=>False:=⟨rfl,rfl,rfl,Nat.le_refl _,fun _ _ _=>rfl⟩
   have:=hr.quiet hJ hg (fun _=>False) (fun _ hb=>hb.elim) (τ':=s.τ) (a':=a) rfl rfl fun hle i=>(hr.tmps i).mono hle
   exact ⟨_,own,C,D,Ds,this⟩,fun l rest h=>by cases h⟩
 | .seq x y,E,ro,hP,hJ,hY,hok,hn,Φ,s,a,w=>by
  simp only [codeOk,Bool.and_eq_true] at hok
  have hnx:(E.fixed = false ∧ ro = none) ∨ codeOk.noRange x = true:=hn.imp id fun h=>by simp only [codeOk.noRange,Bool.and_eq_true] at h; exact h.1
  have hny:(E.fixed = false ∧ ro = none) ∨ codeOk.noRange y = true:=hn.imp id fun h=>by simp only [codeOk.noRange,Bool.and_eq_true] at h; exact h.2
  have then_ok:∀ (z:Code) a w,z.wpIn (FW ro) 0 E.P (post E (thenK (awp P y Φ) Φ)) a w → (Code.seq z y).wpIn (FW ro) 0 E.P (post E Φ) a w:=fun z a w hz=>by
   refine wpIn_seq (wpIn_mono hz ?_)
   rintro e a' w' ⟨s',h',hr'⟩
   cases e with
   | normal=>exact (code_sound y E ro hP hJ hY hok.2 hny Φ s' a' w').1 h' hr'
   | _=>exact ⟨s',h',hr'⟩
  refine ⟨fun h hr=>then_ok x a w ((code_sound x E ro hP hJ hY hok.1 hnx _ s a w).1 h hr),fun l rest h=>?_⟩
  unfold findLabel at h
  show ∃ k,lookP (((awp2 P x).2.map fun p=>(p.1,fun Φ s=>p.2 (thenK ((awp2 P y).1 Φ) Φ) s)) ++ (awp2 P y).2) l = some k ∧ _
  rw [lookP_append,lookP_map (fun k Φ s=>k (thenK ((awp2 P y).1 Φ) Φ) s)]
  cases hx:findLabel x l with
  | some r=>
   rw [hx] at h
   cases h
   obtain ⟨k,hk,hs⟩:=(code_sound x E ro hP hJ hY hok.1 hnx (thenK (awp P y Φ) Φ) s a w).2 l r hx
   exact ⟨_,by rw [hk]; rfl,fun h hr=>then_ok r a w (hs h hr)⟩
  | none=>
   rw [hx] at h
   rw [labels_none x l hx]
   obtain ⟨k,hk,hs⟩:=(code_sound y E ro hP hJ hY hok.2 hny Φ s a w).2 l rest h
   exact ⟨k,by rw [hk]; rfl,hs⟩
 | .cond c x y,E,ro,hP,hJ,hY,hok,hn,Φ,s,a,w=>⟨fun h hr=>by
   simp only [codeOk,Bool.and_eq_true] at hok
   have hnx:(E.fixed = false ∧ ro = none) ∨ codeOk.noRange x = true:=hn.imp id fun h=>by simp only [codeOk.noRange,Bool.and_eq_true] at h; exact h.1
   have hny:(E.fixed = false ∧ ro = none) ∨ codeOk.noRange y = true:=hn.imp id fun h=>by simp only [codeOk.noRange,Bool.and_eq_true] at h; exact h.2
   have hev:∀ b,ev s.τ c = .bool b → a.eval c = .bool b:=fun b hb=>by
    obtain ⟨S,own,C,D,Ds,hr⟩:=hr
    have h1:=R_ev hr.tmps c
    rw [hb] at h1
    generalize a.eval c = z at h1
    cases h1; rfl
   rcases condW_inv h with ⟨hc,h⟩ | ⟨hc,h⟩
   ·exact wpIn_cond_true (hev _ hc) ((code_sound x E ro hP hJ hY hok.1 hnx Φ s a w).1 h hr)
   ·exact wpIn_cond_false (hev _ hc) ((code_sound y E ro hP hJ hY hok.2 hny Φ s a w).1 h hr),fun l rest h=>by cases h⟩
 | .block id c,E,ro,hP,hJ,hY,hok,hn,Φ,s,a,w=>⟨fun h hr=>by
   refine wpIn_block (wpIn_mono ((code_sound c E ro hP hJ hY hok hn _ s a w).1 h hr) ?_)
   rintro e a' w' ⟨s',h',hr'⟩
   cases e with
   | exit id'=>
    unfold blkK at h'
    unfold Exit.inBlock
    dsimp only at h' ⊢
    split
    ·rename_i e
     rw [if_pos e] at h'
     exact ⟨s',h',hr'⟩
    ·rename_i e
     rw [if_neg e] at h'
     exact ⟨s',h',hr'⟩
   | _=>exact ⟨s',h',hr'⟩,fun l rest h=>by cases h⟩
 | .loop c,E,ro,hP,hJ,hY,hok,hn,Φ,s,a,w=>⟨fun h hr=>by
   obtain ⟨I,k,s0,hle,hI,hbody⟩:=h
   have hex:∀ a w,(∃ k s,I k s ∧ Rel E s a w) → ∃ k,(∃ s,I k s ∧ Rel E s a w) ∧ ∀ k',(∃ s,I k' s ∧ Rel E s a w) → k ≤ k':=fun a w ⟨k,hk⟩=>by
    induction k using Nat.strongRecOn with
    | _ k ih=>
     by_cases hm:∃ k',k' < k ∧ ∃ s,I k' s ∧ Rel E s a w
     ·obtain ⟨k',h1,h2⟩:=hm
      exact ih k' h1 h2
     ·exact ⟨k,hk,fun k' hk'=>Nat.le_of_not_lt fun hlt=>hm ⟨k',hlt,hk'⟩⟩
   classical
   let μ:Act → World → Nat:=fun a w=>if h:∃ k s,I k s ∧ Rel E s a w then Classical.choose (hex a w h) else 0
   have hμ:∀ a w (h:∃ k s,I k s ∧ Rel E s a w),(∃ s,I (μ a w) s ∧ Rel E s a w) ∧ ∀ k',(∃ s,I k' s ∧ Rel E s a w) → μ a w ≤ k':=fun a w h=>by
    have:μ a w = Classical.choose (hex a w h):=dif_pos h
    rw [this]
    exact Classical.choose_spec (hex a w h)
   refine wpIn_loop (fun a w=>∃ k s,I k s ∧ Rel E s a w) μ ⟨k,s0,hI,hr.weaken hle⟩ fun a w hI=>?_
   obtain ⟨⟨s1,hI1,hr1⟩,hmin⟩:=hμ a w hI
   refine wpIn_mono ((code_sound c E ro hP hJ hY hok hn _ s1 a w).1 (hbody _ s1 hI1) hr1) ?_
   rintro e a' w' ⟨s',h',hr'⟩
   cases e with
   | normal=>
    obtain ⟨k',s'',hlt,hle',hI'⟩:=h'
    have hI2:∃ k s,I k s ∧ Rel E s a' w':=⟨k',s'',hI',hr'.weaken hle'⟩
    exact ⟨hI2,Nat.lt_of_le_of_lt ((hμ a' w' hI2).2 k' ⟨s'',hI',hr'.weaken hle'⟩) hlt⟩
   | _=>exact ⟨s',h',hr'⟩,fun l rest h=>by cases h⟩
 | .exit id,E,ro,hP,hJ,hY,hok,hn,Φ,s,a,w=>⟨fun h hr=>wpIn_exit ⟨s,h,hr⟩,fun l rest h=>by cases h⟩
 | .goto l',E,ro,hP,hJ,hY,hok,hn,Φ,s,a,w=>⟨fun h hr=>wpIn_goto ⟨s,h,hr⟩,fun l rest h=>by cases h⟩
 | .ret,E,ro,hP,hJ,hY,hok,hn,Φ,s,a,w=>⟨fun h hr=>wpIn_ret ⟨s,h,hr⟩,fun l rest h=>by cases h⟩
 | .refuse _,E,ro,hP,hJ,hY,hok,hn,Φ,s,a,w=>⟨fun h _=>h.elim,fun l rest h=>by cases h⟩
 | .scope c,E,ro,hP,hJ,hY,hok,hn,Φ,s,a,w=>⟨fun h hr=>by
   obtain ⟨I,hfirst,hpass⟩:=h
   refine wpIn_scope (fun l m a w=>∃ s,I l m s ∧ Rel E s a w) (wpIn_mono ((code_sound c E ro hP hJ hY hok hn _ s a w).1 hfirst hr) ?_) ?_
   ·rintro e a' w' ⟨s',h',hr'⟩
    cases e with
    | goto l=>
     obtain ⟨m,s'',hle,hI⟩:=h'
     exact ⟨m,s'',hI,hr'.weaken hle⟩
    | _=>exact ⟨s',h',hr'⟩
   ·rintro l m a w ⟨s,hI,hr⟩
    have h1:=hpass l m s hI
    obtain ⟨k,hk,h2⟩:=lookR_map (fun k J s=>k (gotoK J Φ) s) _ h1
    cases hf:findLabel c l with
    | none=>rw [labels_none c l hf] at hk; cases hk
    | some rest=>
     refine ⟨rest,rfl,?_⟩
     obtain ⟨k',hk',hs⟩:=(code_sound c E ro hP hJ hY hok hn (gotoK (fun l' s'=>∃ m' s'',m' < m ∧ s'.le s'' ∧ I l' m' s'') Φ) s a w).2 l rest hf
     rw [hk] at hk'
     cases hk'
     refine wpIn_mono (hs h2 hr) ?_
     rintro e a' w' ⟨s',h',hr'⟩
     cases e with
     | goto l'=>
      obtain ⟨m',s'',hlt,hle,hI'⟩:=h'
      exact ⟨m',hlt,s'',hI',hr'.weaken hle⟩
     | _=>exact ⟨s',h',hr'⟩,fun l rest h=>by cases h⟩
 | .rangeFunc f ps x y,E,ro,hP,hJ,hY,hok,hn,Φ,s,a,w=>⟨fun h hr=>by
   simp only [codeOk,Bool.and_eq_true] at hok
   obtain ⟨hps,⟨hx,hy⟩,hnx,hny⟩:=hok
   rcases hn with ⟨hE,rfl⟩ | hn
   case inr=>cases hn
   subst hP
   have hsx:∀ l,Sound E.P E.n (sealJ E.J) E.l (some l) x (awp E.P x):=fun l E' Φ s a w e1 e2 e3 e4 hY' h hr=>by
    rw [← e1] at h
    exact (code_sound x E' (some l) rfl (by rw [e3]; exact sealJ_ok hJ) hY' (by rw [e2]; exact hx) (.inr hnx) Φ s a w).1 h hr
   have hsy:∀ l,Sound E.P E.n (sealJ E.J) E.l (some l) y (awp E.P y):=fun l E' Φ s a w e1 e2 e3 e4 hY' h hr=>by
    rw [← e1] at h
    exact (code_sound y E' (some l) rfl (by rw [e3]; exact sealJ_ok hJ) hY' (by rw [e2]; exact hy) (.inr hny) Φ s a w).1 h hr
   exact rangeFunc_sound hJ hY hE hsx hsy (fun p hp=>by simpa using List.all_eq_true.1 hps p hp) h hr,fun l rest h=>by cases h⟩
theorem awp_sound {E:Env} (hJ:JOk E.J) (hY:YOkE E) (hE:E.fixed = false) (c:Code) (Φ:Exit → St → Prop) (s:St) (a:Act) (w:World) (hok:codeOk E.n c = true) (h:awp E.P c Φ s) (hr:Rel E s a w):c.wpIn (FW none) 0 E.P (post E Φ) a w:=
 (code_sound c E none rfl hJ hY hok (.inl ⟨hE,rfl⟩) Φ s a w).1 h hr
end Go.Am
namespace Go.Am
open Go.RowKit
def resOne (P:Program) (τ:Nat → AV) (H:Heap):ResultVar → Option AV
 | .tmp t=>some (τ t)
 | .cell a t=>ob (szOf P t) fun n=>ob (aggOf P t) fun ag=>rdV H n ag (τ a)
def resAll (P:Program) (τ:Nat → AV) (H:Heap):List ResultVar → Option (List AV)
 | []=>some []
 | r :: rs=>ob (resOne P τ H r) fun v=>ob (resAll P τ H rs) fun vs=>some (v :: vs)
def resV (P:Program) (τ:Nat → AV) (H:Heap):List ResultVar → Option AV
 | [r]=>resOne P τ H r
 | rs=>ob (resAll P τ H rs) fun vs=>some (.tup vs)
def retW (P:Program) (rs:List ResultVar) (r:AV) (s:St):Prop:=bindO (resV P s.τ s.H rs) fun v=>closed (pur (frz s.H v) v) = true ∧ pur (frz s.H v) v = r
@[congr] theorem retW_congr {P:Program} {rs:List ResultVar} {r:AV} {s s':St} (h:s = s'):retW P rs r s = retW P rs r s':=by rw [h]
def retK (P:Program) (rs:List ResultVar) (r:AV):Exit → St → Prop
 | .normal,s=>retW P rs r s
 | .ret,s=>retW P rs r s
 | _,_=>False
section
variable {E : Env} {s : St} {a : Act} {w : World} {S : Nat → Prop} {own : Nat → Option Nat} {C D : Nat → Prop} {Ds : List Nat}
def resS (tmps:Array Value):ResultVar → Sem Value
 | .tmp t=>pure (tmps.getD t undef)
 | .cell a t=>do loadVar t (← asAddr (tmps.getD a undef))
theorem results_eq (fn:Func) (tmps:Array Value):results fn tmps = (do let vs ← fn.results.mapM (resS tmps); pure (if h:vs.size = 1 then vs[0] else .tuple vs)):=by
 have e:(fun (r:ResultVar)=>(match r with
  | .tmp t=>pure (tmps.getD t undef)
  | .cell a t=>do loadVar t (← asAddr (tmps.getD a undef)):Sem Value)) = resS tmps:=by
  funext r
  cases r <;> rfl
 rw [← e]
 rfl
theorem RelAt.resOne (h:RelAt E s a w S own C D Ds) {rv:ResultVar} {v:AV} (hr:resOne E.P s.τ s.H rv = some v) :
  ∃ u,(resS a.tmps rv).run E.P w = .ok u w ∧ R (ctx E s w S own) v u:=by
 cases rv with
 | tmp t=>cases hr; exact ⟨_,rfl,h.tmps t⟩
 | cell p t=>
  obtain ⟨n,hn,hr⟩:=ob_eq_some hr
  obtain ⟨ag,ha,hr⟩:=ob_eq_some hr
  obtain ⟨u,h1,h2⟩:=h.rdV (h.tmps p) hn ha hr
  refine ⟨u,?_,h2⟩
  unfold Instr.loadAt Instr.sureAddr at h1
  show (do loadVar t (← asAddr (a.tmps.getD p undef)):Sem Value).run E.P w = _
  obtain ⟨z,hz⟩:∃ z,a.tmps.getD p undef = z:=⟨_,rfl⟩
  rw [hz] at h1 ⊢
  clear hz
  cases z with
  | pointer q=>
   cases q with
   | some q=>
    simp only [Sem.run_bind,Sem.run_pure,Result.andThen_ok] at h1
    simp only [asAddr,Sem.run_bind,Sem.run_pure,Result.andThen_ok,h1]
   | none=>simp at h1
  | _=>simp at h1
theorem RelAt.resAll (h:RelAt E s a w S own C D Ds):∀ {rs:List ResultVar} {vs:List AV},resAll E.P s.τ s.H rs = some vs →
  ∃ us:List Value,(rs.mapM (resS a.tmps)).run E.P w = .ok us w ∧ us.length = vs.length ∧ ∀ (i:Nat) (x:AV),vs[i]? = some x → R (ctx E s w S own) x (us.getD i undef)
 | [],vs,hr=>by cases hr; exact ⟨[],rfl,rfl,fun i x hx=>by simp at hx⟩
 | rv :: rs,vs,hr=>by
  unfold Am.resAll at hr
  obtain ⟨v,hv,hr⟩:=ob_eq_some hr
  obtain ⟨ws,hws,hr⟩:=ob_eq_some hr
  cases hr
  obtain ⟨u,h1,h2⟩:=h.resOne hv
  obtain ⟨us,h3,h4,h5⟩:=h.resAll hws
  refine ⟨u :: us,?_,by simp [h4],fun i x hx=>?_⟩
  ·rw [List.mapM_cons]
   simp only [Sem.run_bind,h1,Result.andThen_ok,h3,Sem.run_pure]
  ·cases i with
   | zero=>simp at hx; subst hx; simpa using h2
   | succ i=>simpa using h5 i x (by simpa using hx)
theorem resAll_length {P:Program} {τ:Nat → AV} {H:Heap}:∀ {rs:List ResultVar} {vs:List AV},Am.resAll P τ H rs = some vs → vs.length = rs.length
 | [],vs,h=>by cases h; rfl
 | r :: rs,vs,h=>by
  unfold Am.resAll at h
  obtain ⟨v,hv,h⟩:=ob_eq_some h
  obtain ⟨ws,hws,h⟩:=ob_eq_some h
  cases h
  simp [resAll_length hws]
theorem RelAt.resV (h:RelAt E s a w S own C D Ds) {fn:Func} {v:AV} (hr:resV E.P s.τ s.H fn.results.toList = some v):∃ u,(results fn a.tmps).run E.P w = .ok u w ∧ R (ctx E s w S own) v u:=by
 obtain ⟨rs,hrs⟩:∃ rs:List ResultVar,fn.results = rs.toArray:=⟨fn.results.toList,by simp⟩
 rw [results_eq,hrs]
 rw [hrs] at hr
 simp only [List.toList_toArray] at hr
 rw [List.mapM_toArray]
 by_cases h1:∃ rv,rs = [rv]
 ·obtain ⟨rv,rfl⟩:=h1
  obtain ⟨u,h2,h3⟩:=h.resOne hr
  refine ⟨u,?_,h3⟩
  simp only [Sem.run_bind,Sem.run_map,List.mapM_cons,List.mapM_nil,h2,Result.andThen_ok,Sem.run_pure]
  rfl
 ·have e:Am.resV E.P s.τ s.H rs = ob (Am.resAll E.P s.τ s.H rs) fun vs=>some (.tup vs):=by
   cases rs with
   | nil=>rfl
   | cons r rs=>cases rs with
    | nil=>exact (h1 ⟨r,rfl⟩).elim
    | cons r' rs=>rfl
  rw [e] at hr
  obtain ⟨vs,hvs,hr⟩:=ob_eq_some hr
  cases hr
  obtain ⟨us,h2,h3,h4⟩:=h.resAll hvs
  refine ⟨.tuple us.toArray,?_,.tup vs us h3 h4⟩
  simp only [Sem.run_bind,Sem.run_map,h2,Result.andThen_ok,Sem.run_pure]
  have hl:us.toArray.size ≠ 1:=by
   intro h5
   have h5:us.length = 1:=h5
   have:=resAll_length hvs
   apply h1
   match rs,this with
   | [r],_=>exact ⟨r,rfl⟩
   | [],h=>simp only [List.length_nil] at h; omega
   | _ :: _ :: _,h=>simp only [List.length_cons] at h; omega
  rw [dif_neg hl]
theorem RelAt.mark {d:Nat} (h:RelAt E s a w S own C D (d :: Ds)) (hJ:JOk E.J) (hE:E.fixed = false):RelAt E s { a with defers:=Ds.map fun d=>{ target:=.collected d,args:=#[] } } (w.putObj d (.deferred none)) S own C D Ds:=by
 obtain ⟨g1,g2,g3,g4⟩:=h.hDs d (by simp)
 have hnd:=List.nodup_cons.1 h.nodup
 have hne:∀ b,b ≠ d → (w.putObj d (.deferred none)).heap[b]? = w.heap[b]?:=fun b hb=>World.putObj_heap_other hb
 have hsz:(w.putObj d (.deferred none)).heap.size = w.heap.size:=World.putObj_size
 have hSd:∀ b,S b → b ≠ d:=fun b hb e=>g3 (e ▸ hb)
 have hDd:∀ b,D b → b ≠ d:=fun b hb e=>g4 (e ▸ hb)
 have hod:∀ k blk g,s.H k = some blk → blk.live = true → own k = some g → g ≠ d:=fun k blk g hk hl e hgd=>by
  subst hgd
  have hh:=h.heap k blk hk
  rw [e] at hh
  cases blk with
  | row ver t sz rows=>obtain ⟨cs,cap',g1',_⟩:=hh; rw [g1] at g1'; cases g1'
  | box ver t cells=>obtain ⟨cs,g1',_⟩:=hh; rw [g1] at g1'; cases g1'
  | obj ver ob=>obtain ⟨o,g1',ho⟩:=hh; rw [g1] at g1'; cases g1'; exact ho.not.2.1 _ rfl
  | _=>cases hl
 have hle:(ctx E s w S own).le (ctx E s (w.putObj d (.deferred none)) S own):=⟨fun b hb=>⟨hb,hne b (hSd b hb)⟩,
  fun k blk hk=>⟨blk,hk,Nat.le_refl _,fun _ r v hr=>hr.same fun g e hl=>hne g (hod k blk g hk hl e)⟩,rfl⟩
 exact {
  fr:=⟨h.fr.os,h.fr.tape,h.fr.output,by rw [hsz]; exact h.fr.size,fun b hb hx=>(hne b (by omega)).trans (h.fr.block b hb hx)⟩
  hS:=fun b hb=>by rw [hsz]; exact h.hS b hb
  hS0:=h.hS0
  hC:=h.hC
  hD:=fun b hb=>by rw [hsz]; exact h.hD b hb
  j:=hJ _ _ _ _ _ h.j (fun b hb=>hne b (hDd b hb)) (Nat.le_of_eq hsz.symm) rfl rfl rfl
  hown:=fun k blk g hk hl e=>by rw [hsz]; exact h.hown k blk g hk hl e
  inj:=h.inj
  heap:=fun k blk hk=>(h.heap k blk hk).mono hle fun g e hl=>hne g (hod k blk g hk hl e)
  tmps:=fun i=>(h.tmps i).mono hle
  size:=h.size
  defers:=rfl
  hDs:=fun d' hd'=>by
   obtain ⟨q1,q2⟩:=h.hDs d' (by simp [hd'])
   exact ⟨(hne d' (fun e=>hnd.1 (e ▸ hd'))).trans q1,q2⟩
  nodup:=hnd.2
  le:=h.le.trans hle
  cd:=h.cd
  fix:=fun e=>by rw [hE] at e; cases e }
theorem RelAt.leaves (hJ:JOk E.J) (hE:E.fixed = false) {fn:Func} {v:AV} {Q:Ending → World → Prop}:∀ {Ds:List Nat} {a:Act} {w:World},RelAt E s a w S own C D Ds → Am.resV E.P s.τ s.H fn.results.toList = some v →
  (∀ a w u,RelAt E s a w S own C D [] → R (ctx E s w S own) v u → Q (.returned u) w) → LeavesInM (FW none) 0 E.P fn a.tmps Q (Ds.map fun d=>{ target:=.collected d,args:=#[] }) .returning w
 | [],a,w,h,hr,hQ=>by
  obtain ⟨u,h1,h2⟩:=h.resV hr
  exact ⟨u,h1,hQ a w u h h2⟩
 | d :: Ds,a,w,h,hr,hQ=>by
  obtain ⟨g1,_⟩:=h.hDs d (by simp)
  exact ⟨by simp,.inl ⟨d,_,rfl,run_takeDeferred g1,(h.mark hJ hE).leaves hJ hE hr hQ⟩⟩
end
def argτ (args:List AV):Nat → AV:=fun i=>args.getD i (.tup [])
def noG:G:=⟨[],true⟩
def noJ:G → (Nat → Prop) → (Nat → Prop) → World → Prop:=fun g C D _=>g.stop = .b true ∧ (∀ b,¬ C b) ∧ ∀ b,¬ D b
theorem noJ_yok (P:Program) (l:Nat) (T:Nat → Prop):YOk P noJ l T:=fun args rest C D w S vs hj=>by cases hj.1
theorem noJ_yoke {E:Env} (h:E.J = noJ):YOkE E:=⟨by rw [h]; exact noJ_yok _ _ _,.none fun g C D w hj=>by rw [h] at hj; exact ⟨_,hj.1⟩⟩
theorem noJ_ok:JOk noJ:=fun _ _ _ _ _ h _ _ _ _ _=>h
theorem Spec.of_awp {P : Program} {f : FuncId} {fn : Func} {c : Code} {args : List AV} {r : AV} {s0 : St} (hle : St.le ⟨argτ args, fun _ => none, noG⟩ s0) (hf : P.funcs[f]? = some fn) (hb : fn.body = some c) (hname : (fn.name == "runtime.NumGoroutine") = false) (hok : codeOk fn.ntmps c = true) (hn : args.length ≤ fn.ntmps)
  (h:awp P c (retK P fn.results.toList r) s0):Spec P f args r where
 enters:=fun as w=>by
  unfold callFunc
  simp only [Sem.run_bind,run_program,Result.andThen_ok,hf,hname,hb]
  simp
 calls:=fun w S l vs hS hvs=>by
  refine callsIn_of_wp_marks hf hb trivial ?_ rfl
  let E:Env:=⟨P,fn.ntmps,w,S,fun _=>False,noJ,l,⟨fun _=>none,fun _=>none,S,w,l⟩,fun _=>False,fun _=>False,false⟩
  have hrel:RelAt E ⟨argτ args,fun _=>none,noG⟩ { tmps:=vs.toArray ++ Array.replicate (fn.ntmps - vs.toArray.size) undef,defers:=[] } w S (fun _=>none) (fun _=>False) (fun _=>False) []:={
   fr:=⟨rfl,rfl,rfl,Nat.le_refl _,fun _ _ _=>rfl⟩
   hS:=fun b hb=>⟨hS b hb,id,.inl hb⟩
   hS0:=fun b hb=>hb
   hC:=fun b hb=>hb.elim
   hD:=fun b hb=>hb.elim
   j:=⟨rfl,fun _ h=>h,fun _ h=>h⟩
   hown:=fun k blk g hk=>by cases hk
   inj:=fun k k' b b' g hk=>by cases hk
   heap:=fun k blk hk=>by cases hk
   tmps:=fun i=>by
    have hlen:=hvs.1
    show R (bare S w l) (args.getD i (.tup [])) _
    rw [Array.getD_eq_getD_getElem?,Array.getElem?_append]
    simp only [List.size_toArray]
    by_cases hi:i < vs.length
    ·rw [if_pos hi,List.getD_eq_getElem?_getD,List.getElem?_eq_getElem (by omega)]
     have:=hvs.2 i args[i] (List.getElem?_eq_getElem (by omega))
     rw [List.getD_eq_getElem?_getD,List.getElem?_eq_getElem hi] at this
     simpa [hi] using this
    ·rw [if_neg hi,List.getD_eq_getElem?_getD,List.getElem?_eq_none (by omega)]
     have hu:((Array.replicate (fn.ntmps - vs.length) undef)[i - vs.length]?).getD undef = undef:=by
      rw [Array.getElem?_replicate]
      split <;> rfl
     rw [hu]
     exact .tup [] [] rfl fun i a hi=>by simp at hi
   size:=by
    have:=hvs.1
    show (vs.toArray ++ Array.replicate (fn.ntmps - vs.toArray.size) undef).size = fn.ntmps
    simp
    omega
   defers:=rfl
   hDs:=fun d hd=>by simp at hd
   nodup:=List.nodup_nil
   le:=.refl _
   cd:=⟨fun _ h=>h.elim,fun _ h=>h.elim⟩
   fix:=fun e=>by cases e }
  refine wpIn_mono (awp_sound (E:=E) noJ_ok (noJ_yoke rfl) rfl c _ _ _ w hok h (Rel.weaken ⟨S,_,_,_,[],hrel⟩ hle)) ?_
  have key:∀ s a' w',retW P fn.results.toList r s → Rel E s a' w' →
    LeavesInM (FW none) 0 P fn a'.tmps (fun e w'=>∃ v,e = .returned v ∧ Below w.heap.size w w' ∧ R (bare (fun b=>S b ∨ (w.heap.size ≤ b ∧ b < w'.heap.size)) w' l) r v) a'.defers .returning w':=by
   rintro s a' w' hret hr
   unfold retW at hret
   cases hres:resV P s.τ s.H fn.results.toList with
   | none=>rw [hres] at hret; exact hret.elim
   | some v=>
    rw [hres] at hret
    obtain ⟨hcl,rfl⟩:=hret
    obtain ⟨S',own,C,D,Ds,hr⟩:=hr
    rw [hr.defers]
    refine hr.leaves noJ_ok rfl hres fun a2 w2 u hr3 hu=>⟨u,rfl,?_,?_⟩
    ·exact ⟨hr3.fr.os,hr3.fr.tape,hr3.fr.output,hr3.fr.size,fun k hk=>hr3.fr.block k hk id⟩
    ·obtain ⟨S2,hr4,hle⟩:=frz_ok E s a2 w2 S' own C D [] v hr3
     have h1:=(R.pur (C:=ctx E { s with H:=frz s.H v } w2 S2 own) hr4.heap (hu.mono hle)).bare l hcl
     refine R.mono (C:=bare S2 w2 l) (C':=bare (fun b=>S b ∨ (w.heap.size ≤ b ∧ b < w2.heap.size)) w2 l) ⟨fun b hb=>⟨?_,rfl⟩,fun k blk hk=>(by cases hk),rfl⟩ h1
     show S b ∨ (w.heap.size ≤ b ∧ b < w2.heap.size)
     obtain ⟨q1,_,q2⟩:=hr4.hS b hb
     rcases q2 with q2 | q2 | q2
     ·exact .inl q2
     ·exact q2.elim
     ·exact .inr ⟨q2,q1⟩
  rintro e a' w' ⟨s,hΦ,hr⟩
  cases e with
  | normal=>exact key s a' w' hΦ hr
  | ret=>exact key s a' w' hΦ hr
  | _=>exact hΦ.elim
def retRW (P:Program) (rs:List ResultVar) (t:TypeId) (sz:Nat) (rows:List (List AV)) (s:St):Prop:=(∃ k ver,resV P s.τ s.H rs = some (.ref k ver .o) ∧ s.H k = some (.row ver t sz rows)) ∨ resV P s.τ s.H rs = some .nils ∧ rows = [] ∧ 0 < sz
def retRK (P:Program) (rs:List ResultVar) (t:TypeId) (sz:Nat) (rows:List (List AV)):Exit → St → Prop
 | .normal,s=>retRW P rs t sz rows s
 | .ret,s=>retRW P rs t sz rows s
 | _,_=>False
theorem RowSpec.of_awp {P : Program} {f : FuncId} {fn : Func} {c : Code} {args : List AV} {t : TypeId} {sz : Nat} {rows : List (List AV)} {s0 : St} (hflat : closedLL rows = true) (hle : St.le ⟨argτ args, fun _ => none, noG⟩ s0) (hf : P.funcs[f]? = some fn) (hb : fn.body = some c) (hname : (fn.name == "runtime.NumGoroutine") = false) (hok : codeOk fn.ntmps c = true) (hn : args.length ≤ fn.ntmps)
  (h:awp P c (retRK P fn.results.toList t sz rows) s0):RowSpec P f args t sz rows where
 shut:=hflat
 enters:=fun as w=>by
  unfold callFunc
  simp only [Sem.run_bind,run_program,Result.andThen_ok,hf,hname,hb]
  simp
 calls:=fun w S l vs hS hvs=>by
  refine callsIn_of_wp_marks hf hb trivial ?_ rfl
  let E:Env:=⟨P,fn.ntmps,w,S,fun _=>False,noJ,l,⟨fun _=>none,fun _=>none,S,w,l⟩,fun _=>False,fun _=>False,false⟩
  have hrel:RelAt E ⟨argτ args,fun _=>none,noG⟩ { tmps:=vs.toArray ++ Array.replicate (fn.ntmps - vs.toArray.size) undef,defers:=[] } w S (fun _=>none) (fun _=>False) (fun _=>False) []:={
   fr:=⟨rfl,rfl,rfl,Nat.le_refl _,fun _ _ _=>rfl⟩
   hS:=fun b hb=>⟨hS b hb,id,.inl hb⟩
   hS0:=fun b hb=>hb
   hC:=fun b hb=>hb.elim
   hD:=fun b hb=>hb.elim
   j:=⟨rfl,fun _ h=>h,fun _ h=>h⟩
   hown:=fun k blk g hk=>by cases hk
   inj:=fun k k' b b' g hk=>by cases hk
   heap:=fun k blk hk=>by cases hk
   tmps:=fun i=>by
    have hlen:=hvs.1
    show R (bare S w l) (args.getD i (.tup [])) _
    rw [Array.getD_eq_getD_getElem?,Array.getElem?_append]
    simp only [List.size_toArray]
    by_cases hi:i < vs.length
    ·rw [if_pos hi,List.getD_eq_getElem?_getD,List.getElem?_eq_getElem (by omega)]
     have:=hvs.2 i args[i] (List.getElem?_eq_getElem (by omega))
     rw [List.getD_eq_getElem?_getD,List.getElem?_eq_getElem hi] at this
     simpa [hi] using this
    ·rw [if_neg hi,List.getD_eq_getElem?_getD,List.getElem?_eq_none (by omega)]
     have hu:((Array.replicate (fn.ntmps - vs.length) undef)[i - vs.length]?).getD undef = undef:=by
      rw [Array.getElem?_replicate]
      split <;> rfl
     rw [hu]
     exact .tup [] [] rfl fun i a hi=>by simp at hi
   size:=by
    have:=hvs.1
    show (vs.toArray ++ Array.replicate (fn.ntmps - vs.toArray.size) undef).size = fn.ntmps
    simp
    omega
   defers:=rfl
   hDs:=fun d hd=>by simp at hd
   nodup:=List.nodup_nil
   le:=.refl _
   cd:=⟨fun _ h=>h.elim,fun _ h=>h.elim⟩
   fix:=fun e=>by cases e }
  refine wpIn_mono (awp_sound (E:=E) noJ_ok (noJ_yoke rfl) rfl c _ _ _ w hok h (Rel.weaken ⟨S,_,_,_,[],hrel⟩ hle)) ?_
  have key:∀ s a' w',retRW P fn.results.toList t sz rows s → Rel E s a' w' →
    LeavesInM (FW none) 0 P fn a'.tmps (fun e w'=>∃ v og S',e = .returned v ∧ Below w.heap.size w w' ∧ (∀ g,og = some g → w.heap.size ≤ g ∧ g < w'.heap.size) ∧ HRel (bare S' w' l) og (.row 0 t sz rows) ∧ RefVal w' og (.row 0 t sz rows) .o v ∧ v.oneCell' = true ∧ (∀ b,S' b → S b ∨ (w.heap.size ≤ b ∧ b < w'.heap.size)) ∧ ∀ g,og = some g → ¬ S' g) a'.defers .returning w':=by
   rintro s a' w' (⟨key,ver,hres,hkey⟩ | ⟨hres,hrows,hsz⟩) hr
   ·obtain ⟨S',own,C,D,Ds,hr⟩:=hr
    rw [hr.defers]
    refine hr.leaves noJ_ok rfl hres fun a2 w2 u hr3 hu=>⟨u,own key,S',rfl,?_,fun g eg=>?_,?_,?_⟩
    ·exact ⟨hr3.fr.os,hr3.fr.tape,hr3.fr.output,hr3.fr.size,fun k hk=>hr3.fr.block k hk id⟩
    ·obtain ⟨q1,_,_,q2 | q2⟩:=hr3.hown key _ g hkey rfl eg
     ·exact q2.elim
     ·exact ⟨q2,q1⟩
    ·exact (hr3.heap key _ hkey).shutRow hflat (fun _ h=>h) rfl rfl
    ·cases hu with
     | ref _ _ _ blk _ hb hv hone h=>
      have e:blk = .row ver t sz rows:=by rw [show (ctx E s w2 S' own).H key = some (.row ver t sz rows) from hkey] at hb; exact (Option.some.inj hb).symm
      subst e
      have h:=h rfl
      refine ⟨?_,hone,fun b hb=>?_,fun g eg=>(hr3.hown key _ g hkey rfl eg).2.1⟩
      ·change RefVal w2 (own key) _ _ _ at h
       revert h
       cases own key <;> exact id
      ·obtain ⟨q1,_,q2⟩:=hr3.hS b hb
       rcases q2 with q2 | q2 | q2
       ·exact .inl q2
       ·exact q2.elim
       ·exact .inr ⟨q2,q1⟩
   ·obtain ⟨S',own,C,D,Ds,hr⟩:=hr
    rw [hr.defers]
    refine hr.leaves noJ_ok rfl hres fun a2 w2 u hr3 hu=>⟨u,none,S',rfl,?_,(fun g eg=>by cases eg),⟨hrows,hsz⟩,?_⟩
    ·exact ⟨hr3.fr.os,hr3.fr.tape,hr3.fr.output,hr3.fr.size,fun k hk=>hr3.fr.block k hk id⟩
    ·cases hu
     refine ⟨rfl,rfl,fun b hb=>?_,fun g eg=>by cases eg⟩
     obtain ⟨q1,_,q2⟩:=hr3.hS b hb
     rcases q2 with q2 | q2 | q2
     ·exact .inl q2
     ·exact q2.elim
     ·exact .inr ⟨q2,q1⟩
  rintro e a' w' ⟨s,hΦ,hr⟩
  cases e with
  | normal=>exact key s a' w' hΦ hr
  | ret=>exact key s a' w' hΦ hr
  | _=>exact hΦ.elim
def subA (h:List (Nat × Blk)):List (Nat × Blk) → Prop
 | []=>True
 | (k,b) :: r=>lookB h k = some b ∧ subA h r
theorem lookB_of_subA {h:List (Nat × Blk)}:∀ {h':List (Nat × Blk)} {k:Nat} {b:Blk},subA h h' → lookB h' k = some b → lookB h k = some b
 | [],k,b,_,hk=>by cases hk
 | (j,c) :: r,k,b,hs,hk=>by
  unfold lookB at hk
  by_cases e:j = k
  ·subst e; rw [if_pos rfl] at hk; cases hk; exact hs.1
  ·rw [if_neg e] at hk; exact lookB_of_subA hs.2 hk
theorem hls_le {h h':List (Nat × Blk)} (hs:subA h h') (vs:Nat → Nat) (k:Nat) :
  hls h' (fun k=>ver0 (hls h vs) k) k = hls h vs k ∨ ∃ v,hls h' (fun k=>ver0 (hls h vs) k) k = some (.dead v) ∧ ∀ b,hls h vs k = some b → b.ver ≤ v:=by
 cases e:lookB h' k with
 | some b=>left; rw [hls_some e,hls_some (lookB_of_subA hs e)]
 | none=>
  right
  refine ⟨_,hls_none e,fun b hb=>?_⟩
  unfold ver0
  rw [hb]
  exact Nat.le_refl _
def retHW (P:Program) (rs:List ResultVar) (Q:AV → List (Nat × Blk) → Prop) (s:St):Prop:=
 ∃ (fz:Bool) (v:AV) (L:List (Nat × Blk)) (VS:Nat → Nat) (l':List (Nat × Blk)),resV P s.τ s.H rs = some v ∧ (if fz then frz s.H v else s.H) = hls L VS ∧ subA L l' ∧ Q (if fz then pur (frz s.H v) v else v) l'
def retHK (P:Program) (rs:List ResultVar) (Q:AV → List (Nat × Blk) → Prop):Exit → St → Prop
 | .normal,s=>retHW P rs Q s
 | .ret,s=>retHW P rs Q s
 | _,_=>False
theorem HSpecL.of_awp {P : Program} {f : FuncId} {fn : Func} {c : Code} {args : List AV} {l : List (Nat × Blk)} {Q : AV → List (Nat × Blk) → Prop} (hf : P.funcs[f]? = some fn) (hb : fn.body = some c) (hname : (fn.name == "runtime.NumGoroutine") = false) (hok : codeOk fn.ntmps c = true) (hn : args.length ≤ fn.ntmps)
  (h:∀ vs,∃ s0,St.le ⟨argτ args,hls l vs,noG⟩ s0 ∧ awp P c (retHK P fn.results.toList Q) s0):HSpecL P f args l Q:=fun vs=>{
 enters:=fun as w=>by
  unfold callFunc
  simp only [Sem.run_bind,run_program,Result.andThen_ok,hf,hname,hb]
  simp
 calls:=fun C0 vs0 hH hC hvs=>by
  obtain ⟨s0,hle,h⟩:=h vs
  refine callsIn_of_wp_marks hf hb trivial ?_ rfl
  let E:Env:=⟨P,fn.ntmps,C0.w,C0.S,LiveC C0,noJ,C0.l,C0,fun _=>False,fun _=>False,false⟩
  have hrel:RelAt E ⟨argτ args,hls l vs,noG⟩ { tmps:=vs0.toArray ++ Array.replicate (fn.ntmps - vs0.toArray.size) undef,defers:=[] } C0.w C0.S C0.own (fun _=>False) (fun _=>False) []:={
   fr:=⟨rfl,rfl,rfl,Nat.le_refl _,fun _ _ _=>rfl⟩
   hS:=fun b hb=>⟨hC.hS b hb,id,.inl hb⟩
   hS0:=fun b hb=>hb
   hC:=fun b hb=>hb.elim
   hD:=fun b hb=>hb.elim
   j:=⟨rfl,fun _ h=>h,fun _ h=>h⟩
   hown:=fun k blk g hk hl e=>by
    rw [← hH] at hk
    obtain ⟨q1,q2⟩:=hC.hown k blk g hk hl e
    exact ⟨q1,q2,id,.inl ⟨k,blk,hk,hl,e⟩⟩
   inj:=fun k k' b b' g hk hk'=>by
    rw [← hH] at hk hk'
    exact hC.inj k k' b b' g hk hk'
   heap:=fun k blk hk=>by
    rw [← hH] at hk
    have:=hC.heap k blk hk
    rw [← hH]
    exact this
   tmps:=fun i=>by
    have hlen:=hvs.1
    show R ⟨hls l vs,C0.own,C0.S,C0.w,C0.l⟩ (args.getD i (.tup [])) _
    rw [← hH]
    rw [Array.getD_eq_getD_getElem?,Array.getElem?_append]
    simp only [List.size_toArray]
    by_cases hi:i < vs0.length
    ·rw [if_pos hi,List.getD_eq_getElem?_getD,List.getElem?_eq_getElem (by omega)]
     have:=hvs.2 i args[i] (List.getElem?_eq_getElem (by omega))
     rw [List.getD_eq_getElem?_getD,List.getElem?_eq_getElem hi] at this
     simpa [hi] using this
    ·rw [if_neg hi,List.getD_eq_getElem?_getD,List.getElem?_eq_none (by omega)]
     have hu:((Array.replicate (fn.ntmps - vs0.length) undef)[i - vs0.length]?).getD undef = undef:=by
      rw [Array.getElem?_replicate]
      split <;> rfl
     rw [hu]
     exact .tup [] [] rfl fun i a hi=>by simp at hi
   size:=by
    have:=hvs.1
    show (vs0.toArray ++ Array.replicate (fn.ntmps - vs0.toArray.size) undef).size = fn.ntmps
    simp
    omega
   defers:=rfl
   hDs:=fun d hd=>by simp at hd
   nodup:=List.nodup_nil
   le:=by rw [← hH]; exact .refl _
   cd:=⟨fun _ h=>h.elim,fun _ h=>h.elim⟩
   fix:=fun e=>by cases e }
  refine wpIn_mono (awp_sound (E:=E) noJ_ok (noJ_yoke rfl) rfl c _ _ _ C0.w hok h (Rel.weaken ⟨C0.S,_,_,_,[],hrel⟩ hle)) ?_
  have key:∀ s a' w',retHW P fn.results.toList Q s → Rel E s a' w' →
    LeavesInM (FW none) 0 P fn a'.tmps (fun e w'=>∃ v r C',e = .returned v ∧ C'.w = w' ∧ HOk C' ∧ HTr C0 C' ∧ R C' r v ∧ ∃ l' vs',C'.H = hls l' vs' ∧ Q r l') a'.defers .returning w':=by
   rintro s a' w' ⟨fz,v,L,VS,l',hres,hHL,hsub,hQ⟩ hr
   obtain ⟨S',own,C,D,Ds,hr⟩:=hr
   rw [hr.defers]
   refine hr.leaves noJ_ok rfl hres fun a2 w2 u hr3 hu=>?_
   have fin:∀ (s2:St) (S2:Nat → Prop) (r:AV),s2.H = hls L VS → RelAt E s2 a2 w2 S2 own C D [] → R (ctx E s2 w2 S2 own) r u → Q r l' →
     ∃ v r C',Ending.returned u = .returned v ∧ C'.w = w2 ∧ HOk C' ∧ HTr C0 C' ∧ R C' r v ∧ ∃ l' vs',C'.H = hls l' vs' ∧ Q r l':=fun s2 S2 r hH2 hr4 hu4 hq=>by
    have hw:=Rel.weakenAt hr4 (s':={ s2 with H:=hls l' (fun k=>ver0 (hls L VS) k) }) ⟨fun _=>.inl rfl,fun k=>by show hls l' _ k = s2.H k ∨ _; rw [hH2]; exact hls_le hsub VS k,rfl⟩
    obtain ⟨hr5,hc5⟩:=hw
    refine ⟨u,r,⟨hls l' (fun k=>ver0 (hls L VS) k),own,S2,w2,C0.l⟩,rfl,rfl,?_,?_,hu4.mono hc5,l',_,rfl,hq⟩
    ·exact ⟨fun b hb=>(hr5.hS b hb).1,fun k blk g hk hl e=>⟨(hr5.hown k blk g hk hl e).1,(hr5.hown k blk g hk hl e).2.1⟩,hr5.inj,hr5.heap⟩
    ·refine ⟨hr5.le,⟨hr5.fr.os,hr5.fr.tape,hr5.fr.output,hr5.fr.size,hr5.fr.block⟩,fun b hb=>(hr5.hS b hb).2.2,fun k blk g hk hl e=>(hr5.hown k blk g hk hl e).2.2.2⟩
   cases fz with
   | false=>exact fin s S' v hHL hr3 hu hQ
   | true=>
    obtain ⟨S2,hr4,hle⟩:=frz_ok E s a2 w2 S' own C D [] v hr3
    exact fin { s with H:=frz s.H v } S2 _ hHL hr4 (R.pur (C:=ctx E { s with H:=frz s.H v } w2 S2 own) hr4.heap (hu.mono hle)) hQ
  rintro e a' w' ⟨s,hΦ,hr⟩
  cases e with
  | normal=>exact key s a' w' hΦ hr
  | ret=>exact key s a' w' hΦ hr
  | _=>exact hΦ.elim }
def retYW (P:Program) (rs:List ResultVar) (rt rf:AV) (rest:List (List AV)) (s:St):Prop:=
 bindO (resV P s.τ s.H rs) fun v=>(s.g = ⟨rest,false⟩ ∧ v = rt) ∨ (s.g.stop = .b true ∧ v = rf)
def retYK (P:Program) (rs:List ResultVar) (rt rf:AV) (rest:List (List AV)):Exit → St → Prop
 | .normal,s=>retYW P rs rt rf rest s
 | .ret,s=>retYW P rs rt rf rest s
 | _,_=>False
theorem SpecY.of_awp {P : Program} {f : FuncId} {fn : Func} {c : Code} {args : List AV} {xs : List (List AV)} {rt rf : AV} (hft : flat rt = true) (hff : flat rf = true) (hf : P.funcs[f]? = some fn) (hb : fn.body = some c) (hname : (fn.name == "runtime.NumGoroutine") = false)
  (hok:codeOk fn.ntmps c = true) (hn:args.length ≤ fn.ntmps) (h:∀ rest,∃ s0,St.le ⟨argτ args,fun _=>none,⟨xs ++ rest,false⟩⟩ s0 ∧ awp P c (retYK P fn.results.toList rt rf rest) s0):SpecY P f args xs rt rf where
 enters:=fun as w=>by
  unfold callFunc
  simp only [Sem.run_bind,run_program,Result.andThen_ok,hf,hname,hb]
  simp
 ft:=hft
 ff:=hff
 calls:=fun J l rest C D w S vs hJ hY hj hCD hD hS hvs=>by
  obtain ⟨s0,hle,h⟩:=h rest
  refine callsIn_of_wp_marks hf hb trivial ?_ rfl
  let E:Env:=⟨P,fn.ntmps,w,S,C,sealJ J,l,⟨fun _=>none,fun _=>none,S,w,l⟩,C,D,false⟩
  have hrel:RelAt E ⟨argτ args,fun _=>none,⟨xs ++ rest,false⟩⟩ { tmps:=vs.toArray ++ Array.replicate (fn.ntmps - vs.toArray.size) undef,defers:=[] } w S (fun _=>none) C D []:={
   fr:=⟨rfl,rfl,rfl,Nat.le_refl _,fun _ _ _=>rfl⟩
   hS:=fun b hb=>⟨(hS b hb).1,(hS b hb).2,.inl hb⟩
   hS0:=fun b hb=>hb
   hC:=fun b hb=>⟨hCD b hb,.inl hb⟩
   hD:=hD
   j:=⟨hj,_,rfl⟩
   hown:=fun k blk g hk=>by cases hk
   inj:=fun k k' b b' g hk=>by cases hk
   heap:=fun k blk hk=>by cases hk
   tmps:=fun i=>by
    have hlen:=hvs.1
    show R (bare S w l) (args.getD i (.tup [])) _
    rw [Array.getD_eq_getD_getElem?,Array.getElem?_append]
    simp only [List.size_toArray]
    by_cases hi:i < vs.length
    ·rw [if_pos hi,List.getD_eq_getElem?_getD,List.getElem?_eq_getElem (by omega)]
     have:=hvs.2 i args[i] (List.getElem?_eq_getElem (by omega))
     rw [List.getD_eq_getElem?_getD,List.getElem?_eq_getElem hi] at this
     simpa [hi] using this
    ·rw [if_neg hi,List.getD_eq_getElem?_getD,List.getElem?_eq_none (by omega)]
     have hu:((Array.replicate (fn.ntmps - vs.length) undef)[i - vs.length]?).getD undef = undef:=by
      rw [Array.getElem?_replicate]
      split <;> rfl
     rw [hu]
     exact .tup [] [] rfl fun i a hi=>by simp at hi
   size:=by
    have:=hvs.1
    show (vs.toArray ++ Array.replicate (fn.ntmps - vs.toArray.size) undef).size = fn.ntmps
    simp
    omega
   defers:=rfl
   hDs:=fun d hd=>by simp at hd
   nodup:=List.nodup_nil
   le:=.refl _
   cd:=⟨fun _ h=>.inl h,fun _ h=>.inl h⟩
   fix:=fun e=>by cases e }
  refine wpIn_mono (awp_sound (E:=E) (sealJ_ok hJ) ⟨sealJ_yok (hY.mono fun b hb=>hb),.none fun g C D w hj=>hj.2⟩ rfl c _ _ _ w hok h (Rel.weaken ⟨S,_,_,_,[],hrel⟩ hle)) ?_
  have key:∀ s a' w',retYW P fn.results.toList rt rf rest s → Rel E s a' w' →
    LeavesInM (FW none) 0 P fn a'.tmps (fun e w'=>∃ v C' D',e = .returned v ∧ Turned w w' S C D C' D' ∧
     ((J ⟨rest,false⟩ C' D' w' ∧ R (bare S w' l) rt v) ∨ ∃ t,J ⟨t,true⟩ C' D' w' ∧ R (bare S w' l) rf v)) a'.defers .returning w':=by
   rintro s a' w' hret hr
   unfold retYW at hret
   cases hres:resV P s.τ s.H fn.results.toList with
   | none=>rw [hres] at hret; exact hret.elim
   | some v=>
    rw [hres] at hret
    obtain ⟨S',own,C',D',Ds,hr⟩:=hr
    rw [hr.defers]
    refine hr.leaves (sealJ_ok hJ) rfl hres fun a2 w2 u hr3 hu=>⟨u,C',D',rfl,?_,?_⟩
    ·refine ⟨⟨hr3.fr.os,hr3.fr.tape,hr3.fr.output,hr3.fr.size,hr3.fr.block⟩,hr3.cd.c1,fun b hb=>?_,fun b hb=>(hr3.hC b hb).1,hr3.hD⟩
     rcases hr3.cd.d1 b hb with q | q | q | q
     ·exact .inl q
     ·exact .inr (.inl q)
     ·exact .inl (hCD b q)
     ·exact .inr (.inr q)
    ·have hj3:J s.g C' D' w2:=hr3.j.1
     rcases hret with ⟨hg,rfl⟩ | ⟨hg,rfl⟩
     ·exact .inl ⟨hg ▸ hj3,hu.flat hft⟩
     ·refine .inr ⟨s.g.todo,?_,hu.flat hff⟩
      have:(⟨s.g.todo,true⟩:G) = s.g:=by rw [← hg]
      rw [this]
      exact hj3
  rintro e a' w' ⟨s,hΦ,hr⟩
  cases e with
  | normal=>exact key s a' w' hΦ hr
  | ret=>exact key s a' w' hΦ hr
  | _=>exact hΦ.elim
def retYHW (P:Program) (rs:List ResultVar) (l1:List (Nat × Blk)) (s:St):Prop:=
 bindO (resV P s.τ s.H rs) fun v=>∃ L VS,s.H = hls L VS ∧ ((s.g = ⟨[],.h []⟩ ∧ subA L l1) ∨ ∃ lb,s.g = ⟨[],.e lb⟩ ∧ subA L lb)
def retYHK (P:Program) (rs:List ResultVar) (l1:List (Nat × Blk)):Exit → St → Prop
 | .normal,s=>retYHW P rs l1 s
 | .ret,s=>retYHW P rs l1 s
 | _,_=>False
def sealH (J:G → (Nat → Prop) → (Nat → Prop) → World → Prop):G → (Nat → Prop) → (Nat → Prop) → World → Prop:=fun g C D w=>J g C D w ∧ ∀ b,g.stop ≠ .b b
theorem sealH_ok {J:G → (Nat → Prop) → (Nat → Prop) → World → Prop} (h:JOk J):JOk (sealH J):=fun g C D w w' hj h1 h2 h3 h4 h5=>⟨h g C D w w' hj.1 h1 h2 h3 h4 h5,hj.2⟩
theorem sealH_yok {P:Program} {J:G → (Nat → Prop) → (Nat → Prop) → World → Prop} {l:Nat} {T:Nat → Prop} {C0:Ctx} (h:YOkH P J l T C0):YOkH P (sealH J) l T C0:=fun args lb lb' rest C D X XV vs hj h1 h2 h3 h4 h5 h6 h7 h8 h9 h10=>by
 obtain ⟨fn,tmps,assign,body,hy,hr⟩:=h args lb lb' rest C D X XV vs hj.1 h1 h2 h3 h4 h5 h6 h7 h8 h9 h10
 refine ⟨fn,tmps,assign,body,hy,hr.mono fun e w' ⟨b,C',D',S',lbe,q1,q2,q3⟩=>⟨b,C',D',S',lbe,q1,⟨q2,fun x hx=>?_⟩,q3⟩⟩
 have hx:(if b = true then Sp.h rest else Sp.e lbe) = .b x:=hx
 split at hx <;> cases hx
theorem SpecYH.of_awp {P : Program} {f : FuncId} {fn : Func} {c : Code} {args : List AV} {l0 : List (Nat × Blk)} {rows : List HRow} {l1 : List (Nat × Blk)} (hf : P.funcs[f]? = some fn) (hb : fn.body = some c) (hname : (fn.name == "runtime.NumGoroutine") = false)
  (hok:codeOk fn.ntmps c = true) (hn:args.length ≤ fn.ntmps) (h:∀ vs,∃ s0,St.le ⟨argτ args,hls l0 vs,⟨[],.h rows⟩⟩ s0 ∧ awp P c (retYHK P fn.results.toList l1) s0):SpecYH P f args l0 rows l1 where
 enters:=fun as w=>by
  unfold callFunc
  simp only [Sem.run_bind,run_program,Result.andThen_ok,hf,hname,hb]
  simp
 calls:=fun J C0 v0 C D vs hJ hH hC hY hj hCD hD hSC hLD hvs=>by
  obtain ⟨s0,hle,h⟩:=h v0
  refine callsIn_of_wp_marks hf hb trivial ?_ rfl
  let E:Env:=⟨P,fn.ntmps,C0.w,C0.S,fun b=>LiveC C0 b ∨ C b,sealH J,C0.l,C0,C,D,false⟩
  have hrel:RelAt E ⟨argτ args,hls l0 v0,⟨[],.h rows⟩⟩ { tmps:=vs.toArray ++ Array.replicate (fn.ntmps - vs.toArray.size) undef,defers:=[] } C0.w C0.S C0.own C D []:={
   fr:=⟨rfl,rfl,rfl,Nat.le_refl _,fun _ _ _=>rfl⟩
   hS:=fun b hb=>⟨hC.hS b hb,hSC b hb,.inl hb⟩
   hS0:=fun b hb=>hb
   hC:=fun b hb=>⟨hCD b hb,.inl (.inr hb)⟩
   hD:=hD
   j:=⟨hj,fun b hb=>by cases hb⟩
   hown:=fun k blk g hk hl e=>by
    have hk:hls l0 v0 k = some blk:=hk
    rw [← hH] at hk
    obtain ⟨q1,q2⟩:=hC.hown k blk g hk hl e
    exact ⟨q1,q2,hLD g ⟨k,blk,hk,hl,e⟩,.inl (.inl ⟨k,blk,hk,hl,e⟩)⟩
   inj:=fun k k' b b' g hk hk'=>by
    have hk:hls l0 v0 k = some b:=hk
    have hk':hls l0 v0 k' = some b':=hk'
    rw [← hH] at hk hk'
    exact hC.inj k k' b b' g hk hk'
   heap:=fun k blk hk=>by
    have hk:hls l0 v0 k = some blk:=hk
    rw [← hH] at hk
    have:=hC.heap k blk hk
    show HRel ⟨hls l0 v0,C0.own,C0.S,C0.w,C0.l⟩ _ _
    rw [← hH]
    exact this
   tmps:=fun i=>by
    have hlen:=hvs.1
    show R ⟨hls l0 v0,C0.own,C0.S,C0.w,C0.l⟩ (args.getD i (.tup [])) _
    rw [← hH]
    rw [Array.getD_eq_getD_getElem?,Array.getElem?_append]
    simp only [List.size_toArray]
    by_cases hi:i < vs.length
    ·rw [if_pos hi,List.getD_eq_getElem?_getD,List.getElem?_eq_getElem (by omega)]
     have:=hvs.2 i args[i] (List.getElem?_eq_getElem (by omega))
     rw [List.getD_eq_getElem?_getD,List.getElem?_eq_getElem hi] at this
     simpa [hi] using this
    ·rw [if_neg hi,List.getD_eq_getElem?_getD,List.getElem?_eq_none (by omega)]
     have hu:((Array.replicate (fn.ntmps - vs.length) undef)[i - vs.length]?).getD undef = undef:=by
      rw [Array.getElem?_replicate]
      split <;> rfl
     rw [hu]
     exact .tup [] [] rfl fun i a hi=>by simp at hi
   size:=by
    have:=hvs.1
    show (vs.toArray ++ Array.replicate (fn.ntmps - vs.toArray.size) undef).size = fn.ntmps
    simp
    omega
   defers:=rfl
   hDs:=fun d hd=>by simp at hd
   nodup:=List.nodup_nil
   le:=by show C0.le ⟨hls l0 v0,C0.own,C0.S,C0.w,C0.l⟩; rw [← hH]; exact .refl _
   cd:=⟨fun _ h=>.inl h,fun _ h=>.inl h⟩
   fix:=fun e=>by cases e }
  refine wpIn_mono (awp_sound (E:=E) (sealH_ok hJ) ⟨fun args rest C D w S vs hj=>(hj.2 false rfl).elim,sealH_yok hY⟩ rfl c _ _ _ C0.w hok h (Rel.weaken ⟨C0.S,_,_,_,[],hrel⟩ hle)) ?_
  have key:∀ s a' w',retYHW P fn.results.toList l1 s → Rel E s a' w' →
    LeavesInM (FW none) 0 P fn a'.tmps (fun e w'=>∃ v C' D' X' lbe v',e = .returned v ∧ X'.w = w' ∧ X'.l = C0.l ∧ X'.H = hls lbe v' ∧ HOk X' ∧ C0.le X' ∧ Grows C0.w w' (fun b=>C b ∨ LiveC C0 b) ∧
     (∀ b,X'.S b → ¬ C' b ∧ (C0.S b ∨ (LiveC C0 b ∨ C b) ∨ C0.w.heap.size ≤ b)) ∧ (∀ b,LiveC X' b → ¬ D' b) ∧ (∀ b,D' b → b < w'.heap.size) ∧ ((J ⟨[],.h []⟩ C' D' w' ∧ lbe = l1) ∨ J ⟨[],.e lbe⟩ C' D' w')) a'.defers .returning w':=by
   rintro s a' w' hret hr
   unfold retYHW at hret
   cases hres:resV P s.τ s.H fn.results.toList with
   | none=>rw [hres] at hret; exact hret.elim
   | some v=>
    rw [hres] at hret
    obtain ⟨L,VS,hHL,hcase⟩:=hret
    obtain ⟨S',own,C',D',Ds,hr⟩:=hr
    rw [hr.defers]
    refine hr.leaves (sealH_ok hJ) rfl hres fun a2 w2 u hr3 hu=>?_
    obtain ⟨lbe,hsub,hfin⟩:∃ lbe,subA L lbe ∧ ((J ⟨[],.h []⟩ C' D' w2 ∧ lbe = l1) ∨ J ⟨[],.e lbe⟩ C' D' w2):=by
     have hj3:J s.g C' D' w2:=hr3.j.1
     rcases hcase with ⟨hg,hs⟩ | ⟨lb,hg,hs⟩
     ·exact ⟨l1,hs,.inl ⟨hg ▸ hj3,rfl⟩⟩
     ·exact ⟨lb,hs,.inr (hg ▸ hj3)⟩
    have hw:=Rel.weakenAt hr3 (s':={ s with H:=hls lbe (fun k=>ver0 (hls L VS) k) }) ⟨fun _=>.inl rfl,fun k=>by show hls lbe _ k = s.H k ∨ _; rw [hHL]; exact hls_le hsub VS k,rfl⟩
    obtain ⟨hr5,hc5⟩:=hw
    refine ⟨u,C',D',⟨hls lbe (fun k=>ver0 (hls L VS) k),own,S',w2,C0.l⟩,lbe,_,rfl,rfl,rfl,rfl,?_,hr5.le,?_,fun b hb=>⟨(hr5.hS b hb).2.1,(hr5.hS b hb).2.2⟩,?_,hr5.hD,hfin⟩
    ·exact ⟨fun b hb=>(hr5.hS b hb).1,fun k blk g hk hl e=>⟨(hr5.hown k blk g hk hl e).1,(hr5.hown k blk g hk hl e).2.1⟩,hr5.inj,hr5.heap⟩
    ·exact ⟨hr5.fr.os,hr5.fr.tape,hr5.fr.output,hr5.fr.size,fun b hb hn=>hr5.fr.block b hb fun hx=>hn (hx.elim .inr .inl)⟩
    ·rintro b ⟨k,blk,hk,hl,e⟩
     exact (hr5.hown k blk b hk hl e).2.2.1
  rintro e a' w' ⟨s,hΦ,hr⟩
  cases e with
  | normal=>exact key s a' w' hΦ hr
  | ret=>exact key s a' w' hΦ hr
  | _=>exact hΦ.elim
end Go.Am
namespace Go.Am
open Go.RowKit
def xMov (v:AV) (H:Heap):Stp:=some (v,H)
def xPick (c x y:AV) (H:Heap):Stp:=ob (pickV c x y) fun v=>some (v,H)
def xAlloc (d:Nat) (e:TypeId) (z:List AV) (H:Heap):Stp:=some (.ref d (nv H d) (.p 0),upd H d (some (.box (nv H d) e z)))
def xBox (d:Nat) (e:TypeId) (v:AV) (H:Heap):Stp:=oif (okCells v.cells) (some (.ref d (nv H d) (.p 0),upd H d (some (.box (nv H d) e v.cells))))
def fillP:List AV → List (Nat × Nat × AV) → Option (List AV)
 | cells,[]=>some cells
 | cells,(o,n,x) :: rest=>if okCells x.cells = true ∧ x.cells.length = n ∧ o + n ≤ cells.length then fillP (setL cells o x.cells) rest else none
def xBuild (z:List AV) (parts:List (Nat × Nat × AV)) (H:Heap):Stp:=ob (fillP z parts) fun cells=>some (.agg cells,H)
def xLit (n len:Nat) (z:List AV) (parts:List (Nat × AV)) (H:Heap):Stp:=
 ob (fillR n (List.replicate len z) (parts.map fun p=>(p.1,pur (frzs H (parts.map fun p=>p.2)) p.2))) fun rows=>some (.slt rows,frzs H (parts.map fun p=>p.2))
def xRow (d:Nat) (e:TypeId) (n len:Nat) (z:List AV) (parts:List (Nat × AV)) (H:Heap):Stp:=
 ob (fillR n (List.replicate len z) (parts.map fun p=>(p.1,pur (frzs H (parts.map fun p=>p.2)) p.2))) fun rows=>some (.ref d (nv (frzs H (parts.map fun p=>p.2)) d) .o,
  upd (frzs H (parts.map fun p=>p.2)) d (some (.row (nv (frzs H (parts.map fun p=>p.2)) d) e n rows)))
def xLitR (n len:Nat) (z:List AV) (parts:List (Nat × AV)) (H:Heap):Stp:=ob (fillR n (List.replicate len z) parts) fun rows=>some (.slt rows,H)
def xMks (d:Nat) (e:TypeId) (n b:Nat) (z:List AV) (l c:AV) (H:Heap):Stp:=ob (intV l) fun p=>ob (intV c) fun q=>
 oif (decide (0 ≤ p.2 ∧ p.2 ≤ q.2 ∧ b * q.2.toNat ≤ 281474976710656 ∧ q.2.toNat ≤ maxLen)) (some (.ref d (nv H d) .o,upd H d (some (.row (nv H d) e n (List.replicate p.2.toNat z)))))
def xLoad (n:Nat) (ag:Bool) (x:AV) (H:Heap):Stp:=ob (rdV H n ag x) fun v=>some (v,H)
def xStore (n:Nat) (x y:AV) (H:Heap):Stp:=ob (wrV H n y.cells x) fun H'=>some (.tup [],H')
def xBin (op:BinOp) (ib:Bool) (x y:AV) (H:Heap):Stp:=ob (binV ib op x y) fun v=>some (v,H)
def xNot (x:AV) (H:Heap):Stp:=ob (notV x) fun v=>some (v,H)
def xNeg (x:AV) (H:Heap):Stp:=ob (intV x) fun p=>some (.int p.1 (p.1.wrap (0 - p.2)),H)
def xSl3 (n:Nat) (x hi mx:AV) (H:Heap):Stp:=ob (rowsA H x) fun rows=>ob (intV hi) fun p=>ob (intV mx) fun q=>oif (decide (p.2 = rows.length ∧ q.2 = rows.length)) (oif (rows.all fun r=>r.length == n) (some (.sl rows,H)))
def xFld (off:Nat) (x:AV) (H:Heap):Stp:=ob (addA H off x) fun v=>some (v,H)
def xIx (n:Nat) (x i:AV) (H:Heap):Stp:=ob (intV i) fun p=>ob (ixA H n p.2 x) fun v=>some (v,H)
def xIxA (len n:Nat) (x i:AV) (H:Heap):Stp:=ob (intV i) fun p=>oif (decide (0 ≤ p.2 ∧ p.2 < len)) (ob (addA H (p.2.toNat * n) x) fun v=>some (v,H))
def xField (off n:Nat) (ag:Bool) (x:AV) (H:Heap):Stp:=ob (aggV x) fun cs=>ob (readA cs off n ag) fun v=>some (v,H)
def xExt (x:AV) (i:Nat) (H:Heap):Stp:=ob (extV i x) fun v=>some (v,H)
def ixO:Option AV → Option (Option (IntKind × Int))
 | none=>some none
 | some (.int k i)=>some (some (k,i))
 | _=>none
def xSlc (n:Nat) (x:AV) (lo hi:Option AV) (H:Heap):Stp:=ob (rowsA H x) fun rows=>ob (ixO lo) fun l=>ob (ixO hi) fun h=>ob (slcV n rows l h) fun v=>some (v,H)
def xMkf (f:FuncId) (caps:List AV) (H:Heap):Stp:=some (.func f caps,H)
def xNil (x:AV) (H:Heap):Stp:=oif (okPtr H x) (some (x,H))
def xConv (k:IntKind) (x:AV) (H:Heap):Stp:=ob (intV x) fun p=>some (.int k (k.wrap p.2),H)
def xLen (x:AV) (H:Heap):Stp:=ob (lenV H x) fun v=>some (v,H)
def xSlen (x:AV) (H:Heap):Stp:=ob (slenV x) fun v=>some (v,H)
def xMin (x y:AV) (H:Heap):Stp:=ob (minV x y) fun v=>some (v,H)
def xApp (P:Program) (e:TypeId) (n b:Nat) (d:Option Nat) (x y:AV) (H:Heap):Stp:=ob (srcA H n y) fun new=>appV P H e n b d new x
def xEq (ng:Bool) (p:List (Nat × LK)) (x y:AV) (H:Heap):Stp:=ob (eqA ng p x y) fun v=>some (v,H)
def xSix (x i:AV) (H:Heap):Stp:=ob (sixV x i) fun v=>some (v,H)
def xSsl (x:AV) (lo hi:Option AV) (H:Heap):Stp:=ob (strV x) fun s=>ob (ixO lo) fun l=>ob (ixO hi) fun h=>ob (sslV s l h) fun v=>some (v,H)
def xRng (d:Nat) (x:AV) (H:Heap):Stp:=ob (strV x) fun s=>some (.ref d (nv H d) (.p 0),upd H d (some (.obj (nv H d) (.siter s 0))))
def xMkm (d:Nat) (kd:KD) (H:Heap):Stp:=some (.ref d (nv H d) .o,upd H d (some (.obj (nv H d) (.mp kd []))))
def xLk (kd:KD) (z:AV) (co:Bool) (x i:AV) (H:Heap):Stp:=ob (lkV H kd z co x i) fun v=>some (v,H)
def xMup (kd:KD) (x i y:AV) (H:Heap):Stp:=ob (mupV H kd x i y) fun H'=>some (.tup [],H')
def xMdl (kd:KD) (x i:AV) (H:Heap):Stp:=ob (mdlV H kd x i) fun H'=>some (.tup [],H')
def xMcl (kd:KD) (x:AV) (H:Heap):Stp:=ob (mclV H kd x) fun H'=>some (.tup [],H')
def xNxt (x:AV) (H:Heap):Stp:=nxtV H x
def cLoop (B:(St → Prop) → St → Prop) (s:St):Prop:=∃ (I:Nat → St → Prop) (k:Nat) (s0:St),s.le s0 ∧ I k s0 ∧ ∀ k s,I k s → B (fun s'=>∃ k' s'',k' < k ∧ s'.le s'' ∧ I k' s'') s
def look:List (Nat × AV) → Nat → AV
 | [],_=>.any
 | (i,v) :: l,j=>if i = j then v else look l j
def insT:List (Nat × AV) → Nat → AV → List (Nat × AV)
 | [],j,x=>[(j,x)]
 | (i,v) :: l,j,x=>if i = j then (j,x) :: l else (i,v) :: insT l j x
def insH:List (Nat × Blk) → Nat → Blk → List (Nat × Blk)
 | [],j,x=>[(j,x)]
 | (i,v) :: l,j,x=>if i = j then (j,x) :: l else (i,v) :: insH l j x
theorem look_ins:∀ (l:List (Nat × AV)) (d:Nat) (v:AV) (j:Nat),look (insT l d v) j = if j = d then v else look l j
 | [],d,v,j=>by by_cases h:j = d <;> simp [insT,look,h,eq_comm]; intro e; exact (h e.symm).elim
 | (i,x) :: l,d,v,j=>by
  unfold insT
  by_cases h:i = d
  ·subst h
   by_cases h2:j = i <;> simp [look,h2]
   simp [look,Ne.symm h2]
  ·rw [if_neg h]
   unfold look
   rw [look_ins l d v j]
   by_cases h2:i = j
   ·subst h2; simp [h]
   ·simp [h2]
theorem lookB_ins:∀ (l:List (Nat × Blk)) (d:Nat) (v:Blk) (j:Nat),lookB (insH l d v) j = if j = d then some v else lookB l j
 | [],d,v,j=>by by_cases h:j = d <;> simp [insH,lookB,h,eq_comm]; intro e; exact (h e.symm).elim
 | (i,x) :: l,d,v,j=>by
  unfold insH
  by_cases h:i = d
  ·subst h
   by_cases h2:j = i <;> simp [lookB,h2]
   simp [lookB,Ne.symm h2]
  ·rw [if_neg h]
   unfold lookB
   rw [lookB_ins l d v j]
   by_cases h2:i = j
   ·subst h2; simp [h]
   ·simp [h2]
@[simp] theorem upd_look (l:List (Nat × AV)) (d:Nat) (v:AV):upd (look l) d v = look (insT l d v):=by
 funext j; rw [look_ins]; rfl
@[simp] theorem upd_hls (l:List (Nat × Blk)) (vs:Nat → Nat) (d:Nat) (v:Blk):upd (hls l vs) d (some v) = hls (insH l d v) vs:=by
 funext j
 unfold hls
 rw [lookB_ins]
 unfold upd
 by_cases h:j = d <;> simp [h]
@[simp] theorem put_some (τ:Nat → AV) (H:Heap) (g:G) (d:Nat) (v:AV) (H':Heap):St.put ⟨τ,H,g⟩ (some d) v H' = ⟨upd τ d v,H',g⟩:=rfl
@[simp] theorem put_none (τ:Nat → AV) (H:Heap) (g:G) (v:AV) (H':Heap):St.put ⟨τ,H,g⟩ none v H' = ⟨τ,H',g⟩:=rfl
def subT (l:List (Nat × AV)):List (Nat × AV) → Prop
 | []=>True
 | (i,v) :: r=>look l i = v ∧ subT l r
theorem look_of_subT {l l':List (Nat × AV)} (h:subT l l') (i:Nat):look l' i = look l i ∨ look l' i = .any:=by
 induction l' with
 | nil=>exact .inr rfl
 | cons p r ih=>
  obtain ⟨j,v⟩:=p
  have e0:look ((j,v) :: r) i = if j = i then v else look r i:=rfl
  rw [e0]
  by_cases e:j = i
  ·rw [if_pos e]; subst e; exact .inl h.1.symm
  ·rw [if_neg e]; exact ih h.2
theorem le_of_sub {l l':List (Nat × AV)} {h h':List (Nat × Blk)} {VS:Nat → Nat} {g:G} (hT:subT l l') (hH:subA h h') :
  St.le ⟨look l,hls h VS,g⟩ ⟨look l',hls h' (fun k=>ver0 (hls h VS) k),g⟩ where
 τ:=look_of_subT hT
 H:=hls_le hH VS
 g:=rfl
theorem cLoop_introG {α:Type} {B:(St → Prop) → St → Prop} {l:List (Nat × AV)} {h:List (Nat × Blk)} {VS:Nat → Nat} {g:G} (inv:α → Prop) (μ:α → Nat) (T:α → List (Nat × AV)) (Hh:α → List (Nat × Blk)) (Gg:α → G) (x0:α)
  (h0:inv x0) (hT:subT l (T x0)) (hH:subA h (Hh x0)) (hG:g = Gg x0)
  (hb:∀ (L:St → Prop) (x:α) (vs:Nat → Nat),inv x → (∀ l' h' vs' g' x',inv x' → μ x' < μ x → subT l' (T x') → subA h' (Hh x') → g' = Gg x' → L ⟨look l',hls h' vs',g'⟩) →
   B L ⟨look (T x),hls (Hh x) vs,Gg x⟩):cLoop B ⟨look l,hls h VS,g⟩:=by
 subst hG
 refine ⟨fun k s=>∃ (x:α) (vs:Nat → Nat),inv x ∧ μ x = k ∧ s = ⟨look (T x),hls (Hh x) vs,Gg x⟩,μ x0,_,le_of_sub hT hH,⟨x0,_,h0,rfl,rfl⟩,?_⟩
 rintro k s ⟨x,vs,hi,rfl,rfl⟩
 refine hb _ x vs hi fun l' h' vs' g' x' hi' hlt hT' hH' hG'=>?_
 subst hG'
 exact ⟨_,_,hlt,le_of_sub hT' hH',x',_,hi',rfl,rfl⟩
theorem cLoop_intro {α:Type} {B:(St → Prop) → St → Prop} {l:List (Nat × AV)} {h:List (Nat × Blk)} {VS:Nat → Nat} {g:G} (inv:α → Prop) (μ:α → Nat) (T:α → List (Nat × AV)) (Hh:α → List (Nat × Blk)) (x0:α)
  (h0:inv x0) (hT:subT l (T x0)) (hH:subA h (Hh x0))
  (hb:∀ (L:St → Prop) (x:α) (vs:Nat → Nat),inv x → (∀ l' h' vs' x',inv x' → μ x' < μ x → subT l' (T x') → subA h' (Hh x') → L ⟨look l',hls h' vs',g⟩) →
   B L ⟨look (T x),hls (Hh x) vs,g⟩):cLoop B ⟨look l,hls h VS,g⟩:=
 cLoop_introG inv μ T Hh (fun _=>g) x0 h0 hT hH rfl fun L x vs hi hL=>hb L x vs hi fun l' h' vs' x' hi' hlt hT' hH'=>hL l' h' vs' g x' hi' hlt hT' hH' rfl
def argT:Nat → List AV → List (Nat × AV)
 | _,[]=>[]
 | i,a :: l=>(i,a) :: argT (i + 1) l
theorem look_argT:∀ (l:List AV) (i j:Nat),look (argT i l) j = if i ≤ j then (l[j - i]?).getD .any else .any
 | [],i,j=>by simp [argT,look]
 | a :: l,i,j=>by
  show (if i = j then a else look (argT (i + 1) l) j) = _
  rw [look_argT l (i + 1) j]
  by_cases e:i = j
  ·subst e; simp
  ·by_cases h:i ≤ j
   ·have h1:i + 1 ≤ j:=by omega
    have h2:j - i = (j - (i + 1)) + 1:=by omega
    simp [e,h,h1,h2]
   ·have h1:¬ i + 1 ≤ j:=by omega
    simp [e,h,h1]
theorem le_argsT (args:List AV) (i:Nat):look (argT 0 args) i = argτ args i ∨ look (argT 0 args) i = .any:=by
 rw [look_argT]
 simp only [Nat.zero_le,if_true,Nat.sub_zero,argτ]
 cases h:args[i]? with
 | none=>exact .inr rfl
 | some a=>left; rw [List.getD_eq_getElem?_getD,h]; rfl
theorem le_args (args:List AV) (vs:Nat → Nat):St.le ⟨argτ args,fun _=>none,noG⟩ ⟨look (argT 0 args),hls [] vs,noG⟩ where
 τ:=le_argsT args
 H:=fun k=>.inr ⟨vs k,rfl,fun b hb=>by cases hb⟩
 g:=rfl
theorem Spec.of_W {P : Program} {f : FuncId} {fn : Func} {args : List AV} {r : AV} {W : (Exit → St → Prop) → St → Prop} {rs : List ResultVar} {n : Nat} (hf : P.funcs[f]? = some fn) (hb : fn.body.isSome = true) (hname : (fn.name == "runtime.NumGoroutine") = false)
  (hok:codeOk fn.ntmps (fn.body.getD .skip) = true) (hn:fn.ntmps = n) (hW:∀ Φ s,awp P (fn.body.getD .skip) Φ s = W Φ s) (hrs:fn.results.toList = rs)
  (hlen:args.length ≤ n) (h:∀ vs,W (retK P rs r) ⟨look (argT 0 args),hls [] vs,noG⟩):Spec P f args r:=by
 obtain ⟨c,hc⟩:=Option.isSome_iff_exists.1 hb
 have h:=h fun _=>0
 rw [← hW] at h
 rw [hc] at hok h
 subst hrs
 exact Spec.of_awp (le_args args _) hf hc hname hok (by rw [hn]; exact hlen) h
theorem RowSpec.of_W {P : Program} {f : FuncId} {fn : Func} {args : List AV} {t : TypeId} {sz : Nat} {rows : List (List AV)} {W : (Exit → St → Prop) → St → Prop} {rs : List ResultVar} {n : Nat} (hf : P.funcs[f]? = some fn) (hb : fn.body.isSome = true) (hname : (fn.name == "runtime.NumGoroutine") = false)
  (hok:codeOk fn.ntmps (fn.body.getD .skip) = true) (hn:fn.ntmps = n) (hW:∀ Φ s,awp P (fn.body.getD .skip) Φ s = W Φ s) (hrs:fn.results.toList = rs)
  (hlen:args.length ≤ n) (hflat:closedLL rows = true) (h:∀ vs,W (retRK P rs t sz rows) ⟨look (argT 0 args),hls [] vs,noG⟩):RowSpec P f args t sz rows:=by
 obtain ⟨c,hc⟩:=Option.isSome_iff_exists.1 hb
 have h:=h fun _=>0
 rw [← hW] at h
 rw [hc] at hok h
 subst hrs
 exact RowSpec.of_awp hflat (le_args args _) hf hc hname hok (by rw [hn]; exact hlen) h
theorem HSpecL.of_W {P : Program} {f : FuncId} {fn : Func} {args : List AV} {l : List (Nat × Blk)} {Q : AV → List (Nat × Blk) → Prop} {W : (Exit → St → Prop) → St → Prop} {rs : List ResultVar} {n : Nat} (hf : P.funcs[f]? = some fn) (hb : fn.body.isSome = true) (hname : (fn.name == "runtime.NumGoroutine") = false)
  (hok:codeOk fn.ntmps (fn.body.getD .skip) = true) (hn:fn.ntmps = n) (hW:∀ Φ s,awp P (fn.body.getD .skip) Φ s = W Φ s) (hrs:fn.results.toList = rs)
  (hlen:args.length ≤ n) (h:∀ vs,W (retHK P rs Q) ⟨look (argT 0 args),hls l vs,noG⟩):HSpecL P f args l Q:=by
 obtain ⟨c,hc⟩:=Option.isSome_iff_exists.1 hb
 rw [hc] at hok
 subst hrs
 refine HSpecL.of_awp hf hc hname hok (by rw [hn]; exact hlen) fun vs=>⟨⟨look (argT 0 args),hls l vs,noG⟩,⟨le_argsT args,fun _=>.inl rfl,rfl⟩,?_⟩
 have h:=h vs
 rw [← hW,hc] at h
 exact h
@[simp] theorem setP_nil (τ:Nat → AV):setP τ [] [] = τ:=rfl
@[simp] theorem setP_cons (l:List (Nat × AV)) (p:Nat) (ps:List Nat) (x:AV) (xs:List AV):setP (look l) (p :: ps) (x :: xs) = setP (look (insT l p x)) ps xs:=by
 show setP (upd (look l) p x) ps xs = _
 rw [upd_look]
def lentEq:Blk → Blk → Bool
 | .box v _ _,.box v' _ _=>v == v'
 | .obj v _,.obj v' _=>v == v'
 | _,_=>false
def rowB (K:List Nat) (l0 lb:List (Nat × Blk)):Bool:=(keys lb == K) && K.all fun k=>match lookB lb k,lookB l0 k with
 | some b,some b0=>lentEq b b0 && (okB (inK K) b && clean b)
 | _,_=>false
theorem SpecYH.of_W {P : Program} {f : FuncId} {fn : Func} {args : List AV} {l0 : List (Nat × Blk)} {rows : List HRow} {l1 : List (Nat × Blk)} {W : (Exit → St → Prop) → St → Prop} {rs : List ResultVar} {n : Nat} (hf : P.funcs[f]? = some fn) (hb : fn.body.isSome = true) (hname : (fn.name == "runtime.NumGoroutine") = false)
  (hok:codeOk fn.ntmps (fn.body.getD .skip) = true) (hn:fn.ntmps = n) (hW:∀ Φ s,awp P (fn.body.getD .skip) Φ s = W Φ s) (hrs:fn.results.toList = rs)
  (hlen:args.length ≤ n) (h:∀ vs,W (retYHK P rs l1) ⟨look (argT 0 args),hls l0 vs,⟨[],.h rows⟩⟩):SpecYH P f args l0 rows l1:=by
 obtain ⟨c,hc⟩:=Option.isSome_iff_exists.1 hb
 rw [hc] at hok
 subst hrs
 refine SpecYH.of_awp hf hc hname hok (by rw [hn]; exact hlen) fun vs=>⟨⟨look (argT 0 args),hls l0 vs,⟨[],.h rows⟩⟩,⟨le_argsT args,fun _=>.inl rfl,rfl⟩,?_⟩
 have h:=h vs
 rw [← hW,hc] at h
 exact h
theorem SpecY.of_W {P : Program} {f : FuncId} {fn : Func} {args : List AV} {xs : List (List AV)} {rt rf : AV} {W : (Exit → St → Prop) → St → Prop} {rs : List ResultVar} {n : Nat} (hf : P.funcs[f]? = some fn) (hb : fn.body.isSome = true) (hname : (fn.name == "runtime.NumGoroutine") = false)
  (hok:codeOk fn.ntmps (fn.body.getD .skip) = true) (hn:fn.ntmps = n) (hW:∀ Φ s,awp P (fn.body.getD .skip) Φ s = W Φ s) (hrs:fn.results.toList = rs)
  (hlen:args.length ≤ n) (hft:flat rt = true) (hff:flat rf = true) (h:∀ vs rest,W (retYK P rs rt rf rest) ⟨look (argT 0 args),hls [] vs,⟨xs ++ rest,false⟩⟩):SpecY P f args xs rt rf:=by
 obtain ⟨c,hc⟩:=Option.isSome_iff_exists.1 hb
 rw [hc] at hok
 subst hrs
 refine SpecY.of_awp hft hff hf hc hname hok (by rw [hn]; exact hlen) fun rest=>⟨⟨look (argT 0 args),hls [] (fun _=>0),⟨xs ++ rest,false⟩⟩,⟨le_argsT args,fun k=>.inr ⟨0,rfl,fun b hb=>by cases hb⟩,rfl⟩,?_⟩
 have h:=h (fun _=>0) rest
 rw [← hW,hc] at h
 exact h
abbrev EP:=Exit → St → Prop
abbrev SP:=St → Prop
class Kt (α:Type) where
 v:α
@[simp] theorem kv {α:Type} (x:α):(Kt.mk x).v = x:=rfl
def sChk (b:Bool) [A:Kt Prop]:Prop:=b = true ∧ A.v
@[simp] theorem sChk_true (A:Kt Prop):@sChk true A = A.v:=by simp [sChk]
def sOp (d:Option Nat) (r:Stp) (s:St) [K:Kt (St → Prop)]:Prop:=cOp d r s K.v
def sMks (d:Option Nat) (f:Nat → Stp) (s:St) [K:Kt (St → Prop)]:Prop:=cMks d f s K.v
def sLit (d:Option Nat) (r1 r2:Stp) (s:St) [K:Kt (St → Prop)]:Prop:=cLit d r1 r2 s K.v
def sCall (P:Program) (f:AV) (args:List AV) (d:Option Nat) (s:St) [K:Kt (St → Prop)]:Prop:=cCall P f args d s K.v
def sCall0 (P:Program) (f:AV) (args:List AV) (d:Option Nat) (s:St) [K:Kt (St → Prop)]:Prop:=cCall0 P f args d s K.v
def sGrd (g:AV) (d:Option Nat) (s:St) [one:Kt (St → (St → Prop) → Prop)] [K:Kt (St → Prop)]:Prop:=cGrd g d one.v s K.v
def sIf (c:AV) [A:Kt Prop] [B:Kt Prop]:Prop:=condW c A.v B.v
def sNilp (ng:Bool) (x:AV) (d:Option Nat) (s:St) [K:Kt (St → Prop)]:Prop:=cNilp ng x d s K.v
def sNil (ng:Bool) (x:AV) (d:Option Nat) (s:St) [K:Kt (St → Prop)]:Prop:=cNil ng x d s K.v
def sLoop (s:St) [B:Kt ((St → Prop) → St → Prop)]:Prop:=cLoop B.v s
def sScope (s:St) [B:Kt ((Nat → St → Prop) → St → Prop)] [R:Kt (List (Nat × ((Nat → St → Prop) → St → Prop)))]:Prop:=cScope B.v R.v s
def sRange (P:Program) (f:AV) (ps:List Nat) (s:St) [B:Kt ((Exit → St → Prop) → St → Prop)] [Φ:Kt (Exit → St → Prop)]:Prop:=cRange P f ps B.v Φ.v s
section
variable {K : Kt (St → Prop)} {d : Option Nat} {s : St}
@[simp] theorem sOp_some (v:AV) (H:Heap):@sOp d (some (v,H)) s K = K.v (s.put d v H):=propext ⟨id,id⟩
@[simp] theorem sGrd_true (one:Kt (St → (St → Prop) → Prop)):@sGrd (.bool true) d s one K = one.v s K.v:=propext ⟨id,id⟩
@[simp] theorem sGrd_false (one:Kt (St → (St → Prop) → Prop)):@sGrd (.bool false) d s one K = K.v (s.put d (.tup []) s.H):=propext ⟨id,id⟩
@[simp] theorem sIf_true (A B:Kt Prop):@sIf (.bool true) A B = A.v:=propext ⟨id,id⟩
@[simp] theorem sIf_false (A B:Kt Prop):@sIf (.bool false) A B = B.v:=propext ⟨id,id⟩
variable {P : Program} {f : FuncId} {args caps args' : List AV} {r : AV}
theorem scall_pure (h:Spec P f args' r) (e:(args ++ caps).map (pur (frzs s.H args)) = args') (hc:closedL args' = true) (k:K.v (s.put d r (frzs s.H args))):@sCall P (.func f caps) args d s K:=call_pure h e hc k
theorem scall0_row {k:Nat} {t:TypeId} {sz:Nat} {rows:List (List AV)} (h:RowSpec P f args' t sz rows) (e:(args ++ caps).map (pur (frzs s.H args)) = args') (hc:closedL args' = true)
  (kk:K.v (s.put (some k) (.ref k (nv (frzs s.H args) k) .o) (upd (frzs s.H args) k (some (.row (nv (frzs s.H args) k) t sz rows))))):@sCall0 P (.func f caps) args (some k) s K:=call0_row h e hc kk
theorem scall0_heap {L:List (Nat × Blk)} {VS:Nat → Nat} {τ:Nat → AV} {g:G} (lent:List (Nat × Nat)) {l0 l':List (Nat × Blk)} (h:HSpecL P f args' l0 fun x y=>x = r ∧ y = l')
  (e:(args ++ caps).map (ren (asc lent)) = args') (el:lentL L lent lent = l0) (hok:lendOk L lent [] (args ++ caps) = true) (hret:retOk lent r l' = true) (hk:keys l' = lent.map (·.2)) (hin:(lent.all fun p=>inK (withM (occL (args ++ caps))) p.1) = true)
  (k:K.v ⟨updO τ d (ren (csa lent) r),ovr (backL lent l') (hls L VS),g⟩):@sCall0 P (.func f caps) args d ⟨τ,hls L VS,g⟩ K:=call0_heap lent h e el hok hret hk hin k
theorem scall_row {k:Nat} {t:TypeId} {sz:Nat} {rows:List (List AV)} (h:RowSpec P f args' t sz rows) (e:(args ++ caps).map (pur (frzs s.H args)) = args') (hc:closedL args' = true)
  (kk:K.v (s.put (some k) (.ref k (nv (frzs s.H args) k) .o) (upd (frzs s.H args) k (some (.row (nv (frzs s.H args) k) t sz rows))))):@sCall P (.func f caps) args (some k) s K:=call_row h e hc kk
theorem scall_heap {L:List (Nat × Blk)} {VS:Nat → Nat} {τ:Nat → AV} {g:G} (lent nw:List (Nat × Nat)) {l0:List (Nat × Blk)} {Q:AV → List (Nat × Blk) → Prop} (h:HSpecL P f args' l0 Q)
  (e:(args ++ caps).map (ren (asc (lent ++ nw))) = args') (el:lentL L (lent ++ nw) lent = l0) (hok:lendOk L lent nw (args ++ caps) = true)
  (k:∀ r l' VS',Q r l' → retOk (lent ++ nw) r l' = true ∧ K.v ⟨updO τ d (ren (csa (lent ++ nw)) r),hls (dropK ((lent ++ nw).map (·.1)) L ++ backL (lent ++ nw) l') VS',g⟩) :
  @sCall P (.func f caps) args d ⟨τ,hls L VS,g⟩ K:=call_heap lent nw h e el hok k
end
theorem sLoop_intro {α:Type} {B:Kt ((St → Prop) → St → Prop)} {l:List (Nat × AV)} {h:List (Nat × Blk)} {VS:Nat → Nat} {g:G} (inv:α → Prop) (μ:α → Nat) (T:α → List (Nat × AV)) (Hh:α → List (Nat × Blk)) (x0:α)
  (h0:inv x0) (hT:subT l (T x0)) (hH:subA h (Hh x0))
  (hb:∀ (L:St → Prop) (x:α) (vs:Nat → Nat),inv x → (∀ l' h' vs' x',inv x' → μ x' < μ x → subT l' (T x') → subA h' (Hh x') → L ⟨look l',hls h' vs',g⟩) →
   B.v L ⟨look (T x),hls (Hh x) vs,g⟩):@sLoop ⟨look l,hls h VS,g⟩ B:=cLoop_intro inv μ T Hh x0 h0 hT hH hb
section
variable (d n t g : Nat) (ag w : Bool) (s : St)
def sMv [K:Kt (St → Prop)]:Prop:=sOp (some d) (xMov (s.τ t) s.H) s
def sFl [K:Kt (St → Prop)]:Prop:=sOp (some d) (xFld n (s.τ t) s.H) s
def sLd [K:Kt (St → Prop)]:Prop:=sOp (some d) (xLoad n ag (s.τ t) s.H) s
def sGm [K:Kt (St → Prop)]:Prop:=@sGrd (guardOf (s.τ g) w) (some d) s ⟨fun s K=>@sOp (some d) (xMov (s.τ t) s.H) s ⟨K⟩⟩ K
def sGf [K:Kt (St → Prop)]:Prop:=@sGrd (guardOf (s.τ g) w) (some d) s ⟨fun s K=>@sOp (some d) (xFld n (s.τ t) s.H) s ⟨K⟩⟩ K
def sGl [K:Kt (St → Prop)]:Prop:=@sGrd (guardOf (s.τ g) w) (some d) s ⟨fun s K=>@sOp (some d) (xLoad n ag (s.τ t) s.H) s ⟨K⟩⟩ K
def sGo (r:St → Stp) [K:Kt (St → Prop)]:Prop:=@sGrd (guardOf (s.τ g) w) (some d) s ⟨fun s K=>@sOp (some d) (r s) s ⟨K⟩⟩ K
variable {d n t g ag w s} {K : Kt (St → Prop)}
@[simp] theorem sGo_eq {r:St → Stp}:@sGo d g w s r K = @sGrd (guardOf (s.τ g) w) (some d) s ⟨fun s K=>@sOp (some d) (r s) s ⟨K⟩⟩ K:=propext ⟨id,id⟩
@[simp] theorem sMv_eq:@sMv d t s K = K.v (s.put (some d) (s.τ t) s.H):=propext ⟨id,id⟩
@[simp] theorem sFl_eq:@sFl d n t s K = @sOp (some d) (xFld n (s.τ t) s.H) s K:=propext ⟨id,id⟩
@[simp] theorem sLd_eq:@sLd d n t ag s K = @sOp (some d) (xLoad n ag (s.τ t) s.H) s K:=propext ⟨id,id⟩
@[simp] theorem sGm_eq:@sGm d t g w s K = @sGrd (guardOf (s.τ g) w) (some d) s ⟨fun s K=>@sOp (some d) (xMov (s.τ t) s.H) s ⟨K⟩⟩ K:=propext ⟨id,id⟩
@[simp] theorem sGf_eq:@sGf d n t g w s K = @sGrd (guardOf (s.τ g) w) (some d) s ⟨fun s K=>@sOp (some d) (xFld n (s.τ t) s.H) s ⟨K⟩⟩ K:=propext ⟨id,id⟩
@[simp] theorem sGl_eq:@sGl d n t g ag w s K = @sGrd (guardOf (s.τ g) w) (some d) s ⟨fun s K=>@sOp (some d) (xLoad n ag (s.τ t) s.H) s ⟨K⟩⟩ K:=propext ⟨id,id⟩
end
attribute [irreducible] sOp sMks sLit sCall sCall0 sGrd sIf sLoop sScope sRange sChk
def z14:List AV:=[.int .i64 0,.int .i64 0,.int .i64 0,.str ⟨#[]⟩,.int .i64 0,.int .i64 0,.str ⟨#[]⟩,.nils,.nils,.str ⟨#[]⟩,.int .i64 0,.int .i64 0,.bool false,.int .i64 0]
@[simp] theorem z14_eq:z14 = [.int .i64 0,.int .i64 0,.int .i64 0,.str ⟨#[]⟩,.int .i64 0,.int .i64 0,.str ⟨#[]⟩,.nils,.nils,.str ⟨#[]⟩,.int .i64 0,.int .i64 0,.bool false,.int .i64 0]:=rfl
def z13:List AV:=[.int .i64 0,.int .i64 0,.int .i64 0,.str ⟨#[]⟩,.int .i64 0,.int .i64 0,.str ⟨#[]⟩,.nils,.nils,.nils,.nils,.int .i64 0,.int .i64 0]
@[simp] theorem z13_eq:z13 = [.int .i64 0,.int .i64 0,.int .i64 0,.str ⟨#[]⟩,.int .i64 0,.int .i64 0,.str ⟨#[]⟩,.nils,.nils,.nils,.nils,.int .i64 0,.int .i64 0]:=rfl
def z9:List AV:=[.int .i64 0,.int .i64 0,.int .i64 0,.str ⟨#[]⟩,.int .i64 0,.int .i64 0,.str ⟨#[]⟩,.nils,.nils]
@[simp] theorem z9_eq:z9 = [.int .i64 0,.int .i64 0,.int .i64 0,.str ⟨#[]⟩,.int .i64 0,.int .i64 0,.str ⟨#[]⟩,.nils,.nils]:=rfl
def z4:List AV:=[.int .i64 0,.int .i64 0,.str ⟨#[]⟩,.nils]
@[simp] theorem z4_eq:z4 = [.int .i64 0,.int .i64 0,.str ⟨#[]⟩,.nils]:=rfl
def z3:List AV:=[.str ⟨#[]⟩,.int .i64 0,.int .i64 0]
@[simp] theorem z3_eq:z3 = [.str ⟨#[]⟩,.int .i64 0,.int .i64 0]:=rfl
def Sv {α:Type} (x:α):α:=x
@[simp] theorem Sv_eq {α:Type} (x:α):Sv x = x:=Eq.trans (b:=x) (by unfold Sv; rfl) rfl
section
variable (s s' : St) (K : St → Prop)
def M (d t:Nat) (s:St) (K:St → Prop):Prop:=@sMv d t s ⟨K⟩
@[congr] theorem M_congr {d t:Nat} {s s':St} {K:St → Prop} (h:Sv s = s'):M d t s K = M d t s' K:=by cases h; rfl
@[simp] theorem M_eq {d t:Nat}:M d t s K = @sMv d t s ⟨K⟩:=propext ⟨id,id⟩
def V (d:Nat) (b:Bool) (s:St) (K:St → Prop):Prop:=@sOp (some d) (xMov (.bool b) s.H) s ⟨K⟩
@[congr] theorem V_congr {d:Nat} {b:Bool} {s s':St} {K:St → Prop} (h:Sv s = s'):V d b s K = V d b s' K:=by cases h; rfl
@[simp] theorem V_eq {d:Nat} {b:Bool}:V d b s K = @sOp (some d) (xMov (.bool b) s.H) s ⟨K⟩:=propext ⟨id,id⟩
def I (d:Nat) (i:Int) (s:St) (K:St → Prop):Prop:=@sOp (some d) (xMov (.int .i64 i) s.H) s ⟨K⟩
@[congr] theorem I_congr {d:Nat} {i:Int} {s s':St} {K:St → Prop} (h:Sv s = s'):I d i s K = I d i s' K:=by cases h; rfl
@[simp] theorem I_eq {d:Nat} {i:Int}:I d i s K = @sOp (some d) (xMov (.int .i64 i) s.H) s ⟨K⟩:=propext ⟨id,id⟩
def F (d n t:Nat) (s:St) (K:St → Prop):Prop:=@sFl d n t s ⟨K⟩
@[congr] theorem F_congr {d n t:Nat} {s s':St} {K:St → Prop} (h:Sv s = s'):F d n t s K = F d n t s' K:=by cases h; rfl
@[simp] theorem F_eq {d n t:Nat}:F d n t s K = @sFl d n t s ⟨K⟩:=propext ⟨id,id⟩
def L (d n t:Nat) (ag:Bool) (s:St) (K:St → Prop):Prop:=@sLd d n t ag s ⟨K⟩
@[congr] theorem L_congr {d n t:Nat} {ag:Bool} {s s':St} {K:St → Prop} (h:Sv s = s'):L d n t ag s K = L d n t ag s' K:=by cases h; rfl
@[simp] theorem L_eq {d n t:Nat} {ag:Bool}:L d n t ag s K = @sLd d n t ag s ⟨K⟩:=propext ⟨id,id⟩
def B (d:Nat) (op:BinOp) (g:Bool) (x y:Nat) (s:St) (K:St → Prop):Prop:=@sOp (some d) (xBin op g (s.τ x) (s.τ y) s.H) s ⟨K⟩
@[congr] theorem B_congr {d:Nat} {op:BinOp} {g:Bool} {x y:Nat} {s s':St} {K:St → Prop} (h:Sv s = s'):B d op g x y s K = B d op g x y s' K:=by cases h; rfl
@[simp] theorem B_eq {d:Nat} {op:BinOp} {g:Bool} {x y:Nat}:B d op g x y s K = @sOp (some d) (xBin op g (s.τ x) (s.τ y) s.H) s ⟨K⟩:=propext ⟨id,id⟩
def J (d:Nat) (op:BinOp) (g:Bool) (x:Nat) (i:Int) (s:St) (K:St → Prop):Prop:=@sOp (some d) (xBin op g (s.τ x) (.int .i64 i) s.H) s ⟨K⟩
@[congr] theorem J_congr {d:Nat} {op:BinOp} {g:Bool} {x:Nat} {i:Int} {s s':St} {K:St → Prop} (h:Sv s = s'):J d op g x i s K = J d op g x i s' K:=by cases h; rfl
@[simp] theorem J_eq {d:Nat} {op:BinOp} {g:Bool} {x:Nat} {i:Int}:J d op g x i s K = @sOp (some d) (xBin op g (s.τ x) (.int .i64 i) s.H) s ⟨K⟩:=propext ⟨id,id⟩
def X (d n x y:Nat) (s:St) (K:St → Prop):Prop:=@sOp (some d) (xIx n (s.τ x) (s.τ y) s.H) s ⟨K⟩
@[congr] theorem X_congr {d n x y:Nat} {s s':St} {K:St → Prop} (h:Sv s = s'):X d n x y s K = X d n x y s' K:=by cases h; rfl
@[simp] theorem X_eq {d n x y:Nat}:X d n x y s K = @sOp (some d) (xIx n (s.τ x) (s.τ y) s.H) s ⟨K⟩:=propext ⟨id,id⟩
def E (d x i:Nat) (s:St) (K:St → Prop):Prop:=@sOp (some d) (xExt (s.τ x) i s.H) s ⟨K⟩
@[congr] theorem E_congr {d x i:Nat} {s s':St} {K:St → Prop} (h:Sv s = s'):E d x i s K = E d x i s' K:=by cases h; rfl
@[simp] theorem E_eq {d x i:Nat}:E d x i s K = @sOp (some d) (xExt (s.τ x) i s.H) s ⟨K⟩:=propext ⟨id,id⟩
def N (d x:Nat) (s:St) (K:St → Prop):Prop:=@sOp (some d) (xLen (s.τ x) s.H) s ⟨K⟩
@[congr] theorem N_congr {d x:Nat} {s s':St} {K:St → Prop} (h:Sv s = s'):N d x s K = N d x s' K:=by cases h; rfl
@[simp] theorem N_eq {d x:Nat}:N d x s K = @sOp (some d) (xLen (s.τ x) s.H) s ⟨K⟩:=propext ⟨id,id⟩
def O (d x y:Nat) (s:St) (K:St → Prop):Prop:=@sOp (some d) (xPick (s.τ x) (.bool true) (s.τ y) s.H) s ⟨K⟩
@[congr] theorem O_congr {d x y:Nat} {s s':St} {K:St → Prop} (h:Sv s = s'):O d x y s K = O d x y s' K:=by cases h; rfl
@[simp] theorem O_eq {d x y:Nat}:O d x y s K = @sOp (some d) (xPick (s.τ x) (.bool true) (s.τ y) s.H) s ⟨K⟩:=propext ⟨id,id⟩
def A (d x y:Nat) (s:St) (K:St → Prop):Prop:=@sOp (some d) (xPick (s.τ x) (s.τ y) (.bool false) s.H) s ⟨K⟩
@[congr] theorem A_congr {d x y:Nat} {s s':St} {K:St → Prop} (h:Sv s = s'):A d x y s K = A d x y s' K:=by cases h; rfl
@[simp] theorem A_eq {d x y:Nat}:A d x y s K = @sOp (some d) (xPick (s.τ x) (s.τ y) (.bool false) s.H) s ⟨K⟩:=propext ⟨id,id⟩
def U (n x y:Nat) (s:St) (K:St → Prop):Prop:=@sOp none (xStore n (s.τ x) (s.τ y) s.H) s ⟨K⟩
@[congr] theorem U_congr {n x y:Nat} {s s':St} {K:St → Prop} (h:Sv s = s'):U n x y s K = U n x y s' K:=by cases h; rfl
@[simp] theorem U_eq {n x y:Nat}:U n x y s K = @sOp none (xStore n (s.τ x) (s.τ y) s.H) s ⟨K⟩:=propext ⟨id,id⟩
def Q (d x:Nat) (s:St) (K:St → Prop):Prop:=@sOp (some d) (xNot (s.τ x) s.H) s ⟨K⟩
@[congr] theorem Q_congr {d x:Nat} {s s':St} {K:St → Prop} (h:Sv s = s'):Q d x s K = Q d x s' K:=by cases h; rfl
@[simp] theorem Q_eq {d x:Nat}:Q d x s K = @sOp (some d) (xNot (s.τ x) s.H) s ⟨K⟩:=propext ⟨id,id⟩
def Z (d:Nat) (t:TypeId) (z:List AV) (s:St) (K:St → Prop):Prop:=@sOp (some d) (xAlloc d t z s.H) s ⟨K⟩
@[congr] theorem Z_congr {d:Nat} {t:TypeId} {z:List AV} {s s':St} {K:St → Prop} (h:Sv s = s'):Z d t z s K = Z d t z s' K:=by cases h; rfl
@[simp] theorem Z_eq {d:Nat} {t:TypeId} {z:List AV}:Z d t z s K = @sOp (some d) (xAlloc d t z s.H) s ⟨K⟩:=propext ⟨id,id⟩
def Y (d:Nat) (t:TypeId) (x:Nat) (s:St) (K:St → Prop):Prop:=@sOp (some d) (xBox d t (s.τ x) s.H) s ⟨K⟩
@[congr] theorem Y_congr {d:Nat} {t:TypeId} {x:Nat} {s s':St} {K:St → Prop} (h:Sv s = s'):Y d t x s K = Y d t x s' K:=by cases h; rfl
@[simp] theorem Y_eq {d:Nat} {t:TypeId} {x:Nat}:Y d t x s K = @sOp (some d) (xBox d t (s.τ x) s.H) s ⟨K⟩:=propext ⟨id,id⟩
def Bd (d:Nat) (z:List AV) (l:List (Nat × Nat × AV)) (s:St) (K:St → Prop):Prop:=@sOp (some d) (xBuild z l s.H) s ⟨K⟩
@[congr] theorem Bd_congr {d:Nat} {z:List AV} {l:List (Nat × Nat × AV)} {s s':St} {K:St → Prop} (h:Sv s = s'):Bd d z l s K = Bd d z l s' K:=by cases h; rfl
@[simp] theorem Bd_eq {d:Nat} {z:List AV} {l:List (Nat × Nat × AV)}:Bd d z l s K = @sOp (some d) (xBuild z l s.H) s ⟨K⟩:=propext ⟨id,id⟩
def Lt (d n m:Nat) (z:List AV) (l:List (Nat × AV)) (s:St) (K:St → Prop):Prop:=@sOp (some d) (xLit n m z l s.H) s ⟨K⟩
@[congr] theorem Lt_congr {d n m:Nat} {z:List AV} {l:List (Nat × AV)} {s s':St} {K:St → Prop} (h:Sv s = s'):Lt d n m z l s K = Lt d n m z l s' K:=by cases h; rfl
@[simp] theorem Lt_eq {d n m:Nat} {z:List AV} {l:List (Nat × AV)}:Lt d n m z l s K = @sOp (some d) (xLit n m z l s.H) s ⟨K⟩:=propext ⟨id,id⟩
def Ca (P:Program) (f:FuncId) (l:List AV) (d:Nat) (s:St) (K:St → Prop):Prop:=@sCall P (.func f []) l (some d) s ⟨K⟩
@[congr] theorem Ca_congr {P:Program} {f:FuncId} {l:List AV} {d:Nat} {s s':St} {K:St → Prop} (h:Sv s = s'):Ca P f l d s K = Ca P f l d s' K:=by cases h; rfl
@[simp] theorem Ca_eq {P:Program} {f:FuncId} {l:List AV} {d:Nat}:Ca P f l d s K = @sCall P (.func f []) l (some d) s ⟨K⟩:=propext ⟨id,id⟩
def C0 (P:Program) (f:FuncId) (l:List AV) (d:Nat) (s:St) (K:St → Prop):Prop:=@sCall0 P (.func f []) l (some d) s ⟨K⟩
@[congr] theorem C0_congr {P:Program} {f:FuncId} {l:List AV} {d:Nat} {s s':St} {K:St → Prop} (h:Sv s = s'):C0 P f l d s K = C0 P f l d s' K:=by cases h; rfl
@[simp] theorem C0_eq {P:Program} {f:FuncId} {l:List AV} {d:Nat}:C0 P f l d s K = @sCall0 P (.func f []) l (some d) s ⟨K⟩:=propext ⟨id,id⟩
def gm (d t g:Nat) (w:Bool) (s:St) (K:St → Prop):Prop:=@sGm d t g w s ⟨K⟩
@[congr] theorem gm_congr {d t g:Nat} {w:Bool} {s s':St} {K:St → Prop} (h:Sv s = s'):gm d t g w s K = gm d t g w s' K:=by cases h; rfl
@[simp] theorem gm_eq {d t g:Nat} {w:Bool}:gm d t g w s K = @sGm d t g w s ⟨K⟩:=propext ⟨id,id⟩
def gf (d n t g:Nat) (w:Bool) (s:St) (K:St → Prop):Prop:=@sGf d n t g w s ⟨K⟩
@[congr] theorem gf_congr {d n t g:Nat} {w:Bool} {s s':St} {K:St → Prop} (h:Sv s = s'):gf d n t g w s K = gf d n t g w s' K:=by cases h; rfl
@[simp] theorem gf_eq {d n t g:Nat} {w:Bool}:gf d n t g w s K = @sGf d n t g w s ⟨K⟩:=propext ⟨id,id⟩
def gl (d n t g:Nat) (ag w:Bool) (s:St) (K:St → Prop):Prop:=@sGl d n t g ag w s ⟨K⟩
@[congr] theorem gl_congr {d n t g:Nat} {ag w:Bool} {s s':St} {K:St → Prop} (h:Sv s = s'):gl d n t g ag w s K = gl d n t g ag w s' K:=by cases h; rfl
@[simp] theorem gl_eq {d n t g:Nat} {ag w:Bool}:gl d n t g ag w s K = @sGl d n t g ag w s ⟨K⟩:=propext ⟨id,id⟩
def go (d g:Nat) (w:Bool) (s:St) (r:St → Stp) (K:St → Prop):Prop:=@sGo d g w s r ⟨K⟩
@[congr] theorem go_congr {d g:Nat} {w:Bool} {s s':St} {r:St → Stp} {K:St → Prop} (h:Sv s = s'):go d g w s r K = go d g w s' r K:=by cases h; rfl
@[simp] theorem go_eq {d g:Nat} {w:Bool} {r:St → Stp}:go d g w s r K = @sGo d g w s r ⟨K⟩:=propext ⟨id,id⟩
def If (x:Nat) (s:St) (p q:Prop):Prop:=@sIf (s.τ x) ⟨p⟩ ⟨q⟩
@[congr] theorem If_congr {x:Nat} {s s':St} {p q:Prop} (h:Sv s = s'):If x s p q = If x s' p q:=by cases h; rfl
@[simp] theorem If_eq {x:Nat} {p q:Prop}:If x s p q = @sIf (s.τ x) ⟨p⟩ ⟨q⟩:=propext ⟨id,id⟩
def k1 (x:AV) (k:Nat) (p:Prop):Prop:=@sChk (compat (occ x,[]) ([k],[k])) ⟨p⟩
@[congr] theorem k1_congr {x x':AV} {k:Nat} {p:Prop} (h:Sv x = x'):k1 x k p = k1 x' k p:=by cases h; rfl
@[simp] theorem k1_eq {x:AV} {k:Nat} {p:Prop}:k1 x k p = @sChk (compat (occ x,[]) ([k],[k])) ⟨p⟩:=propext ⟨id,id⟩
def k2 (e:List Nat × List Nat) (k:Nat) (p:Prop):Prop:=@sChk (compat e ([k],[k])) ⟨p⟩
@[congr] theorem k2_congr {e e':List Nat × List Nat} {k:Nat} {p:Prop} (h:Sv e = e'):k2 e k p = k2 e' k p:=by cases h; rfl
@[simp] theorem k2_eq {e:List Nat × List Nat} {k:Nat} {p:Prop}:k2 e k p = @sChk (compat e ([k],[k])) ⟨p⟩:=propext ⟨id,id⟩
def k3 (x:AV) (e:List Nat × List Nat) (p:Prop):Prop:=@sChk (compat (occ x,[]) e) ⟨p⟩
@[congr] theorem k3_congr {x x':AV} {e e':List Nat × List Nat} {p:Prop} (h:Sv x = x') (h2:e = e'):k3 x e p = k3 x' e' p:=by cases h; cases h2; rfl
@[simp] theorem k3_eq {x:AV} {e:List Nat × List Nat} {p:Prop}:k3 x e p = @sChk (compat (occ x,[]) e) ⟨p⟩:=propext ⟨id,id⟩
end
abbrev EqW (P:Program) (fn:Func) (W:(Exit → St → Prop) → St → Prop):Prop:=∀ Φ s,awp P (fn.body.getD .skip) Φ s = W Φ s
abbrev SpW (P:Program) (f:FuncId) (n:Nat) (rs:List ResultVar) (W:(Exit → St → Prop) → St → Prop):Prop:=
 ∀ {args:List AV} {r:AV},args.length ≤ n → (∀ vs,W (retK P rs r) ⟨look (argT 0 args),hls [] vs,noG⟩) → Spec P f args r
theorem spW {P:Program} {f:FuncId} {fn:Func} {W:(Exit → St → Prop) → St → Prop} {rs:List ResultVar} {n:Nat} (hf:P.funcs[f]? = some fn) (hn:fn.ntmps = n) (hW:EqW P fn W) (hb:fn.body.isSome = true:=by kernel_rfl)
    (hname : (fn.name == "runtime.NumGoroutine") = false := by kernel_rfl) (hok : codeOk fn.ntmps (fn.body.getD .skip) = true := by kernel_rfl) (hrs : fn.results.toList = rs := by kernel_rfl) : SpW P f n rs W :=
 fun hlen h=>.of_W hf hb hname hok hn hW hrs hlen h
end Go.Am
