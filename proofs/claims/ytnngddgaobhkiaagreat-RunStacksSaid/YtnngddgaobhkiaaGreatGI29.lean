import Derived.Test.YtnngddgaobhkiaaGreatGH25
import Derived.Test.YtnngddgaobhkiaaGreatGD28
import Derived.Test.YtnngddgaobhkiaaGreatGI20
set_option linter.unusedVariables false
set_option linter.unusedSimpArgs false
namespace Go.Proofs.YtnngddgaobhkiaaGreat
open Go Go.Am Go.RowKit
/-! ### Keys that are asked -/
theorem fewB_of {bs:List Rw3} (h:few3 bs = true):FewB bs:=by
 unfold few3 at h
 rw [Bool.and_eq_true] at h
 have hs:=of_decide_eq_true h.2
 refine ⟨fun x hx=>?_⟩
 have key:∀ l:List Rw3,(∀ y ∈ l,1 ≤ y.sz 0) → x ∈ l → x.sz 0 ≤ (l.map fun y=>y.sz 0).sum:=fun l=>by
  induction l with
  | nil=>intro _ h; simp at h
  | cons y l ih=>
   intro hp hx
   have hy:=hp y (by simp)
   have nn:∀ l:List Rw3,(∀ y ∈ l,1 ≤ y.sz 0) → 0 ≤ (l.map fun y=>y.sz 0).sum:=fun l=>by
    induction l with
    | nil=>intro _; simp
    | cons z l ih=>intro h; have:=ih fun y hy=>h y (by simp [hy]); have:=h z (by simp); simp only [List.map_cons,List.sum_cons]; omega
   have hn:=nn l fun z hz=>hp z (by simp [hz])
   simp only [List.map_cons,List.sum_cons]
   rcases List.mem_cons.1 hx with rfl | hx
   ·omega
   ·have:=ih (fun z hz=>hp z (by simp [hz])) hx; omega
 have:=key bs (fun y _=>(y.sz_le 0).1) hx
 omega
@[simp] theorem setC_0 (c:Cor) (a b d e:AV):setL [a,b,d,e] 0 (encC c) = encC c:=rfl
@[simp] theorem rd_Call (c:Cor):readA (encC c) 0 4 true = some (.agg (encC c)):=rfl
@[simp] theorem encC_cell (c:Cor):∀ a ∈ encC c,a.cell = true:=by simp [encC]
@[simp] theorem encC_okAll (c:Cor):(encC c).all AV.cell = true:=rfl
@[simp] theorem pur0_C (H:Heap) (c:Cor):(encC c).map (pur0 H) = encC c:=rfl
@[simp] theorem frz0_C (H:Heap) (c:Cor):(encC c).foldl frz0 H = H:=rfl
theorem sp_few (x:Shp) (h:x.bs.length ≤ maxLen):Am.Spec Tryz.prog 12 [.agg (encShp x)] (.bool (few3 x.bs)):=sp_fw3 _ _ x.bs h (by simp [closed]) (by simp [closed])
end Go.Proofs.YtnngddgaobhkiaaGreat
set_option linter.unusedVariables false
set_option linter.unusedSimpArgs false
namespace Go.Proofs.YtnngddgaobhkiaaGreat
open Go Go.Am Go.RowKit
/-! ### What is played -/
theorem sp_telC8 {c:Cor} (h:CorOk c) {f:Cfg} (hf:OkC c f) (key value:Int):Am.Spec Tryz.prog 20 [.agg (encF f),.int .i64 key,.int .i64 value] (toldR (tellM f key value)):=
 sp_tel8 hf (by have:=(chk_ok h.chk).vars; omega) key value
def plT (ns:List Int) (raw:Int) (v7 v8 v9 i:Nat):List (Nat × AV):=[(1,.sl (encI ns)),(2,.int .i64 raw),(7,.ref 7 v7 (.p 0)),(8,.ref 8 v8 (.p 0)),(9,.ref 9 v9 (.p 0)),(10,.int .i64 (i:Nat))]
def plH (c:Cor) (f:Cfg) (v7 v8 v9:Nat):List (Nat × Blk):=[(7,.box v7 29 (encC c)),(8,.box v8 38 (encF f)),(9,.box v9 38 (encF f))]
end Go.Proofs.YtnngddgaobhkiaaGreat
set_option linter.unusedVariables false
set_option linter.unusedSimpArgs false
namespace Go.Proofs.YtnngddgaobhkiaaGreat
open Go Go.Am Go.RowKit
attribute [local simp] W18 W18_rs W18_k1 W18_b2
/-! ### As many picks as there are steps -/
theorem enabled_len {c:Cor} {f:Cfg} (hf:OkC c f):f.t.enabled.length ≤ 200000000:=by
 have h1:=enS_len f.t.norm [] (decide (0 < f.t.norm.waits.length))
 have h2:=f.t.norm_wt
 have h3:=hf.enbWt.1
 unfold Tm.enabled Tm.enabledN
 unfold enS at h1
 omega
theorem sp_witB (a n:Int) (hn:0 < n) (h2:n < 4611686018427387904):Am.Spec Tryz.prog 18 [.int .i64 a,.int .i64 n] (.int .i64 (within a n)):=by
 refine W18_S (by simp) ?_
 intro vs
 simp
 rw [if_neg (by omega)]
 simp
 have h1:=Int.tmod_lt_of_pos a hn
 have h3:-n < a.tmod n:=by have:=Int.lt_tmod_of_pos a hn; omega
 refine sIf_dec (fun h=>?_) (fun h=>?_)
 ·simp
  rw [wrap64 (by omega) (by omega)]
  simp [retW_eq,within,h]
 ·simp [retW_eq,within,h]
def stT (ns:List Int) (raw:Int) (v7 v8 i:Nat):List (Nat × AV):=[(1,.sl (encI ns)),(2,.int .i64 raw),(7,.ref 7 v7 (.p 0)),(8,.ref 8 v8 (.p 0)),(9,.int .i64 (i:Nat))]
def stH (c:Cor) (f:Cfg) (v7 v8:Nat):List (Nat × Blk):=[(7,.box v7 29 (encC c)),(8,.box v8 38 (encF f))]
end Go.Proofs.YtnngddgaobhkiaaGreat
set_option linter.unusedVariables false
set_option linter.unusedSimpArgs false
namespace Go.Proofs.YtnngddgaobhkiaaGreat
open Go Go.Am Go.RowKit
attribute [local simp] W5 W5_rs W5_b1 W5_b2 W5_b5 W5_b8 W5_b10 W5_b11 W5_b12 W5_b13 W5_b14 W5_b30 W5_b31 W5_b60 W5_b62 W5_b63 W5_b66 W5_b69 W5_b71 W5_b77 W5_b79 W5_k3 W5_k4 W5_k29 W5_k65 W5_l61 W5_l67 W5_l74
/-! ### Stacks that a step touches -/
structure StkOk (f g:Cfg) (x:Tm):Prop where
 len:g.st.length = f.st.length
 same:∀ (j:Nat) (h:j < f.st.length),¬ (3 ≤ x.kind ∧ x.kind ≤ 6 ∧ x.a = j) → ¬ (x.kind = 6 ∧ x.b = j) → g.st[j]? = some f.st[j]
 acc:x.kind = 5 → ∃ a:Nat,x.a = a ∧ a < f.st.length ∧ g.st[a]? = some []
 steps:g.steps = f.steps + 1
theorem deed_stk {vn sn:Int} {ps:List Tm} {f:Cfg} (hf:OkF vn sn ps f) (x:Tm) (alt:Int) (hx:tmRight vn sn ps.length x false = true) :
  (deed ps f x alt).st.length = f.st.length ∧ (∀ (j:Nat) (h:j < f.st.length),¬ (3 ≤ x.kind ∧ x.kind ≤ 6 ∧ x.a = j) → ¬ (x.kind = 6 ∧ x.b = j) → (deed ps f x alt).st[j]? = some f.st[j]) ∧
   (x.kind = 5 → ∃ a:Nat,x.a = a ∧ a < f.st.length ∧ (deed ps f x alt).st[a]? = some []):=by
 obtain ⟨hok,-,-⟩:=right_ok hx
 have hst:=hf.st
 have get:∀ (j:Nat) (h:j < f.st.length),f.st[j]? = some f.st[j]:=fun j h=>List.getElem?_eq_getElem h
 by_cases hk:x.kind = 3 ∨ x.kind = 4 ∨ x.kind = 5 ∨ x.kind = 6
 ·have ha:=ok_a hok
  have hka:kA x.kind = 3:=by rcases hk with k | k | k | k <;> rw [k] <;> rfl
  rw [hka] at ha
  have ha:=num3 (v:=vn) (p:=ps.length) ha
  obtain ⟨a,hxa⟩:∃ a:Nat,x.a = a:=⟨x.a.toNat,by omega⟩
  have hal:a < f.st.length:=by omega
  rcases hk with k | k | k | k
  ·have e:(deed ps f x alt).st = f.st.set a (stAt f.st a ++ [(x.l[0]?).getD .skip]):=by simp [deed,k,stPush,hxa]
   rw [e]
   refine ⟨by simp,fun j h h1 h2=>?_,fun h=>by omega⟩
   rw [List.getElem?_set_ne (by omega)]; exact get j h
  ·have e:(deed ps f x alt).st = f.st.set a []:=by simp [deed,k,stAccept,hxa]
   rw [e]
   refine ⟨by simp,fun j h h1 h2=>?_,fun h=>by omega⟩
   rw [List.getElem?_set_ne (by omega)]; exact get j h
  ·have e:(deed ps f x alt).st = f.st.set a []:=by simp [deed,k,stAccept,hxa]
   rw [e]
   refine ⟨by simp,fun j h h1 h2=>?_,fun h=>⟨a,hxa,hal,by simp [hal]⟩⟩
   rw [List.getElem?_set_ne (by omega)]; exact get j h
  ·have hb:=ok_b hok
   rw [k] at hb
   have hb:=num3 (v:=vn) (p:=ps.length) hb
   obtain ⟨b,hxb⟩:∃ b:Nat,x.b = b:=⟨x.b.toNat,by omega⟩
   have e:(deed ps f x alt).st = stMerge f.st a b:=by simp [deed,k,hxa,hxb]
   rw [e,stMerge]
   split
   ·exact ⟨rfl,fun j h h1 h2=>get j h,fun h=>by omega⟩
   ·refine ⟨by simp,fun j h h1 h2=>?_,fun h=>by omega⟩
    rw [Int.toNat_natCast,Int.toNat_natCast,List.getElem?_set_ne (by omega),List.getElem?_set_ne (by omega)]; exact get j h
 ·have e:(deed ps f x alt).st = f.st:=by
   unfold deed
   repeat' split
   all_goals first
    | rfl
    | omega
  rw [e]
  exact ⟨rfl,fun j h h1 h2=>get j h,fun h=>by omega⟩
theorem doM_stk {vn sn:Int} {ps:List Tm} {f:Cfg} (hf:OkF vn sn ps f) (pick:Nat) (hp:pick < f.t.enabled.length) (h:(doM ps f pick).e = 0):StkOk f (doM ps f pick).f (atT f.t f.t.enabled[pick].2.1):=by
 rw [doM_eq hf.norm] at h ⊢
 rw [if_neg (by omega),Int.toNat_natCast,List.getElem?_eq_getElem hp] at h ⊢
 simp only at h ⊢
 have hs:f.t.enabled[pick] ∈ f.t.enabled:=List.getElem_mem hp
 generalize f.t.enabled[pick] = s at *
 have hs':=step_ok f.t s (by rw [← enabled_eq hf.norm]; exact hs)
 have hx:=at_right _ _ _ hs'.act _ hf.t
 obtain ⟨a1,a2,a3⟩:=deed_stk hf (atT f.t s.2.1) s.2.2 hx
 by_cases h1:5000 ≤ f.steps
 ·rw [if_pos h1] at h; simp [Did.no] at h
 rw [if_neg h1] at h ⊢
 by_cases h2:(deed ps f (atT f.t s.2.1) s.2.2).e ≠ 0
 ·rw [if_pos h2] at h; exact absurd h h2
 rw [if_neg h2] at h ⊢
 by_cases h3:2000 < (putT f.t (toP f.t s) (deed ps f (atT f.t s.2.1) s.2.2).t).norm.size + stSize (deed ps f (atT f.t s.2.1) s.2.2).st
 ·rw [if_pos h3] at h; simp [Did.no] at h
 rw [if_neg h3]
 exact ⟨a1,a2,a3,rfl⟩
def skT (ns:List Int) (v5 v6 i:Nat):List (Nat × AV):=[(1,.sl (encI ns)),(5,.ref 5 v5 (.p 0)),(6,.ref 6 v6 (.p 0)),(7,.int .i64 (i:Nat))]
def skH (c:Cor) (f:Cfg) (v5 v6:Nat):List (Nat × Blk):=[(5,.box v5 29 (encC c)),(6,.box v6 38 (encF f))]
theorem sts_b62 {c:Cor} (hc:CorOk c) {f g:Cfg} (hf:OkC c f) (hg:OkC c g) (x:Tm) (hx:StkOk f g x) (ns:List Int) (i:Nat) (v5 v6 v11 v13:Nat) (hi2:i < 30) (L:St → Prop)
  (hL:∀ l' h' vs',subT l' (skT ns v5 v6 (i + 1)) → subA h' (skH c g v5 v6) → L ⟨Am.look l',hls h' vs',noG⟩)
  (T:List (Nat × AV)) (H:List (Nat × Blk)) (VS:Nat → Nat) (h1:Am.look T 1 = .sl (encI ns)) (h5:Am.look T 5 = .ref 5 v5 (.p 0)) (h6:Am.look T 6 = .ref 6 v6 (.p 0)) (h7:Am.look T 7 = .int .i64 (i:Nat)) (h11:Am.look T 11 = .ref 11 v11 (.p 0)) (h13:Am.look T 13 = .ref 13 v13 (.p 0))
  (hH:subA H (skH c f v5 v6 ++ [(11,.box v11 35 (encT x)),(13,.box v13 38 (encF g))])) :
  W5_b62 (retK Tryz.prog [.tmp 4] (.bool true)) L ⟨Am.look T,hls H VS,noG⟩:=by
 have hsl:=hf.slen (by have:=(chk_ok hc.chk).st; omega)
 have hlen:=hx.len
 have hsteps:=hf.steps
 simp [-W5_l61]
 refine sLoop_intro (fun j:Nat=>j ≤ f.st.length) (fun j=>f.st.length - j) (fun j=>skT ns v5 v6 i ++ [(11,.ref 11 v11 (.p 0)),(13,.ref 13 v13 (.p 0)),(17,.int .i64 (j:Nat))])
  (fun _=>skH c f v5 v6 ++ [(11,.box v11 35 (encT x)),(13,.box v13 38 (encF g))]) 0 (by simp) (by simp [skT,h1,h5,h6,h7,h11,h13]) hH ?_
 rintro L2 j vu hj hL2
 simp only [skT,skH,List.cons_append,List.nil_append] at hL2 ⊢
 by_cases q:j < f.st.length
 ·have q':(j:Int) < f.st.length:=by omega
  have q2:j < g.st.length:=by omega
  have hix1:ixRows (encSt f.st) (j:Int) 1 = some (.elt (encQ f.st[j]) 0):=by rw [encSt_Q,ixRows_nat]; simp [List.getElem?_eq_getElem q]
  have tail:∀ (hn:¬ (3 ≤ x.kind ∧ x.kind ≤ 6 ∧ x.a = j)) (hn2:¬ (x.kind = 6 ∧ x.b = j)),ixRows (encSt g.st) (j:Int) 1 = some (.elt (encQ f.st[j]) 0) ∧ Am.Spec Tryz.prog 27 [.sl (f.st[j].map encT),.sl (f.st[j].map encT)] (.bool true):=fun hn hn2=>by
   have e:=hx.same j q hn hn2
   refine ⟨by rw [encSt_Q,ixRows_nat]; simp [e],?_⟩
   have hr:=hf.srow _ (List.getElem_mem q)
   rw [← (eqL_iff Tm.same f.st[j] f.st[j] fun t _ u=>Tm.same_iff t u).2 rfl]
   exact sp_rw5 _ _ (by omega) hr.2
  by_cases k3:3 ≤ x.kind
  ·by_cases k6:x.kind ≤ 6
   ·by_cases ka:x.a = j
    ·simp [-W5_k29,q,q',k3,k6,ka]
     rw [wrap64 (by omega) (by omega)]
     exact hL2 _ _ _ (j + 1) q (by omega) (by simp) (by simp)
    ·by_cases e6:x.kind = 6
     ·by_cases kb:x.b = j
      ·simp [-W5_k29,q,q',k3,k6,ka,e6,kb]
       rw [wrap64 (by omega) (by omega)]
       exact hL2 _ _ _ (j + 1) q (by omega) (by simp) (by simp)
      ·obtain ⟨hix2,hrw⟩:=tail (fun h=>ka h.2.2) (fun h=>kb h.2)
       simp [-W5_k29,q,q',k3,k6,ka,e6,kb,hix1,hix2]
       refine scall0_pure hrw (by simp) (by simp) ?_
       simp [-W5_k29]
       rw [wrap64 (by omega) (by omega)]
       exact hL2 _ _ _ (j + 1) q (by omega) (by simp) (by simp)
     ·obtain ⟨hix2,hrw⟩:=tail (fun h=>ka h.2.2) (fun h=>e6 h.1)
      simp [-W5_k29,q,q',k3,k6,ka,e6,hix1,hix2]
      refine scall0_pure hrw (by simp) (by simp) ?_
      simp [-W5_k29]
      rw [wrap64 (by omega) (by omega)]
      exact hL2 _ _ _ (j + 1) q (by omega) (by simp) (by simp)
   ·obtain ⟨hix2,hrw⟩:=tail (fun h=>k6 h.2.1) (fun h=>k6 (by omega))
    have e6:¬ x.kind = 6:=by omega
    simp [-W5_k29,q,q',k3,k6,e6,hix1,hix2]
    refine scall0_pure hrw (by simp) (by simp) ?_
    simp [-W5_k29]
    rw [wrap64 (by omega) (by omega)]
    exact hL2 _ _ _ (j + 1) q (by omega) (by simp) (by simp)
  ·obtain ⟨hix2,hrw⟩:=tail (fun h=>k3 h.1) (fun h=>k3 (by omega))
   have e6:¬ x.kind = 6:=by omega
   simp [-W5_k29,q,q',k3,e6,hix1,hix2]
   refine scall0_pure hrw (by simp) (by simp) ?_
   simp [-W5_k29]
   rw [wrap64 (by omega) (by omega)]
   exact hL2 _ _ _ (j + 1) q (by omega) (by simp) (by simp)
 ·have q':¬ (j:Int) < f.st.length:=by omega
  have hgs:=hx.steps
  have ws:IntKind.wrap .i64 (f.steps + 1) = f.steps + 1:=wrap64 (by omega) (by omega)
  by_cases k5:x.kind = 5
  ·obtain ⟨a,ha,hal,e⟩:=hx.acc k5
   have hix:ixRows (encSt g.st) (a:Int) 1 = some (.elt (encQ []) 0):=by rw [encSt_Q,ixRows_nat]; simp [e]
   simp [q,q',k5,ha,hix,hgs,ws]
   rw [wrap64 (by omega) (by omega)]
   exact hL _ _ _ (by simp [skT]) (by simp [skH])
  ·simp [q,q',k5,hgs,ws]
   rw [wrap64 (by omega) (by omega)]
   exact hL _ _ _ (by simp [skT]) (by simp [skH])
theorem sts_b69 {c:Cor} (hc:CorOk c) {f:Cfg} (hf:OkC c f) (ns:List Int) (i:Nat) (hi:i < ns.length) (v5 v6:Nat) (hi2:i < 30) (hl0:f.t.enabled ≠ []) (L:St → Prop)
  (hL:∀ l' h' vs' f',OkC c f' → subT l' (skT ns v5 v6 (i + 1)) → subA h' (skH c f' v5 v6) → L ⟨Am.look l',hls h' vs',noG⟩)
  (T:List (Nat × AV)) (VS:Nat → Nat) (h1:Am.look T 1 = .sl (encI ns)) (h5:Am.look T 5 = .ref 5 v5 (.p 0)) (h6:Am.look T 6 = .ref 6 v6 (.p 0)) (h7:Am.look T 7 = .int .i64 (i:Nat)) (h8:Am.look T 8 = .sl (f.t.enabled.map encS)) :
  W5_b69 (retK Tryz.prog [.tmp 4] (.bool true)) L ⟨Am.look T,hls (skH c f v5 v6) VS,noG⟩:=by
 have h':(i:Int) < ns.length:=by omega
 have hln:=enabled_len hf
 have hlp:0 < f.t.enabled.length:=List.length_pos_iff.2 hl0
 have hwit:=sp_witB ns[i] f.t.enabled.length (by omega) (by omega)
 have w0:=wit_ge ns[i] f.t.enabled.length (by omega)
 have w1:=wit_lt ns[i] f.t.enabled.length (by omega)
 obtain ⟨k,hk⟩:∃ k:Nat,within ns[i] f.t.enabled.length = k:=⟨(within ns[i] f.t.enabled.length).toNat,by omega⟩
 rw [hk] at hwit w1
 have hkl:k < f.t.enabled.length:=by omega
 have hst:=doM_stk hf k hkl
 have hd:=sp_doC hc hf k
 have hdo:=doM_ok hc.env hf k
 have hso:=step_ok f.t f.t.enabled[k] (by rw [← enabled_eq hf.norm]; exact List.getElem_mem hkl)
 have hon:=actP_on hso.act
 have hpl:=onP_len hon
 have hwt:=hf.wt
 have hb62:=fun (g:Cfg) (hg:OkC c g) (hx:StkOk f g (atT f.t f.t.enabled[k].2.1))=>sts_b62 hc hf hg (atT f.t f.t.enabled[k].2.1) hx ns i v5 v6
 have hixk:ixRows (f.t.enabled.map encS) (k:Int) 3 = some (.elt (encS f.t.enabled[k]) 0):=by rw [ixRows_nat]; simp [List.getElem?_eq_getElem hkl]
 generalize f.t.enabled[k] = st at *
 generalize f.t.enabled = l at *
 have hixk:ixRows (l.map encS) (k:Int) 3 = some (.elt [.int .i64 st.1,.sl (encI st.2.1),.int .i64 st.2.2] 0):=hixk
 generalize doM c.procs f k = d at *
 simp only [didR] at hd
 clear hk w0
 generalize st.2.1 = p at *
 simp only [skH]
 simp [-W5_l67,h1,h5,h6,h7,h8,hi,h']
 refine scall_pure hwit (by simp) (by simp) ?_
 simp [-W5_l67,h1,h5,h6,h7,h8]
 refine sLoop_intro (fun j:Nat=>j ≤ p.length) (fun j=>p.length - j) (fun j=>skT ns v5 v6 i ++ [(8,.sl (l.map encS)),(10,.int .i64 (k:Nat)),(11,.ref 11 (VS 11 + 1) (.p 0)),(12,.int .i64 (j:Nat))])
  (fun j=>skH c f v5 v6 ++ [(11,.box (VS 11 + 1) 35 (encT (atT f.t (p.take j))))]) 0 (by simp) (by simp [skT,h1,h5,h6,h7,h8]) (by simp [skH,atT]) ?_
 rintro L1 j vu hj hL1
 simp only [skT,skH,List.cons_append,List.nil_append] at hL1 ⊢
 by_cases g:j < p.length
 ·have g':(j:Int) < p.length:=by omega
  obtain ⟨m,e,hm,-,ha⟩:=path_at f.t p hon j g
  have hix0:=encI_at p j g _ e
  have hix:ixRows ((atT f.t (p.take j)).l.map encT) (m:Int) 9 = some (.elt (encT (atT f.t (p.take j)).l[m]) 0):=by rw [ixRows_nat]; simp [List.getElem?_eq_getElem hm]
  simp [-W5_k65,g,g',hixk,hix0,hix]
  rw [wrap64 (by omega) (by omega)]
  exact hL1 _ _ _ (j + 1) g (by omega) (by simp) (by simp [ha])
 ·rw [List.take_of_length_le (by omega)]
  simp [-W5_b62,g,hixk]
  refine scall_pure hd (by simp) (by simp) ?_
  by_cases he:d.e = 0
  ·have hlen:=(hst he).len
   simp [-W5_b62,he,hlen]
   refine hb62 d.f (hdo he) (hst he) (VS 11 + 1) (vu 13 + 1) hi2 L (fun l' h' vs' hT hH=>hL l' h' vs' d.f (hdo he) hT hH) _ _ vu ?_ ?_ ?_ ?_ ?_ ?_ ?_
   all_goals simp [skH]
  ·simp [-W5_b62,he,retW_eq]
theorem sts_go (x:Shp) (ns:List Int) (hfew:few3 x.bs = true) (hl:x.bs.length ≤ maxLen) (hn:ns.length ≤ maxLen):Am.Spec Tryz.prog 5 [.agg (encShp x),.sl (encI ns)] (.bool true):=by
 have hml:maxLen = 9223372036854775807:=rfl
 have hf1:=sp_few x hl
 rw [hfew] at hf1
 have hc1:=sp_cor x.v x.s x.bs (fewB_of hfew)
 have hc:=coreM_ok x.v x.bs (fewB_of hfew)
 have hb8:=sp_beg8 hc
 have hok:=beg_ok hc
 simp only [encShp,encSh] at hf1 hc1 ⊢
 generalize coreM x.v x.bs = c at *
 generalize begM c = f0 at *
 refine W5_S (by simp) ?_
 intro vs
 simp
 refine scall_pure sp_kno8 (by simp) (by simp) ?_
 simp
 refine scall_pure hf1 (by simp) (by simp) ?_
 simp
 refine scall_pure hc1 (by simp) (by simp) ?_
 simp
 refine scall_pure hb8 (by simp) (by simp) ?_
 simp [-W5_l74]
 refine sLoop_intro (α:=Nat × Cfg) (fun y=>y.1 ≤ 30 ∧ OkC c y.2) (fun y=>30 - y.1)
  (fun y=>skT ns (vs 5 + 1) (vs 6 + 1) y.1) (fun y=>skH c y.2 (vs 5 + 1) (vs 6 + 1))
  (0,f0) ⟨by simp,hok⟩ (by simp [skT]) (by simp [skH]) ?_
 rintro L ⟨i,f⟩ vt ⟨hi,hf⟩ hL
 simp only at hi hf hL
 by_cases h1:i < ns.length
 ·have h1':(i:Int) < ns.length:=by omega
  by_cases h2:i < 30
  ·have h2':(i:Int) < 30:=by omega
   have hok:=hf.enbWt
   have hen:=sp_Enb7 f.t hok.2 hok.1
   have hL':=fun l' h' vs' f' (a:OkC c f') hT hH=>hL l' h' vs' (i + 1,f') ⟨h2,a⟩ (by simp only; omega) hT hH
   have hb69:=sts_b69 hc hf ns i h1 (vs 5 + 1) (vs 6 + 1) h2
   have hw:=sp_w5 f.t hok.2 hok.1
   by_cases hl0:f.t.enabled = []
   ·have w5:=sp_wit8 ns[i] 5 (by omega) (by omega)
    have w50:=wit_ge ns[i] 5 (by omega)
    have w51:=wit_lt ns[i] 5 (by omega)
    generalize within ns[i] 5 = v at *
    have htold:=fun w h=>waits_told hf w v h
    have hto:=fun w h=>tellM_ok hf w v ((isI64_iff _).2 (by omega)) h
    have htl:=fun w=>sp_telC8 hc hf w v
    rw [hl0] at hen
    simp only [skT,skH]
    simp [-W5_b69,h1,h1',h2,h2']
    refine scall_pure hen (by simp) (by simp) ?_
    simp [-W5_b69]
    refine scall_pure hw (by simp) (by simp) ?_
    by_cases hw0:f.t.waits = []
    ·simp [-W5_b69,hw0,retW_eq]
    ·have hp0:0 < f.t.waits.length:=List.length_pos_iff.2 hw0
     have hp0':(0:Int) < f.t.waits.length:=by omega
     have hti:=htold _ (List.getElem_mem hp0)
     have hto:=hto _ hti
     have htl:=htl f.t.waits[0]
     generalize f.t.waits = ws at *
     generalize tellM f ws[0] v = tl at *
     simp only [toldR] at htl
     simp [-W5_b69,hw0,hp0,hp0',h1,h1']
     refine scall0_pure w5 (by simp) (by simp) ?_
     simp [-W5_b69]
     refine scall0_pure htl (by simp) (by simp) ?_
     simp [-W5_b69]
     rw [wrap64 (by omega) (by omega)]
     exact hL' _ _ _ tl.f hto (by simp [skT]) (by simp [skH])
   ·have hb69:=hb69 hl0 L hL'
    generalize f.t.enabled = l at *
    simp only [skT,skH] at hb69 ⊢
    simp [-W5_b69,h1,h1',h2,h2']
    refine scall_pure hen (by simp) (by simp) ?_
    simp [-W5_b69,hl0]
    refine hb69 _ vt ?_ ?_ ?_ ?_ ?_
    all_goals simp
  ·have h2':¬ (i:Int) < 30:=by omega
   simp only [skT,skH]
   simp [-W5_b69,h1,h1',h2,h2',retW_eq]
 ·have h1':¬ (i:Int) < ns.length:=by omega
  simp only [skT,skH]
  simp [-W5_b69,h1,h1',retW_eq]
theorem sp_rst (x:Shp) (ns:List Int) (hl:x.bs.length ≤ maxLen) (hn:ns.length ≤ maxLen ∧ ∀ a ∈ ns,(Lit.int .i64 a).wf = true):Am.Spec Tryz.prog 5 [.agg (encShp x),.sl (encI ns)] (.bool true):=by
 cases hfew:few3 x.bs
 ·have hf1:=sp_few x hl
  rw [hfew] at hf1
  simp only [encShp,encSh] at hf1 ⊢
  refine W5_S (by simp) ?_
  intro vs
  simp
  refine scall_pure sp_kno8 (by simp) (by simp) ?_
  simp
  refine scall_pure hf1 (by simp) (by simp) ?_
  simp [retW_eq]
 ·exact sts_go x ns hfew hl hn.1
end Go.Proofs.YtnngddgaobhkiaaGreat
