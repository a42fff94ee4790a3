import Derived.Test.YtnngddgaobhkiaaGreatGH26
import Derived.Test.YtnngddgaobhkiaaGreatGD29
import Derived.Test.YtnngddgaobhkiaaGreatGI21
set_option linter.unusedVariables false
set_option linter.unusedSimpArgs false
namespace Go.Proofs.YtnngddgaobhkiaaGreat
open Go Go.Am Go.RowKit
/-! ### Keys that are asked -/
theorem fewB_of {bs:List Rw3} (h:few3 bs = true):FewB bs:=by
 unfold few3 at h
 rw [Bool.and_eq_true] at h
 have hs:=of_decide_eq_true h.2
 refine ⟨fun x hx=>?_⟩
 have key:∀ l:List Rw3,(∀ y ∈ l,1 ≤ y.sz 0) → x ∈ l → x.sz 0 ≤ (l.map fun y=>y.sz 0).sum:=fun l=>by
  induction l with
  | nil=>intro _ h; simp at h
  | cons y l ih=>
   intro hp hx
   have hy:=hp y (by simp)
   have nn:∀ l:List Rw3,(∀ y ∈ l,1 ≤ y.sz 0) → 0 ≤ (l.map fun y=>y.sz 0).sum:=fun l=>by
    induction l with
    | nil=>intro _; simp
    | cons z l ih=>intro h; have:=ih fun y hy=>h y (by simp [hy]); have:=h z (by simp); simp only [List.map_cons,List.sum_cons]; omega
   have hn:=nn l fun z hz=>hp z (by simp [hz])
   simp only [List.map_cons,List.sum_cons]
   rcases List.mem_cons.1 hx with rfl | hx
   ·omega
   ·have:=ih (fun z hz=>hp z (by simp [hz])) hx; omega
 have:=key bs (fun y _=>(y.sz_le 0).1) hx
 omega
@[simp] theorem setC_0 (c:Cor) (a b d e:AV):setL [a,b,d,e] 0 (encC c) = encC c:=rfl
@[simp] theorem rd_Call (c:Cor):readA (encC c) 0 4 true = some (.agg (encC c)):=rfl
@[simp] theorem encC_cell (c:Cor):∀ a ∈ encC c,a.cell = true:=by simp [encC]
@[simp] theorem encC_okAll (c:Cor):(encC c).all AV.cell = true:=rfl
@[simp] theorem pur0_C (H:Heap) (c:Cor):(encC c).map (pur0 H) = encC c:=rfl
@[simp] theorem frz0_C (H:Heap) (c:Cor):(encC c).foldl frz0 H = H:=rfl
theorem sp_few (x:Shp) (h:x.bs.length ≤ maxLen):Am.Spec Tryz.prog 12 [.agg (encShp x)] (.bool (few3 x.bs)):=sp_fw3 _ _ x.bs h (by simp [closed]) (by simp [closed])
end Go.Proofs.YtnngddgaobhkiaaGreat
set_option linter.unusedVariables false
set_option linter.unusedSimpArgs false
namespace Go.Proofs.YtnngddgaobhkiaaGreat
open Go Go.Am Go.RowKit
/-! ### What is played -/
theorem sp_doC8 {c:Cor} (h:CorOk c) {f:Cfg} (hf:OkC c f) (pick:Int):Am.Spec Tryz.prog 22 [.agg (encC c),.agg (encF f),.int .i64 pick] (didR (doM c.procs f pick)):=
 sp_do8 c f pick h.env hf (by have:=(chk_ok h.chk).vars; omega) (by have:=(chk_ok h.chk).st; omega)
theorem sp_telC8 {c:Cor} (h:CorOk c) {f:Cfg} (hf:OkC c f) (key value:Int):Am.Spec Tryz.prog 20 [.agg (encF f),.int .i64 key,.int .i64 value] (toldR (tellM f key value)):=
 sp_tel8 hf (by have:=(chk_ok h.chk).vars; omega) key value
def plT (ns:List Int) (raw:Int) (v7 v8 v9 i:Nat):List (Nat × AV):=[(1,.sl (encI ns)),(2,.int .i64 raw),(7,.ref 7 v7 (.p 0)),(8,.ref 8 v8 (.p 0)),(9,.ref 9 v9 (.p 0)),(10,.int .i64 (i:Nat))]
def plH (c:Cor) (f:Cfg) (v7 v8 v9:Nat):List (Nat × Blk):=[(7,.box v7 29 (encC c)),(8,.box v8 38 (encF f)),(9,.box v9 38 (encF f))]
end Go.Proofs.YtnngddgaobhkiaaGreat
set_option linter.unusedVariables false
set_option linter.unusedSimpArgs false
namespace Go.Proofs.YtnngddgaobhkiaaGreat
open Go Go.Am Go.RowKit
attribute [local simp] W18 W18_rs W18_k1 W18_b2 W8 W8_rs W8_b1 W8_b2 W8_b5 W8_b6 W8_b8 W8_b10 W8_b11 W8_b12 W8_b15 W8_b17 W8_b18 W8_b20 W8_b22 W8_b41 W8_b47 W8_b49 W8_k3 W8_k4 W8_k16 W8_l21 W8_l44
/-! ### As many picks as there are steps -/
theorem fit_err (n:Int):(fit n).2 = 0 ∨ (fit n).2 = 8:=by unfold fit; split <;> simp
theorem ev2_err (k a b:Int):(ev2 k a b).2 = 0 ∨ (ev2 k a b).2 = 8 ∨ (ev2 k a b).2 = 9:=by
 have h:=fun n=>fit_err n
 unfold ev2
 repeat' split
 all_goals first
  | (rcases h _ with h | h <;> rw [h] <;> simp; done)
  | simp
theorem evE_err (vs:List Int) (x:Ex):(evE vs x).2 = 0 ∨ (evE vs x).2 = 8 ∨ (evE vs x).2 = 9:=by
 have ih:∀ y ∈ x.l,(evE vs y).2 = 0 ∨ (evE vs y).2 = 8 ∨ (evE vs y).2 = 9:=fun y hy=>evE_err vs y
 obtain ⟨k,n,s,l⟩:=x
 simp only at ih
 unfold evE
 split
 ·simp
 ·split
  ·simp
  ·rcases l with _ | ⟨y,_ | ⟨z,l⟩⟩
   ·simp
   ·have h1:=ih y (by simp)
    have h2:=fit_err (-(evE vs y).1)
    simp only [evA]
    repeat' split
    all_goals first
     | exact h1
     | (simp; done)
     | (rcases h2 with h2 | h2 <;> simp [h2])
   ·have h1:=ih y (by simp)
    have h2:=ih z (by simp)
    simp only [evB]
    repeat' split
    all_goals first
     | exact h1
     | exact h2
     | (simp; done)
     | exact ev2_err _ _ _
termination_by SizeOf.sizeOf x
decreasing_by exact Ex.lt_of_mem hy
theorem deed_err (ps:List Tm) (f:Cfg) (x:Tm) (alt:Int):(deed ps f x alt).e ≠ 12:=by
 have h:=evE_err f.vars x.e
 unfold deed
 repeat' split
 all_goals first
  | (simp only; omega)
  | simp
theorem doM_bad {ps:List Tm} {f:Cfg} (pick:Int) (h:pick < 0 ∨ (f.t.enabled.length:Int) ≤ pick):(doM ps f pick).e = 12:=by
 unfold doM
 rcases h with h | h
 ·rw [if_pos h]; rfl
 ·by_cases h0:pick < 0
  ·rw [if_pos h0]; rfl
  ·rw [if_neg h0,List.getElem?_eq_none (by omega)]; rfl
theorem doM_good {ps:List Tm} {f:Cfg} (pick:Int) (h0:0 ≤ pick) (h:pick < f.t.enabled.length):¬ (doM ps f pick).e = 12:=by
 unfold doM
 rw [if_neg (by omega),List.getElem?_eq_getElem (by omega)]
 simp only
 split
 ·simp [Did.no]
 split
 ·rename_i h
  exact deed_err _ _ _ _
 split
 all_goals (split <;> simp [Did.no])
theorem enabled_len {c:Cor} {f:Cfg} (hf:OkC c f):f.t.enabled.length ≤ 200000000:=by
 have h1:=enS_len f.t.norm [] (decide (0 < f.t.norm.waits.length))
 have h2:=f.t.norm_wt
 have h3:=hf.enbWt.1
 unfold Tm.enabled Tm.enabledN
 unfold enS at h1
 omega
theorem sp_witB (a n:Int) (hn:0 < n) (h2:n < 4611686018427387904):Am.Spec Tryz.prog 18 [.int .i64 a,.int .i64 n] (.int .i64 (within a n)):=by
 refine W18_S (by simp) ?_
 intro vs
 simp
 rw [if_neg (by omega)]
 simp
 have h1:=Int.tmod_lt_of_pos a hn
 have h3:-n < a.tmod n:=by have:=Int.lt_tmod_of_pos a hn; omega
 refine sIf_dec (fun h=>?_) (fun h=>?_)
 ·simp
  rw [wrap64 (by omega) (by omega)]
  simp [retW_eq,within,h]
 ·simp [retW_eq,within,h]
def stT (ns:List Int) (raw:Int) (v7 v8 i:Nat):List (Nat × AV):=[(1,.sl (encI ns)),(2,.int .i64 raw),(7,.ref 7 v7 (.p 0)),(8,.ref 8 v8 (.p 0)),(9,.int .i64 (i:Nat))]
def stH (c:Cor) (f:Cfg) (v7 v8:Nat):List (Nat × Blk):=[(7,.box v7 29 (encC c)),(8,.box v8 38 (encF f))]
theorem stp_b22 {c:Cor} (hc:CorOk c) {f:Cfg} (hf:OkC c f) (ns:List Int) (raw:Int) (i:Nat) (hi:i < ns.length) (hi2:i < 20) (v7 v8:Nat) (L:St → Prop)
  (hL:∀ l' h' vs' (f':Cfg),OkC c f' → subT l' (stT ns raw v7 v8 (i + 1)) → subA h' (stH c f' v7 v8) → L ⟨Am.look l',hls h' vs',noG⟩)
  (T:List (Nat × AV)) (H:List (Nat × Blk)) (VS:Nat → Nat) (h1:Am.look T 1 = .sl (encI ns)) (h2:Am.look T 2 = .int .i64 raw) (h7:Am.look T 7 = .ref 7 v7 (.p 0)) (h8:Am.look T 8 = .ref 8 v8 (.p 0)) (h9:Am.look T 9 = .int .i64 (i:Nat)) (h10:Am.look T 10 = .sl (f.t.enabled.map encS))
  (hH:subA H (stH c f v7 v8)) :
  W8_b22 (retK Tryz.prog [.tmp 6] (.bool true)) L ⟨Am.look T,hls H VS,noG⟩:=by
 have h':(i:Int) < ns.length:=by omega
 have hok:=hf.enbWt
 have hln:=enabled_len hf
 have hgood:=fun k=>doM_good (ps:=c.procs) (f:=f) k
 have hd:=fun k=>sp_doC hc hf k
 have hd8:=fun k=>sp_doC8 hc hf k
 have htl:=fun k=>sp_telC8 hc hf k 1
 have hw:=sp_w5 f.t hok.2 hok.1
 have htold:=fun w h=>waits_told hf w 1 h
 have hdo:=fun k=>doM_ok hc.env hf k
 have hto:=fun w h=>tellM_ok hf w 1 (by rfl) h
 generalize f.t.enabled = l at *
 simp [-W8_l21]
 refine sLoop_intro (fun k:Nat=>k ≤ l.length) (fun k=>l.length - k) (fun k=>stT ns raw v7 v8 i ++ [(10,.sl (l.map encS)),(23,.int .i64 (k:Nat))]) (fun _=>stH c f v7 v8) 0 (by simp) (by simp [stT,h1,h2,h7,h8,h9,h10]) hH ?_
 rintro L1 k vu hkk hL1
 simp only [stT,stH,List.cons_append,List.nil_append] at hL1 ⊢
 by_cases g:k < l.length
 ·have g':(k:Int) < l.length:=by omega
  have hg:=hgood k (by omega) (by omega)
  have hd:=hd k
  generalize doM c.procs f k = d at *
  simp only [didR] at hd
  simp [g,g']
  refine scall_pure hd (by simp) (by simp) ?_
  simp [hg]
  rw [wrap64 (by omega) (by omega)]
  exact hL1 _ _ _ (k + 1) g (by omega) (by simp) (by simp)
 ·obtain rfl:k = l.length:=by omega
  by_cases hl0:l = []
  ·simp [hl0]
   refine scall_pure hw (by simp) (by simp) ?_
   by_cases hw0:f.t.waits = []
   ·simp [hw0,retW_eq]
   ·have hp0:0 < f.t.waits.length:=List.length_pos_iff.2 hw0
    have hp0':(0:Int) < f.t.waits.length:=by omega
    have hti:=htold _ (List.getElem_mem hp0)
    have hto:=hto _ hti
    have htl:=htl f.t.waits[0]
    generalize f.t.waits = ws at *
    generalize tellM f ws[0] 1 = tl at *
    simp only [toldR] at htl
    simp [hw0,hp0,hp0']
    refine scall0_pure htl (by simp) (by simp) ?_
    simp
    rw [wrap64 (by omega) (by omega)]
    exact hL _ _ _ tl.f hto (by simp [stT]) (by simp [stH])
  ·have hlp:0 < l.length:=List.length_pos_iff.2 hl0
   have hwit:=sp_witB ns[i] l.length (by omega) (by omega)
   have hd8:=hd8 (within ns[i] l.length)
   have hdo:=hdo (within ns[i] l.length)
   generalize within ns[i] l.length = pk at *
   generalize doM c.procs f pk = d at *
   simp only [didR] at hd8
   simp [hl0,hi,h',take_C,occ_C]
   refine scall0_pure hwit (by simp) (by simp) ?_
   simp [take_C,occ_C]
   refine scall0_pure hd8 (by simp) (by simp) ?_
   by_cases he:d.e = 0
   ·simp [take_C,occ_C,he]
    rw [wrap64 (by omega) (by omega)]
    exact hL _ _ _ d.f (hdo he) (by simp [stT]) (by simp [stH])
   ·simp [take_C,occ_C,he,retW_eq]
theorem stp_go (x:Shp) (ns:List Int) (raw:Int) (hfew:few3 x.bs = true) (hl:x.bs.length ≤ maxLen) (hn:ns.length ≤ maxLen):Am.Spec Tryz.prog 8 [.agg (encShp x),.sl (encI ns),.int .i64 raw] (.bool true):=by
 have hml:maxLen = 9223372036854775807:=rfl
 have hf1:=sp_few x hl
 rw [hfew] at hf1
 have hc1:=sp_cor x.v x.s x.bs (fewB_of hfew)
 have hc:=coreM_ok x.v x.bs (fewB_of hfew)
 have hb8:=sp_beg8 hc
 have hok:=beg_ok hc
 simp only [encShp,encSh] at hf1 hc1 ⊢
 generalize coreM x.v x.bs = c at *
 have hd:=fun (f:Cfg) (hf:OkC c f) (k:Int)=>sp_doC hc hf k
 have hd8:=fun (f:Cfg) (hf:OkC c f) (k:Int)=>sp_doC8 hc hf k
 have htl:=fun (f:Cfg) (hf:OkC c f) (k:Int)=>sp_telC8 hc hf k 1
 generalize begM c = f0 at *
 refine W8_S (by simp) ?_
 intro vs
 simp
 refine scall_pure sp_kno8 (by simp) (by simp) ?_
 simp
 refine scall_pure hf1 (by simp) (by simp) ?_
 simp
 refine scall_pure hc1 (by simp) (by simp) ?_
 simp
 refine scall_pure hb8 (by simp) (by simp) ?_
 simp [-W8_l44]
 refine sLoop_intro (α:=Nat × Cfg) (fun y=>y.1 ≤ 20 ∧ OkC c y.2) (fun y=>20 - y.1)
  (fun y=>[(1,.sl (encI ns)),(2,.int .i64 raw),(7,.ref 7 (vs 7 + 1) (.p 0)),(8,.ref 8 (vs 8 + 1) (.p 0)),(9,.int .i64 (y.1:Nat))])
  (fun y=>[(7,.box (vs 7 + 1) 29 (encC c)),(8,.box (vs 8 + 1) 38 (encF y.2))])
  (0,f0) ⟨by simp,hok⟩ (by simp) (by simp) ?_
 rintro L ⟨i,f⟩ vt ⟨hi,hf⟩ hL
 simp only at hi hf hL ⊢
 by_cases h1:i < ns.length
 ·have h1':(i:Int) < ns.length:=by omega
  by_cases h2:i < 20
  ·have h2':(i:Int) < 20:=by omega
   have hok:=hf.enbWt
   have hen:=sp_Enb7 f.t hok.2 hok.1
   have hln:=enabled_len hf
   have hbad:=fun k=>doM_bad (ps:=c.procs) (f:=f) k
   have hgood:=fun k=>doM_good (ps:=c.procs) (f:=f) k
   have hda:=hd f hf f.t.enabled.length
   have hdb:=hd f hf (-1)
   have hdc:=hd f hf raw
   have hba:=hbad f.t.enabled.length (.inr (by omega))
   have hbb:=hbad (-1) (.inl (by omega))
   have hbc:=hbad raw
   have hgo:=stp_b22 hc hf ns raw i h1 h2 (vs 7 + 1) (vs 8 + 1) L (fun l' h' vs' f' hf' hT hH=>hL l' h' vs' (i + 1,f') ⟨h2,hf'⟩ (by simp only; omega) hT hH)
   generalize f.t.enabled = l at *
   generalize doM c.procs f l.length = da at *
   generalize doM c.procs f (-1) = db at *
   generalize doM c.procs f raw = dc at *
   simp only [didR] at hda hdb hdc
   simp [-W8_b22,-W8_l21,h1,h1',h2,h2']
   refine scall_pure hen (by simp) (by simp) ?_
   simp [-W8_b22,-W8_l21]
   refine scall_pure hda (by simp) (by simp) ?_
   simp [-W8_b22,-W8_l21]
   refine scall_pure hdb (by simp) (by simp) ?_
   simp [-W8_b22,-W8_l21]
   refine scall_pure hdc (by simp) (by simp) ?_
   by_cases hr0:raw < 0
   ·have hbc:=hbc (.inl hr0)
    simp [-W8_b22,-W8_l21,hba,hbb,hbc,hr0]
    refine hgo _ _ _ ?_ ?_ ?_ ?_ ?_ ?_ ?_
    all_goals simp [stH]
   by_cases hr1:(l.length:Int) ≤ raw
   ·have hbc:=hbc (.inr hr1)
    simp [-W8_b22,-W8_l21,hba,hbb,hbc,hr0,hr1]
    refine hgo _ _ _ ?_ ?_ ?_ ?_ ?_ ?_ ?_
    all_goals simp [stH]
   ·simp [-W8_b22,-W8_l21,hba,hbb,hr0,hr1]
    refine hgo _ _ _ ?_ ?_ ?_ ?_ ?_ ?_ ?_
    all_goals simp [stH]
  ·have h2':¬ (i:Int) < 20:=by omega
   simp [h1,h1',h2,h2',retW_eq]
 ·have h1':¬ (i:Int) < ns.length:=by omega
  simp [h1,h1',retW_eq]
theorem sp_stp (x:Shp) (ns:List Int) (raw:Int) (hl:x.bs.length ≤ maxLen) (hn:ns.length ≤ maxLen ∧ ∀ a ∈ ns,(Lit.int .i64 a).wf = true):Am.Spec Tryz.prog 8 [.agg (encShp x),.sl (encI ns),.int .i64 raw] (.bool true):=by
 cases hfew:few3 x.bs
 ·have hf1:=sp_few x hl
  rw [hfew] at hf1
  simp only [encShp,encSh] at hf1 ⊢
  refine W8_S (by simp) ?_
  intro vs
  simp
  refine scall_pure sp_kno8 (by simp) (by simp) ?_
  simp
  refine scall_pure hf1 (by simp) (by simp) ?_
  simp [retW_eq]
 ·exact stp_go x ns raw hfew hl hn.1
end Go.Proofs.YtnngddgaobhkiaaGreat
