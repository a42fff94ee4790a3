import Derived.Test.YtnngddgaobhkiaaGreatGH26
import Derived.Test.YtnngddgaobhkiaaGreatGD29
import Derived.Test.YtnngddgaobhkiaaGreatGI21
set_option linter.unusedVariables false
set_option linter.unusedSimpArgs false
namespace Go.Proofs.YtnngddgaobhkiaaGreat
open Go Go.Am Go.RowKit
/-! ### Keys that are asked -/
theorem fewB_of {bs:List Rw3} (h:few3 bs = true):FewB bs:=by
 unfold few3 at h
 rw [Bool.and_eq_true] at h
 have hs:=of_decide_eq_true h.2
 refine ⟨fun x hx=>?_⟩
 have key:∀ l:List Rw3,(∀ y ∈ l,1 ≤ y.sz 0) → x ∈ l → x.sz 0 ≤ (l.map fun y=>y.sz 0).sum:=fun l=>by
  induction l with
  | nil=>intro _ h; simp at h
  | cons y l ih=>
   intro hp hx
   have hy:=hp y (by simp)
   have nn:∀ l:List Rw3,(∀ y ∈ l,1 ≤ y.sz 0) → 0 ≤ (l.map fun y=>y.sz 0).sum:=fun l=>by
    induction l with
    | nil=>intro _; simp
    | cons z l ih=>intro h; have:=ih fun y hy=>h y (by simp [hy]); have:=h z (by simp); simp only [List.map_cons,List.sum_cons]; omega
   have hn:=nn l fun z hz=>hp z (by simp [hz])
   simp only [List.map_cons,List.sum_cons]
   rcases List.mem_cons.1 hx with rfl | hx
   ·omega
   ·have:=ih (fun z hz=>hp z (by simp [hz])) hx; omega
 have:=key bs (fun y _=>(y.sz_le 0).1) hx
 omega
@[simp] theorem setC_0 (c:Cor) (a b d e:AV):setL [a,b,d,e] 0 (encC c) = encC c:=rfl
@[simp] theorem rd_Call (c:Cor):readA (encC c) 0 4 true = some (.agg (encC c)):=rfl
@[simp] theorem encC_cell (c:Cor):∀ a ∈ encC c,a.cell = true:=by simp [encC]
@[simp] theorem encC_okAll (c:Cor):(encC c).all AV.cell = true:=rfl
@[simp] theorem pur0_C (H:Heap) (c:Cor):(encC c).map (pur0 H) = encC c:=rfl
@[simp] theorem frz0_C (H:Heap) (c:Cor):(encC c).foldl frz0 H = H:=rfl
theorem sp_few (x:Shp) (h:x.bs.length ≤ maxLen):Am.Spec Tryz.prog 12 [.agg (encShp x)] (.bool (few3 x.bs)):=sp_fw3 _ _ x.bs h (by simp [closed]) (by simp [closed])
end Go.Proofs.YtnngddgaobhkiaaGreat
set_option linter.unusedVariables false
set_option linter.unusedSimpArgs false
namespace Go.Proofs.YtnngddgaobhkiaaGreat
open Go Go.Am Go.RowKit
attribute [local simp] W3 W3_rs W3_b1 W3_b2 W3_b3 W3_b6 W3_b7 W3_b8 W3_b19 W3_b22 W3_b23 W3_b24 W3_b25 W3_b39 W3_b42 W3_b44 W3_b48 W3_b56 W3_b58 W3_k4 W3_k5 W3_k18 W3_k38 W3_l47
/-! ### What is played -/
theorem doM_no {ps:List Tm} {f:Cfg} {k:Int} (h:¬ (doM ps f k).e = 0):doM ps f k = .no (doM ps f k).e:=by
 generalize hd:doM ps f k = d at *
 unfold doM at hd
 split at hd
 ·subst hd; rfl
 split at hd
 ·subst hd; rfl
 simp only at hd
 split at hd
 ·subst hd; rfl
 split at hd
 all_goals (split at hd)
 all_goals (subst hd; first | rfl | exact absurd rfl h)
theorem tellM_no {f:Cfg} {k v:Int} (h:¬ (tellM f k v).is = true):tellM f k v = ⟨.zero,.zero,false⟩:=by
 generalize hd:tellM f k v = d at *
 unfold tellM at hd
 split at hd
 ·exact hd.symm
 ·subst hd; simp at h
theorem sp_doC8 {c:Cor} (h:CorOk c) {f:Cfg} (hf:OkC c f) (pick:Int):Am.Spec Tryz.prog 22 [.agg (encC c),.agg (encF f),.int .i64 pick] (didR (doM c.procs f pick)):=
 sp_do8 c f pick h.env hf (by have:=(chk_ok h.chk).vars; omega) (by have:=(chk_ok h.chk).st; omega)
theorem sp_telC8 {c:Cor} (h:CorOk c) {f:Cfg} (hf:OkC c f) (key value:Int):Am.Spec Tryz.prog 20 [.agg (encF f),.int .i64 key,.int .i64 value] (toldR (tellM f key value)):=
 sp_tel8 hf (by have:=(chk_ok h.chk).vars; omega) key value
theorem sameF_self (f:Cfg):sameF f f = true:=(sameF_iff f f).2 rfl
theorem sp_s8C {c:Cor} (h:CorOk c) {f:Cfg} (hf:OkC c f):Am.Spec Tryz.prog 16 [.agg (encF f),.agg (encF f)] (.bool true):=by
 have hk:=chk_ok h.chk
 have hwt:=hf.wt
 have hv:=hf.vlen (by have:=hk.vars; omega)
 have hs:=hf.slen (by have:=hk.st; omega)
 rw [← sameF_self f]
 exact sp_s8 f f (Tm.lok_of_wt _ (by omega)) (by omega) (by omega) fun l hl=>by have:=hf.srow l hl; exact ⟨by omega,this.2⟩
theorem sp_s8Z:Am.Spec Tryz.prog 16 [.agg (encF .zero),.agg (encF .zero)] (.bool true):=by
 rw [← sameF_self .zero]
 exact sp_s8 .zero .zero (Tm.lok_of_wt _ (by decide +kernel)) (by simp [Cfg.zero]) (by simp [Cfg.zero]) fun l hl=>by simp [Cfg.zero] at hl
/-- What Do tells is the same as itself, whether it is refused or not. -/
theorem sp_s8D {c:Cor} (h:CorOk c) {f:Cfg} (hf:OkC c f) (k:Int):Am.Spec Tryz.prog 16 [.agg (encF (doM c.procs f k).f),.agg (encF (doM c.procs f k).f)] (.bool true):=by
 by_cases he:(doM c.procs f k).e = 0
 ·exact sp_s8C h (doM_ok h.env hf k he)
 ·rw [show (doM c.procs f k).f = .zero from by rw [doM_no he]; rfl]
  exact sp_s8Z
theorem sp_s8T {c:Cor} (h:CorOk c) {f:Cfg} (hf:OkC c f) (k v:Int) (hv:isI64 v = true):Am.Spec Tryz.prog 16 [.agg (encF (tellM f k v).f),.agg (encF (tellM f k v).f)] (.bool true):=by
 by_cases he:(tellM f k v).is = true
 ·exact sp_s8C h (tellM_ok hf k v hv he)
 ·rw [show (tellM f k v).f = .zero from by rw [tellM_no he]]
  exact sp_s8Z
def plT (ns:List Int) (raw:Int) (v7 v8 v9 i:Nat):List (Nat × AV):=[(1,.sl (encI ns)),(2,.int .i64 raw),(7,.ref 7 v7 (.p 0)),(8,.ref 8 v8 (.p 0)),(9,.ref 9 v9 (.p 0)),(10,.int .i64 (i:Nat))]
def plH (c:Cor) (f:Cfg) (v7 v8 v9:Nat):List (Nat × Blk):=[(7,.box v7 29 (encC c)),(8,.box v8 38 (encF f)),(9,.box v9 38 (encF f))]
theorem ply_k18 {c:Cor} (hc:CorOk c) {f:Cfg} (hf:OkC c f) (ns:List Int) (raw:Int) (i:Nat) (hi:i < ns.length) (hi2:i < 40) (k:Int) (v7 v8 v9:Nat) (L:St → Prop)
  (hL:∀ l' h' vs' (f':Cfg),OkC c f' → subT l' (plT ns raw v7 v8 v9 (i + 1)) → subA h' (plH c f' v7 v8 v9) → L ⟨Am.look l',hls h' vs',noG⟩)
  (T:List (Nat × AV)) (VS:Nat → Nat) (h1:Am.look T 1 = .sl (encI ns)) (h2:Am.look T 2 = .int .i64 raw) (h7:Am.look T 7 = .ref 7 v7 (.p 0)) (h8:Am.look T 8 = .ref 8 v8 (.p 0)) (h9:Am.look T 9 = .ref 9 v9 (.p 0)) (h10:Am.look T 10 = .int .i64 (i:Nat)) (h11:Am.look T 11 = .int .i64 k) :
  W3_k18 (retK Tryz.prog [.tmp 6] (.bool true)) L ⟨Am.look T,hls (plH c f v7 v8 v9) VS,noG⟩:=by
 have h':(i:Int) < ns.length:=by omega
 have hmod:isI64 (ns[i].tmod 7) = true:=by
  have h1:=Int.tmod_lt_of_pos ns[i] (b:=7) (by omega)
  have h2:=Int.lt_tmod_of_pos ns[i] (b:=7) (by omega)
  rw [isI64_iff]; omega
 have ht:=sp_tellC hc hf k (ns[i].tmod 7)
 have ht8:=sp_telC8 hc hf k (ns[i].tmod 7)
 have hsm:=sp_s8T hc hf k (ns[i].tmod 7) hmod
 have hok:=tellM_ok hf k (ns[i].tmod 7) hmod
 generalize hv:ns[i].tmod 7 = v at *
 generalize tellM f k v = d at *
 simp only [toldR] at ht ht8
 simp only [plH]
 simp [-W3_k5,h1,h2,h7,h8,h9,h10,h11,h',hi,hv]
 refine scall0_pure ht (by simp) (by simp) ?_
 simp [-W3_k5,h1,h2,h7,h8,h9,h10,h11,h',hi,hv]
 refine scall0_pure ht8 (by simp) (by simp) ?_
 simp [-W3_k5,h1,h2,h7,h8,h9,h10,h11,encEv]
 refine scall_pure hsm (by simp) (by simp) ?_
 cases hdi:d.is
 ·simp [h10,hdi]
  rw [wrap64 (by omega) (by omega)]
  refine hL _ _ _ f hf ?_ ?_
  ·simp [plT,h1,h2,h7,h8,h9]
  ·simp [plH]
 ·simp [h7,h8,h9,h10,hdi]
  rw [wrap64 (by omega) (by omega)]
  refine hL _ _ _ d.f (hok hdi) ?_ ?_
  ·simp [plT,h1,h2,h7,h8,h9]
  ·simp [plH]
theorem ply_k38 {c:Cor} (hc:CorOk c) {f:Cfg} (hf:OkC c f) (ns:List Int) (raw:Int) (i:Nat) (hi:i < ns.length) (hi2:i < 40) (k:Int) (v7 v8 v9:Nat) (L:St → Prop)
  (hL:∀ l' h' vs' (f':Cfg),OkC c f' → subT l' (plT ns raw v7 v8 v9 (i + 1)) → subA h' (plH c f' v7 v8 v9) → L ⟨Am.look l',hls h' vs',noG⟩)
  (T:List (Nat × AV)) (VS:Nat → Nat) (h1:Am.look T 1 = .sl (encI ns)) (h2:Am.look T 2 = .int .i64 raw) (h7:Am.look T 7 = .ref 7 v7 (.p 0)) (h8:Am.look T 8 = .ref 8 v8 (.p 0)) (h9:Am.look T 9 = .ref 9 v9 (.p 0)) (h10:Am.look T 10 = .int .i64 (i:Nat)) (h18:Am.look T 18 = .int .i64 k) :
  W3_k38 (retK Tryz.prog [.tmp 6] (.bool true)) L ⟨Am.look T,hls (plH c f v7 v8 v9) VS,noG⟩:=by
 have h':(i:Int) < ns.length:=by omega
 have hd:=sp_doC hc hf k
 have hd8:=sp_doC8 hc hf k
 have hsm:=sp_s8D hc hf k
 have hok:=doM_ok hc.env hf k
 generalize doM c.procs f k = d at *
 simp only [didR] at hd hd8
 simp only [plH]
 simp [-W3_k5,h1,h2,h7,h8,h9,h10,h18]
 refine scall_pure hd (by simp) (by simp) ?_
 simp [-W3_k5,h1,h2,h7,h8,h9,h10,h18]
 refine scall_pure hd8 (by simp) (by simp) ?_
 simp [-W3_k5,h1,h2,h7,h8,h9,h10,encEv]
 refine scall_pure hsm (by simp) (by simp) ?_
 by_cases he:d.e = 0
 ·simp [h7,h8,h9,h10,he]
  rw [wrap64 (by omega) (by omega)]
  refine hL _ _ _ d.f (hok he) ?_ ?_
  ·simp [plT,h1,h2,h7,h8,h9]
  ·simp [plH]
 ·simp [h10,he]
  rw [wrap64 (by omega) (by omega)]
  refine hL _ _ _ f hf ?_ ?_
  ·simp [plT,h1,h2,h7,h8,h9]
  ·simp [plH]
theorem wf_i64 {a:Int} (h:(Lit.int .i64 a).wf = true):-9223372036854775808 ≤ a ∧ a < 9223372036854775808:=by
 simp only [Lit.wf,Bool.and_eq_true,decide_eq_true_eq] at h
 have h1:IntKind.min .i64 = -9223372036854775808:=by decide +kernel
 have h2:IntKind.max .i64 = 9223372036854775807:=by decide +kernel
 rw [h1,h2] at h
 omega
theorem tdiv4 {a:Int} (h:(Lit.int .i64 a).wf = true):IntKind.wrap .i64 (a.tdiv 4) = a.tdiv 4:=by
 have h:=wf_i64 h
 have h1:=Int.mul_tdiv_add_tmod a 4
 have h2:=Int.tmod_lt_of_pos a (b:=4) (by omega)
 have h3:=Int.lt_tmod_of_pos a (b:=4) (by omega)
 exact wrap64 (by omega) (by omega)
theorem ply_go (x:Shp) (ns:List Int) (raw:Int) (hfew:few3 x.bs = true) (hl:x.bs.length ≤ maxLen) (hn:ns.length ≤ maxLen ∧ ∀ a ∈ ns,(Lit.int .i64 a).wf = true):Am.Spec Tryz.prog 3 [.agg (encShp x),.sl (encI ns),.int .i64 raw] (.bool true):=by
 have hml:maxLen = 9223372036854775807:=rfl
 have hn1:=hn.1
 have hf1:=sp_few x hl
 rw [hfew] at hf1
 have hc1:=sp_cor x.v x.s x.bs (fewB_of hfew)
 have hc:=coreM_ok x.v x.bs (fewB_of hfew)
 have hb:=sp_begC hc
 have hb8:=sp_beg8 hc
 have hok:=beg_ok hc
 simp only [encShp,encSh] at hf1 hc1 ⊢
 generalize coreM x.v x.bs = c at *
 have hchk:=sp_chkC hc
 have hk18:=fun (f:Cfg) (hf:OkC c f)=>@ply_k18 c hc f hf
 have hk38:=fun (f:Cfg) (hf:OkC c f)=>@ply_k38 c hc f hf
 have hs0:=sp_s8C hc hok
 generalize begM c = f0 at *
 refine W3_S (by simp) ?_
 intro vs
 simp
 refine scall_pure sp_kno8 (by simp) (by simp) ?_
 simp
 refine scall_pure hf1 (by simp) (by simp) ?_
 simp
 refine scall_pure hc1 (by simp) (by simp) ?_
 simp
 refine scall0_pure hb (by simp) (by simp) ?_
 simp
 refine scall0_pure hb8 (by simp) (by simp) ?_
 simp [take_C,occ_C]
 refine scall_pure hs0 (by simp) (by simp) ?_
 simp
 refine scall_pure hchk (by simp) (by simp) ?_
 simp [-W3_l47]
 refine sLoop_intro (α:=Nat × Cfg) (fun y=>y.1 ≤ 40 ∧ OkC c y.2) (fun y=>40 - y.1)
  (fun y=>plT ns raw (vs 7 + 1) (vs 8 + 1) (vs 9 + 1) y.1)
  (fun y=>plH c y.2 (vs 7 + 1) (vs 8 + 1) (vs 9 + 1))
  (0,f0) ⟨by simp,hok⟩ (by simp [plT]) (by simp [plH]) ?_
 rintro L ⟨i,f⟩ vt ⟨hi,hf⟩ hL
 simp only at hi hf hL ⊢
 have hk18:=hk18 f hf ns raw i
 have hk38:=hk38 f hf ns raw i
 by_cases h1:i < ns.length
 ·have h1':(i:Int) < ns.length:=by omega
  by_cases h2:i < 40
  ·have h2':(i:Int) < 40:=by omega
   have hL':∀ l' h' vs' (f':Cfg),OkC c f' → subT l' (plT ns raw (vs 7 + 1) (vs 8 + 1) (vs 9 + 1) (i + 1)) → subA h' (plH c f' (vs 7 + 1) (vs 8 + 1) (vs 9 + 1)) → L ⟨Am.look l',hls h' vs',noG⟩:=fun l' h' vs' f' hf' hT hH=>
    hL l' h' vs' (i + 1,f') ⟨h2,hf'⟩ (by simp only; omega) hT hH
   have w4:=sp_wit8 ns[i] 4 (by omega) (by omega)
   simp only [plT,plH]
   by_cases z4:within ns[i] 4 = 0
   ·have w6:=sp_wit8 (ns[i].tdiv 4) 6 (by omega) (by omega)
    have w29:=sp_wit8 ns[i] 29 (by omega) (by omega)
    have wq:IntKind.wrap .i64 (ns[i].tdiv 4) = ns[i].tdiv 4:=tdiv4 (hn.2 _ (List.getElem_mem h1))
    simp [-W3_k18,-W3_k38,h1,h1',h2,h2']
    refine scall_pure w4 (by simp) (by simp) ?_
    simp [-W3_k18,-W3_k38,z4,h1,h1',wq]
    refine scall_pure w6 (by simp) (by simp) ?_
    simp [-W3_k18,-W3_k38,h1,h1']
    refine scall_pure w29 (by simp) (by simp) ?_
    by_cases z29:within ns[i] 29 = 0
    ·simp [-W3_k18,-W3_k38,z29]
     refine hk18 h1 h2 raw _ _ _ L hL' _ vt ?_ ?_ ?_ ?_ ?_ ?_ ?_
     all_goals simp
    ·simp [-W3_k18,-W3_k38,z29]
     refine hk18 h1 h2 (within (ns[i].tdiv 4) 6) _ _ _ L hL' _ vt ?_ ?_ ?_ ?_ ?_ ?_ ?_
     all_goals simp
   ·have w5:=sp_wit8 (ns[i].tdiv 4) 5 (by omega) (by omega)
    have w31:=sp_wit8 ns[i] 31 (by omega) (by omega)
    have wq:IntKind.wrap .i64 (ns[i].tdiv 4) = ns[i].tdiv 4:=tdiv4 (hn.2 _ (List.getElem_mem h1))
    simp [-W3_k18,-W3_k38,h1,h1',h2,h2']
    refine scall_pure w4 (by simp) (by simp) ?_
    simp [-W3_k18,-W3_k38,z4,h1,h1',wq]
    refine scall_pure w5 (by simp) (by simp) ?_
    simp [-W3_k18,-W3_k38,h1,h1']
    refine scall_pure w31 (by simp) (by simp) ?_
    by_cases z31:within ns[i] 31 = 0
    ·simp [-W3_k18,-W3_k38,z31]
     refine hk38 h1 h2 raw _ _ _ L hL' _ vt ?_ ?_ ?_ ?_ ?_ ?_ ?_
     all_goals simp
    ·simp [-W3_k18,-W3_k38,z31]
     refine hk38 h1 h2 (within (ns[i].tdiv 4) 5) _ _ _ L hL' _ vt ?_ ?_ ?_ ?_ ?_ ?_ ?_
     all_goals simp
  ·have h2':¬ (i:Int) < 40:=by omega
   simp [-W3_k18,-W3_k38,plT,plH,h1,h1',h2,h2',retW_eq]
 ·have h1':¬ (i:Int) < ns.length:=by omega
  simp [-W3_k18,-W3_k38,plT,plH,h1,h1',retW_eq]
theorem sp_ply (x:Shp) (ns:List Int) (raw:Int) (hl:x.bs.length ≤ maxLen) (hn:ns.length ≤ maxLen ∧ ∀ a ∈ ns,(Lit.int .i64 a).wf = true):Am.Spec Tryz.prog 3 [.agg (encShp x),.sl (encI ns),.int .i64 raw] (.bool true):=by
 cases hfew:few3 x.bs
 ·have hf1:=sp_few x hl
  rw [hfew] at hf1
  simp only [encShp,encSh] at hf1 ⊢
  refine W3_S (by simp) ?_
  intro vs
  simp
  refine scall_pure sp_kno8 (by simp) (by simp) ?_
  simp
  refine scall_pure hf1 (by simp) (by simp) ?_
  simp [retW_eq]
 ·exact ply_go x ns raw hfew hl hn
end Go.Proofs.YtnngddgaobhkiaaGreat
