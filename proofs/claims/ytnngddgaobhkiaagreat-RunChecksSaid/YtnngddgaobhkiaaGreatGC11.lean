import Derived.Test.YtnngddgaobhkiaaGreatGP6
import Derived.Test.YtnngddgaobhkiaaGreatGW8
import Derived.Test.YtnngddgaobhkiaaGreatGW9
set_option linter.unusedVariables false
set_option linter.unusedSimpArgs false
namespace Go.Proofs.YtnngddgaobhkiaaGreat
open Go Go.Am Go.RowKit
attribute [local simp] W133 W133_rs W147 W147_rs W124 W124_rs W134 W134_rs W126 W126_rs W136 W136_rs W136_b1 W136_b2 W136_b3 W136_b6 W108 W108_rs W108_b5 W108_b10 W108_b15 W108_b20 W108_b21 W108_b22 W108_b23 W108_b24 W108_b25 W108_b26 W109 W109_rs W107 W107_rs W152 W152_rs W152_k1 W152_b2 W152_b3 W152_b4 W152_l5 W145 W145_rs W146 W146_rs W132 W132_rs
theorem sp_sm (c:Int):Am.Spec Tryz.prog 133 [.int .u8 c] (.bool (isSmall c)):=by
 refine W133_S (by simp) ?_
 intro vs
 simp
 repeat' (first | (refine sIf_dec (fun h=>?_) (fun h=>?_) <;> (try simp [retW_eq, *,  isSmall])) | (refine sGrd_dec (fun h=>?_) (fun h=>?_) <;> (try simp [retW_eq, *,  isSmall])) | (refine sIf_ndec (fun h=>?_) (fun h=>?_) <;> (try simp [retW_eq, *,  isSmall])) | (refine sGrd_ndec (fun h=>?_) (fun h=>?_) <;> (try simp [retW_eq, *,  isSmall])) | (refine sIf_of (fun h=>?_) (fun h=>?_) <;> (try simp at h) <;> (try simp [retW_eq, *,  isSmall])) | (refine sGrd_of (fun h=>?_) (fun h=>?_) <;> (try simp at h) <;> (try simp [retW_eq, *,  isSmall])))
theorem sp_dg (c:Int):Am.Spec Tryz.prog 147 [.int .u8 c] (.bool (isDigit c)):=by
 refine W147_S (by simp) ?_
 intro vs
 simp
 repeat' (first | (refine sIf_dec (fun h=>?_) (fun h=>?_) <;> (try simp [retW_eq, *,  isDigit])) | (refine sGrd_dec (fun h=>?_) (fun h=>?_) <;> (try simp [retW_eq, *,  isDigit])) | (refine sIf_ndec (fun h=>?_) (fun h=>?_) <;> (try simp [retW_eq, *,  isDigit])) | (refine sGrd_ndec (fun h=>?_) (fun h=>?_) <;> (try simp [retW_eq, *,  isDigit])) | (refine sIf_of (fun h=>?_) (fun h=>?_) <;> (try simp at h) <;> (try simp [retW_eq, *,  isDigit])) | (refine sGrd_of (fun h=>?_) (fun h=>?_) <;> (try simp at h) <;> (try simp [retW_eq, *,  isDigit])))
theorem sp_inn (c:Int):Am.Spec Tryz.prog 134 [.int .u8 c] (.bool (isInner c)):=by
 refine W134_S (by simp) ?_
 intro vs
 simp
 refine scall_flat (sp_sm c) (by simp) (by simp) rfl ?_
 simp
 cases h1:isSmall c
 ·simp
  refine scall_flat (sp_dg c) (by simp) (by simp) rfl ?_
  simp
  cases h2:isDigit c <;> simp [retW_eq,isInner,h1,h2]
 ·simp [retW_eq,isInner,h1]
theorem sp_wd (c:Int) (f:Bool):Am.Spec Tryz.prog 126 [.int .u8 c,.bool f] (.bool (isSmall c || (!f && (isDigit c || decide (c = 95))))):=by
 refine W126_S (by simp) ?_
 intro vs
 simp
 have e3:∀ K:Prop,((c < 97 → K) ∧ (97 ≤ c → K)) → K:=fun K h=>by by_cases h1:c < 97; exact h.1 h1; exact h.2 (by omega)
 by_cases h1:97 ≤ c
 ·by_cases h2:c ≤ 122
  ·simp [h1,h2,retW_eq,isSmall]
  ·have h5:¬ c ≤ 57:=by omega
   have h6:¬ c = 95:=by omega
   have h7:48 ≤ c:=by omega
   cases f <;> simp [h1,h2,h5,h6,h7,retW_eq,isSmall,isDigit]
 ·by_cases h3:48 ≤ c
  ·by_cases h4:c ≤ 57
   ·cases f <;> simp [h1,h3,h4,retW_eq,isSmall,isDigit]
   ·cases f <;> simp [h1,h3,h4,retW_eq,isSmall,isDigit]
  ·cases f <;> simp [h1,h3,retW_eq,isSmall,isDigit]
theorem sp_inr (n lo hi:Int):Am.Spec Tryz.prog 124 [.int .i64 n,.int .i64 lo,.int .i64 hi] (.bool (decide (lo ≤ n) && decide (n < hi))):=by
 refine W124_S (by simp) ?_
 intro vs
 simp
 repeat' (first | (refine sIf_dec (fun h=>?_) (fun h=>?_) <;> (try simp [retW_eq, *])) | (refine sGrd_dec (fun h=>?_) (fun h=>?_) <;> (try simp [retW_eq, *])) | (refine sIf_ndec (fun h=>?_) (fun h=>?_) <;> (try simp [retW_eq, *])) | (refine sGrd_ndec (fun h=>?_) (fun h=>?_) <;> (try simp [retW_eq, *])) | (refine sIf_of (fun h=>?_) (fun h=>?_) <;> (try simp at h) <;> (try simp [retW_eq, *])) | (refine sGrd_of (fun h=>?_) (fun h=>?_) <;> (try simp at h) <;> (try simp [retW_eq, *])))
theorem sp_chd (k:Int):Am.Spec Tryz.prog 136 [.int .i64 k] (.int .i64 (kids k)):=by
 refine W136_S (by simp) ?_
 intro vs
 simp
 by_cases h1:k = 1
 ·simp [h1,retW_eq,kids]
 by_cases h2:k = 2
 ·simp [h2,retW_eq,kids]
 by_cases h3:k = 3
 ·simp [h3,retW_eq,kids]
 by_cases h4:k = 4
 ·simp [h4,retW_eq,kids]
 simp [h1,h2,h3,h4,retW_eq,kids]
theorem sp_num (v st p k n:Int):Am.Spec Tryz.prog 108 [.agg [.int .i64 v,.int .i64 st,.int .i64 p],.int .i64 k,.int .i64 n] (.bool (numOk v st p k n)):=by
 refine W108_S (by simp) ?_
 intro vs
 simp
 by_cases h1:k = 1
 ·by_cases hn:0 ≤ n <;> simp [h1,hn,retW_eq,numOk]
 by_cases h2:k = 2
 ·by_cases hn:-1 ≤ n <;> simp [h2,hn,retW_eq,numOk]
 by_cases h3:k = 3
 ·by_cases hn:0 ≤ n <;> simp [h3,hn,retW_eq,numOk]
 by_cases h4:k = 4
 ·by_cases hn:0 ≤ n <;> simp [h4,hn,retW_eq,numOk]
 by_cases h5:k = 5
 ·simp [h5,retW_eq,numOk]
 simp [h1,h2,h3,h4,h5,retW_eq,numOk]
theorem sp_non (x:Ex):Am.Spec Tryz.prog 109 [.agg (encE x)] (.bool x.none):=by
 refine W109_S (by simp) ?_
 intro vs
 simp
 by_cases h1:x.kind = 0
 ·by_cases h2:x.n = 0
  ·by_cases h3:x.name = ⟨#[]⟩
   ·by_cases h4:x.l = [] <;> simp [h1,h2,h3,h4,retW_eq,Ex.none]
   ·simp [h1,h2,h3,retW_eq,Ex.none]
  ·simp [h1,h2,retW_eq,Ex.none]
 ·simp [h1,retW_eq,Ex.none]
theorem sp_shp:Am.Spec Tryz.prog 107 [] (.sl shapes):=by
 refine W107_S (by simp) ?_
 intro vs
 simp [retW_eq,shapes,shapeOf]
theorem sp_idx (l:List ByteArray) (s:ByteArray) (hl:l.length < 9223372036854775807):Am.Spec Tryz.prog 152 [.sl (l.map fun x=>[.str x]),.str s] (.int .i64 (idxB l s)):=by
 refine W152_S (by simp) ?_
 intro vs
 simp
 refine sLoop_intro (fun i=>i ≤ l.length ∧ idxB l s = if idxB (l.drop i) s = -1 then -1 else i + idxB (l.drop i) s) (fun i=>l.length - i)
  (fun i=>[(0,.sl (l.map fun x=>[.str x])),(1,.str s),(7,.int .i64 l.length),(8,.int .i64 (i:Nat))]) (fun _=>[]) 0 (by simp) (by simp) (by simp) ?_
 intro L i vs ⟨hi,hx⟩ hL
 simp
 refine sIf_dec (fun h=>?_) (fun h=>?_)
 ·simp [h]
  refine sIf_dec (fun e=>?_) (fun e=>?_)
  ·simp [retW_eq]
   rw [hx,idxB_at l s i h e.symm]
   simp
  ·simp
   rw [wrap64 (by omega) (by omega)]
   exact hL _ _ _ (i + 1) ⟨h,by rw [hx,idxB_step l s i h fun q=>e q.symm]⟩ (by omega) (by simp) (by simp)
 ·simp [retW_eq]
  have:l.drop i = []:=List.drop_of_length_le (by omega)
  rw [this] at hx
  simpa [idxB] using hx.symm
theorem sp_cts (l:List ByteArray) (s:ByteArray) (hl:l.length < 9223372036854775807):Am.Spec Tryz.prog 145 [.sl (l.map fun x=>[.str x]),.str s] (.bool (decide (0 ≤ idxB l s))):=by
 refine W145_S (by simp) ?_
 intro vs
 simp
 refine scall_flat (sp_idx l s hl) (by simp) (by simp) rfl ?_
 simp [retW_eq]
theorem sp_wds:Am.Spec Tryz.prog 146 [] (.sl (words.map fun x=>[.str x])):=by
 refine W146_S (by simp) ?_
 intro vs
 simp [retW_eq,words]
theorem sp_key (s:ByteArray):Am.Spec Tryz.prog 132 [.str s] (.bool (isKey s)):=by
 refine W132_S (by simp) ?_
 intro vs
 simp
 refine scall_pure sp_wds (by simp) (by simp) ?_
 simp
 refine scall_flat (sp_cts words s (by simp [words])) (by simp) (by simp [words]) rfl ?_
 simp [retW_eq,isKey]
end Go.Proofs.YtnngddgaobhkiaaGreat
namespace Go.Proofs.YtnngddgaobhkiaaGreat
open Go Go.Am Go.RowKit
attribute [local simp] W130 W130_rs W130_b1 W130_b2 W82 W82_rs W82_b1 W82_b2 W84 W84_rs W84_b1 W84_b2 W33 W33_rs W33_b1 W33_b2 W101 W101_rs W101_k2 W101_b4 W101_l5 W76 W76_rs W76_k3 W76_b5 W76_l6
theorem sp_cle (rows:List (List AV)) (h:∀ x ∈ rows,x.length = 4 ∧ ∀ c ∈ x,c.cell = true) (hc:closedLL rows = true) (hl:rows.length ≤ 137438953472):Am.Spec Tryz.prog 130 [.sl rows] (.sl rows):=by
 refine W130_S (by simp) ?_
 intro vs
 simp
 refine sNil_sl _ _ _ _ _ _ ?_ fun e=>?_
 ·simp
  rw [if_pos h]
  simp
  rw [decide_eq_true (by omega)]
  simp [retW_eq,hc]
 ·subst e
  simp [retW_eq]
theorem sp_clt (rows:List (List AV)) (h:∀ x ∈ rows,x.length = 9 ∧ ∀ c ∈ x,c.cell = true) (hc:closedLL rows = true) (hl:rows.length ≤ 137438953472):Am.Spec Tryz.prog 82 [.sl rows] (.sl rows):=by
 refine W82_S (by simp) ?_
 intro vs
 simp
 refine sNil_sl _ _ _ _ _ _ ?_ fun e=>?_
 ·simp
  rw [if_pos h]
  simp
  rw [decide_eq_true (by omega)]
  simp [retW_eq,hc]
 ·subst e
  simp [retW_eq]
theorem sp_cls (rows:List (List AV)) (h:∀ x ∈ rows,x.length = 3 ∧ ∀ c ∈ x,c.cell = true) (hc:closedLL rows = true) (hl:rows.length ≤ 137438953472):Am.Spec Tryz.prog 84 [.sl rows] (.sl rows):=by
 refine W84_S (by simp) ?_
 intro vs
 simp
 refine sNil_sl _ _ _ _ _ _ ?_ fun e=>?_
 ·simp
  rw [if_pos h]
  simp
  rw [decide_eq_true (by omega)]
  simp [retW_eq,hc]
 ·subst e
  simp [retW_eq]
theorem sp_cli (rows:List (List AV)) (h:∀ x ∈ rows,x.length = 1 ∧ ∀ c ∈ x,c.cell = true) (hc:closedLL rows = true) (hl:rows.length ≤ 137438953472):Am.Spec Tryz.prog 33 [.sl rows] (.sl rows):=by
 refine W33_S (by simp) ?_
 intro vs
 simp
 refine sNil_sl _ _ _ _ _ _ ?_ fun e=>?_
 ·simp
  rw [if_pos h]
  simp
  rw [decide_eq_true (by omega)]
  simp [retW_eq,hc]
 ·subst e
  simp [retW_eq]
theorem rw_cli (l:List Int) (hl:l.length ≤ 137438953472):Am.RowSpec Tryz.prog 33 [.sl (encI l)] 3 1 (encI l):=by
 refine Am.RowSpec.of_W (W:=W33) Tryz.func33 (by kernel_rfl) (by kernel_rfl) (by kernel_rfl) Tryz.ntmps33 W33_eq (rs:=[.tmp 2]) (by kernel_rfl) (by simp) (by simp) ?_
 intro vs
 simp
 refine sNil_sl _ _ _ _ _ _ ?_ fun e=>?_
 ·simp
  rw [if_pos (by simpa using encI_cell l)]
  simp
  rw [decide_eq_true (by omega)]
  simp
  refine retRW_of _ _ _ _ _ _ 5 (vs 5 + 1 + 1) (by simp [resV,resOne]) (by simp)
 ·rw [e]
  simp
  exact retRW_nil _ _ _ _ _ (by simp [resV,resOne]) (by omega)
theorem sp_owe (x:Ex) (hw:x.wt ≤ 137438953472):Am.Spec Tryz.prog 101 [.agg (encE x)] (.agg (encE x)):=by
 have hlen:=Ex.wts_len x.l
 have hwt:=x.wt_eq
 refine W101_S (by simp) ?_
 intro vs
 simp
 rw [decide_eq_true (p:=56 * x.l.length ≤ 281474976710656) (by omega),decide_eq_true (p:=x.l.length ≤ maxLen) (by simp only [maxLen]; omega)]
 simp
 refine sLoop_intro (fun a:Nat × Nat=>a.1 ≤ x.l.length) (fun a=>x.l.length - a.1)
  (fun a=>[(1,.ref 1 (vs 1 + 1) (.p 0)),(2,.ref 2 (vs 2 + 1) (.p 0)),(3,.ref 9 a.2 .o),(11,.sl (x.l.map encE)),(12,.int .i64 x.l.length),(13,.int .i64 (a.1:Nat))])
  (fun a=>[(1,.box (vs 1 + 1) 33 (encE x)),(2,.box (vs 2 + 1) 33 [.int .i64 0,.int .i64 0,.str ⟨#[]⟩,.nils]),(9,.row a.2 33 4 ((x.l.take a.1).map encE))]) (0,vs 9 + 1) (by simp) (by simp) (by simp) ?_
 intro L ⟨i,v⟩ vt hi hL
 simp only at hi
 simp
 refine sIf_dec (fun h=>?_) (fun h=>?_)
 ·simp [h]
  refine scall_pure (sp_owe x.l[i] (by have:=Ex.wts_mem (List.getElem_mem h); omega)) (by simp) (by simp) ?_
  simp
  rw [decide_eq_true (by omega)]
  simp
  rw [wrap64 (by omega) (by omega)]
  refine hL _ _ _ (i + 1,v + 1) (by simp; omega) (by simp; omega) (by simp) (by simp [take_map_succ encE x.l i h])
 ·simp
  refine scall_pure (sp_cle (x.l.map encE) (by simp; exact fun a _=>encE_cell a) (by simp) (by simp; omega)) (by simp; rw [List.take_of_length_le (by simp; omega)]) (by simp) ?_
  simp [retW_eq]
termination_by SizeOf.sizeOf x
decreasing_by exact Ex.lt_of_mem (List.getElem_mem h)
theorem sp_own (x:Tm) (hw:x.wt ≤ 137438953472):Am.Spec Tryz.prog 76 [.agg (encT x)] (.agg (encT x)):=by
 have hlen:=Tm.wts_len x.l
 have hwt:=x.wt_eq
 refine W76_S (by simp) ?_
 intro vs
 simp
 rw [decide_eq_true (p:=120 * x.l.length ≤ 281474976710656) (by omega),decide_eq_true (p:=x.l.length ≤ maxLen) (by simp only [maxLen]; omega)]
 simp
 refine sLoop_intro (fun a:Nat × Nat=>a.1 ≤ x.l.length) (fun a=>x.l.length - a.1)
  (fun a=>[(1,.ref 1 (vs 1 + 1) (.p 0)),(2,.ref 2 (vs 2 + 1) (.p 0)),(3,.ref 9 a.2 .o),(11,.sl (x.l.map encT)),(12,.int .i64 x.l.length),(13,.int .i64 (a.1:Nat))])
  (fun a=>[(1,.box (vs 1 + 1) 35 (encT x)),(2,.box (vs 2 + 1) 35 [.int .i64 0,.int .i64 0,.int .i64 0,.str ⟨#[]⟩,.int .i64 0,.int .i64 0,.str ⟨#[]⟩,.nils,.nils]),(9,.row a.2 35 9 ((x.l.take a.1).map encT))]) (0,vs 9 + 1) (by simp) (by simp) (by simp) ?_
 intro L ⟨i,v⟩ vt hi hL
 simp only at hi
 simp
 refine sIf_dec (fun h=>?_) (fun h=>?_)
 ·simp [h]
  refine scall_pure (sp_own x.l[i] (by have:=Tm.wts_mem (List.getElem_mem h); omega)) (by simp) (by simp) ?_
  simp
  rw [decide_eq_true (by omega)]
  simp
  rw [wrap64 (by omega) (by omega)]
  refine hL _ _ _ (i + 1,v + 1) (by simp; omega) (by simp; omega) (by simp) (by simp [take_map_succ encT x.l i h])
 ·simp
  refine scall0_pure (sp_clt (x.l.map encT) (by simp; exact fun a _=>encT_cell a) (by simp) (by simp; omega)) (by simp; rw [List.take_of_length_le (by simp; omega)]) (by simp) ?_
  simp
  refine scall0_pure (sp_owe x.e (by omega)) (by simp) (by simp) ?_
  simp [retW_eq]
termination_by SizeOf.sizeOf x
decreasing_by exact Tm.lt_of_mem (List.getElem_mem h)
end Go.Proofs.YtnngddgaobhkiaaGreat
namespace Go.Proofs.YtnngddgaobhkiaaGreat
open Go Go.Am Go.RowKit
attribute [local simp] W75 W75_rs W32 W32_rs W32_b2 W32_b4 W32_b7 W32_b8 W32_b9 W32_b16 W32_b17 W32_b18 W32_b21 W32_b23 W32_b28 W32_b33
theorem sp_nsk (x:Tm):Am.Spec Tryz.prog 75 [.agg (encT x)] (.bool (decide (x.kind = 0))):=by
 refine W75_S (by simp) ?_
 intro vs
 simp [retW_eq]
theorem sp_nrm (t:Tm) (hw:t.wt ≤ 137438953472):Am.Spec Tryz.prog 32 [.agg (encT t)] (.agg (encT t.norm)):=by
 have hwt:=t.wt_eq
 refine W32_S (by simp) ?_
 intro vs
 simp
 by_cases h2:t.l.length = 2
 ·obtain ⟨x,y,hl⟩:∃ x y,t.l = [x,y]:=by
   rcases hl:t.l with _ | ⟨x,_ | ⟨y,_ | ⟨z,r⟩⟩⟩ <;> simp [hl] at h2
   exact ⟨x,y,rfl⟩
  have wx:x.wt < t.wt:=by rw [hwt,hl]; simp only [Tm.wts]; omega
  have wy:y.wt < t.wt:=by rw [hwt,hl]; simp only [Tm.wts]; omega
  have mx:x ∈ t.l:=by rw [hl]; simp
  have my:y ∈ t.l:=by rw [hl]; simp
  rw [Tm.norm_two hl]
  by_cases k12:t.kind = 12
  ·rw [if_pos k12]
   simp [k12,hl]
   refine scall_pure (sp_nrm x (by omega)) (by simp) (by simp) ?_
   simp
   refine scall_flat (sp_nsk x.norm) (by simp) (by simp) rfl ?_
   simp
   by_cases hx:x.norm.kind = 0
   ·simp [hx,hl]
    refine scall_pure (sp_nrm y (by omega)) (by simp) (by simp) ?_
    simp [retW_eq,hx]
   ·simp [hx,hl]
    refine scall0_pure (sp_own y (by omega)) (by simp) (by simp) ?_
    simp [retW_eq,encT_of,hx]
  ·rw [if_neg k12]
   by_cases k11:t.kind = 11
   ·rw [if_pos k11]
    simp [k12,k11,hl]
    refine scall0_pure (sp_nrm x (by omega)) (by simp) (by simp) ?_
    simp [k12,k11,hl]
    refine scall0_pure (sp_nrm y (by omega)) (by simp) (by simp) ?_
    simp
    refine scall_flat (sp_nsk x.norm) (by simp) (by simp) rfl ?_
    simp
    by_cases hx:x.norm.kind = 0
    ·simp [hx]
     refine scall_flat (sp_nsk y.norm) (by simp) (by simp) rfl ?_
     simp
     by_cases hy:y.norm.kind = 0
     ·simp [hx,hy,retW_eq,encT_skip]
     ·simp [hx,hy,retW_eq,encT_of]
    ·simp [hx,retW_eq,encT_of]
   ·rw [if_neg k11]
    simp [k12,k11,hl]
    by_cases k7:t.kind = 7
    ·simp [k7,hl]
     refine scall_pure (sp_own t (by omega)) (by simp) (by simp) ?_
     simp [retW_eq]
    ·simp [k7]
     refine scall_pure (sp_own t (by omega)) (by simp) (by simp) ?_
     simp [retW_eq]
 ·by_cases h1:t.l.length = 1
  ·obtain ⟨x,hl⟩:∃ x,t.l = [x]:=by
    rcases hl:t.l with _ | ⟨x,_ | ⟨y,r⟩⟩ <;> simp [hl] at h1
    exact ⟨x,rfl⟩
   have wx:x.wt < t.wt:=by rw [hwt,hl]; simp only [Tm.wts]; omega
   have mx:x ∈ t.l:=by rw [hl]; simp
   rw [Tm.norm_one hl]
   by_cases k7:t.kind = 7
   ·rw [if_pos k7]
    simp [k7,hl]
    refine scall_pure (sp_nrm x (by omega)) (by simp) (by simp) ?_
    simp
    refine scall_flat (sp_nsk x.norm) (by simp) (by simp) rfl ?_
    simp
    by_cases hx:x.norm.kind = 0
    ·simp [hx,retW_eq,encT_skip]
    ·simp [hx,retW_eq,encT_of]
   ·rw [if_neg k7]
    by_cases k12:t.kind = 12
    ·simp [k12,hl]
     refine scall_pure (sp_own t (by omega)) (by simp) (by simp) ?_
     simp [retW_eq]
    ·by_cases k11:t.kind = 11
     ·simp [k12,k11,hl]
      refine scall_pure (sp_own t (by omega)) (by simp) (by simp) ?_
      simp [retW_eq]
     ·simp [k12,k11,k7,hl]
      refine scall_pure (sp_own t (by omega)) (by simp) (by simp) ?_
      simp [retW_eq]
  ·rw [Tm.norm_else h1 h2]
   have g1:¬ (t.l.length:Int) = 1:=by omega
   have g2:¬ (t.l.length:Int) = 2:=by omega
   by_cases k12:t.kind = 12
   ·simp [k12,g2,g1]
    refine scall_pure (sp_own t (by omega)) (by simp) (by simp) ?_
    simp [retW_eq]
   ·by_cases k11:t.kind = 11
    ·simp [k12,k11,g2,g1]
     refine scall_pure (sp_own t (by omega)) (by simp) (by simp) ?_
     simp [retW_eq]
    ·by_cases k7:t.kind = 7
     ·simp [k12,k11,k7,g1,g2]
      refine scall_pure (sp_own t (by omega)) (by simp) (by simp) ?_
      simp [retW_eq]
     ·simp [k12,k11,k7,g1,g2]
      refine scall_pure (sp_own t (by omega)) (by simp) (by simp) ?_
      simp [retW_eq]
termination_by SizeOf.sizeOf t
decreasing_by all_goals exact Tm.lt_of_mem (by assumption)
end Go.Proofs.YtnngddgaobhkiaaGreat
namespace Go.Proofs.YtnngddgaobhkiaaGreat
open Go Go.Am Go.RowKit
attribute [local simp] W151 W151_rs W151_b1 W151_b3 W151_b4 W151_b6 W151_b9 W151_b10 W151_b12 W151_b13 W151_b14 W151_k2 W151_k8 W151_k11 W151_l7 W150 W150_rs W138 W138_rs W114 W114_rs W114_k2 W114_b3 W114_r4
theorem sp_wlk (t:Tm) (hw:t.wt ≤ 137438953472):Am.SpecY Tryz.prog 151 [.agg (encT t),.yld] (t.act.map fun x=>[.agg (encT x)]) (.bool true) (.bool false):=by
 have hwt:=t.wt_eq
 refine Am.SpecY.of_W (W:=W151) Tryz.func151 (by kernel_rfl) (by kernel_rfl) (by kernel_rfl) Tryz.ntmps151 W151_eq (rs:=[.tmp 4]) (by kernel_rfl) (by simp) rfl rfl ?_
 intro vs rest
 have body:∀ (l:List Tm),(∀ x ∈ l,x ∈ t.l) → l.length ≤ 137438953472 → ∀ (K:St → Prop) (i:Nat) (vu:Nat → Nat),i ≤ l.length →
   (∀ l' h' vs' g' (x':Nat),x' ≤ l.length → l.length - x' < l.length - i → Am.subT l' [(1,.yld),(26,.sl (l.map encT)),(27,.int .i64 l.length),(28,.int .i64 (x':Nat))] → subA h' [] →
    g' = (⟨(Tm.acts (l.drop x')).map (fun x=>[.agg (encT x)]) ++ rest,false⟩:Am.G) → K ⟨Am.look l',hls h' vs',g'⟩) →
   W151_l7 (retYK Tryz.prog [.tmp 4] (.bool true) (.bool false) rest) K ⟨Am.look [(1,.yld),(26,.sl (l.map encT)),(27,.int .i64 l.length),(28,.int .i64 (i:Nat))],hls [] vu,⟨(Tm.acts (l.drop i)).map (fun x=>[.agg (encT x)]) ++ rest,false⟩⟩:=by
  intro l hl hlen K i vu hi hK
  simp
  refine sIf_dec (fun h=>?_) (fun h=>?_)
  ·have hx:=hl _ (List.getElem_mem h)
   have hxw:=Tm.wts_mem hx
   rw [Tm.acts_drop l i h]
   simp [h]
   refine scall_ylds ((Tm.acts (l.drop (i + 1))).map (fun x=>[.agg (encT x)]) ++ rest) (sp_wlk l[i] (by omega)) (by simp) (by simp) (by simp) ?_ fun q=>?_
   ·simp
    rw [wrap64 (by omega) (by omega)]
    exact hK _ _ _ _ (i + 1) h (by omega) (by simp) (by simp) rfl
   ·simp [retYW]
  ·have:l.drop i = []:=List.drop_of_length_le (by omega)
   rw [this]
   simp [retYW,Tm.acts_nil]
 rw [Tm.act_eq]
 have hl:=Tm.wts_len t.l
 simp
 refine scall_yield _ (by simp) rfl (by simp) fun b=>?_
 cases b
 ·simp [retYW]
 ·simp
  by_cases k12:t.kind = 12
  ·have hm:(if 1 < (t.l.length:Int) then 1 else (t.l.length:Int)) = ((min 1 t.l.length:Nat):Int):=by split <;> omega
   have hk:t.kidsA = t.l.take 1:=by simp [Tm.kidsA,k12]
   have hb:=body (t.l.take 1) (by rw [← hk]; exact t.kidsA_sub) (by simp; omega)
   simp [k12]
   rw [slcV_to 9 _ _ _ _ hm (by simp; omega) (by simp)]
   simp
   refine sLoop_introG (fun i=>i ≤ (t.l.take 1).length) (fun i=>(t.l.take 1).length - i) _ _ _ 0 (by simp) (by simp) (by simp) (by simp [hk]) hb
  ·by_cases k11:t.kind = 11
   ·have hk:t.kidsA = t.l:=by simp [Tm.kidsA,k11]
    simp [k12,k11]
    exact sLoop_introG (fun i=>i ≤ t.l.length) (fun i=>t.l.length - i) _ _ _ 0 (by simp) (by simp) (by simp) (by simp [hk]) (body t.l (fun _ h=>h) (by omega))
   ·by_cases k7:t.kind = 7
    ·have hk:t.kidsA = t.l:=by simp [Tm.kidsA,k7]
     simp [k12,k11,k7]
     exact sLoop_introG (fun i=>i ≤ t.l.length) (fun i=>t.l.length - i) _ _ _ 0 (by simp) (by simp) (by simp) (by simp [hk]) (body t.l (fun _ h=>h) (by omega))
    ·have:t.kidsA = []:=by simp [Tm.kidsA,k12,k11,k7]
     simp [k12,k11,k7,retYW,this,Tm.acts_nil]
termination_by SizeOf.sizeOf t
decreasing_by exact Tm.lt_of_mem hx
theorem sp_acv (t:Tm) (hw:t.wt ≤ 137438953472):Am.SpecY Tryz.prog 150 [.yld,.elt (encT t) 0] (t.act.map fun x=>[.agg (encT x)]) (.tup []) (.tup []):=by
 refine Am.SpecY.of_W (W:=W150) Tryz.func150 (by kernel_rfl) (by kernel_rfl) (by kernel_rfl) Tryz.ntmps150 W150_eq (rs:=[]) (by kernel_rfl) (by simp) rfl rfl ?_
 intro vs rest
 simp
 refine scall_ylds rest (sp_wlk t hw) (by simp) (by simp) (by simp) ?_ fun q=>?_
 ·simp [retYW]
 ·simp [retYW]
theorem sp_atv (t:Tm):Am.Spec Tryz.prog 138 [.agg (encT t)] (.func 150 [.elt (encT t) 0]):=by
 refine W138_S (by simp) ?_
 intro vs
 simp [retW_eq]
theorem sp_wts (t:Tm) (hw:t.wt ≤ 137438953472):Am.Spec Tryz.prog 114 [.agg (encT t)] (.sl (encI t.waits)):=by
 refine W114_S (by simp) ?_
 intro vs
 simp
 refine scall_pure (sp_atv t) (by simp) (by simp) ?_
 simp
 have hal:=t.act_len
 refine sRange_introA (α:=Option Nat × List Int) (t.act.map fun x=>[.agg (encT x)]) (.tup []) (.tup []) (fun i a=>a.2 = wtsL (t.act.take i) ∧ (a.1 = none → a.2 = []))
  (fun a=>match a.1 with
   | none=>[(3,.box (vs 3 + 1) 25 [.nils])]
   | some v=>[(3,.box (vs 3 + 1) 25 [.ref 15 v .o]),(15,.row v 3 1 (encI a.2))]) (none,[]) (sp_acv t hw) (by simp) ⟨by simp [wtsL],fun _=>rfl⟩ (by simp) ?_ ?_
 ·rintro i hi ⟨o,l⟩ vt Ψ ⟨hl,ho⟩ hn - - -
  refine ⟨by simp,?_⟩
  simp only at hl ho
  have hi':i < t.act.length:=by simpa using hi
  have hlen:l.length ≤ i:=by rw [hl]; refine Nat.le_trans (List.length_filterMap_le _ _) ?_; simp; omega
  cases o with
  | none=>
   have:=ho rfl
   subst this
   simp
   refine sIf_dec (fun h=>?_) (fun h=>?_)
   ·simp
    exact hn _ _ _ (some (vt 15 + 1),[(t.act[i]'hi').a]) ⟨by rw [wtsL_step _ _ hi',if_pos h,← hl]; rfl,by simp⟩ (by simp [encI])
   ·exact hn _ _ _ (none,[]) ⟨by rw [wtsL_step _ _ hi',if_neg h,← hl],by simp⟩ (by simp)
  | some v=>
   simp
   refine sIf_dec (fun h=>?_) (fun h=>?_)
   ·simp
    have hle:(encI l).length = l.length:=by simp [encI]
    rw [decide_eq_true (by omega)]
    simp
    exact hn _ _ _ (some (v + 1),l ++ [(t.act[i]'hi').a]) ⟨by rw [wtsL_step _ _ hi',if_pos h,← hl],by simp⟩ (by simp [encI])
   ·exact hn _ _ _ (some v,l) ⟨by rw [wtsL_step _ _ hi',if_neg h,← hl],by simp⟩ (by simp)
 ·rintro vt ⟨o,l⟩ ⟨hl,ho⟩
  simp only at hl ho
  have hlen:l.length ≤ t.wt:=by rw [hl]; refine Nat.le_trans (List.length_filterMap_le _ _) ?_; simp; omega
  have hl:l = t.waits:=by rw [hl]; simp [wtsL,Tm.waits]
  cases o with
  | none=>
   have:=ho rfl
   subst this
   simp
   refine scall_pure (sp_cli [] (by simp) (by simp [closedLL]) (by simp)) (by simp) (by simp [closedLL]) ?_
   simp [retW_eq,← hl,encI,closedLL]
  | some v=>
   simp
   refine scall_pure (sp_cli (encI l) (by simp [encI]) (by simp) (by simp [encI]; omega)) (by simp) (by simp) ?_
   simp [retW_eq,hl]
end Go.Proofs.YtnngddgaobhkiaaGreat
namespace Go.Proofs.YtnngddgaobhkiaaGreat
open Go Go.Am Go.RowKit
attribute [local simp] W137 W137_rs W137_k1 W137_b3 W113 W113_rs W113_b1 W113_b3 W113_b4 W113_b7 W113_b10 W113_b11 W113_b12 W113_b14 W113_b15 W113_k2 W113_k9 W113_k13 W113_l8 W112 W112_rs W83 W83_rs
theorem sp_blw (t:Tm) (p:List Int) (w:Bool) (i:Nat) (hi:i < t.l.length) (hp:p.length ≤ 137438953471) (hw:t.wt ≤ 137438953472):Am.Spec Tryz.prog 137 [.agg (encP t p w),.int .i64 (i:Nat)] (.agg (encP t.l[i] (p ++ [(i:Int)]) (kidW t.kind t.l[i] w))):=by
 have hxw:=Tm.wts_mem (List.getElem_mem hi)
 have hwt:=t.wt_eq
 refine W137_S (by simp) ?_
 intro vs
 simp [hi]
 refine scall0_row (rw_cli p (by omega)) (by simp) (by simp) ?_
 simp
 rw [decide_eq_true (by omega)]
 simp
 by_cases k7:t.kind = 7
 ·simp [k7]
  refine scall_pure (sp_wts t.l[i] (by omega)) (by simp) (by simp) ?_
  simp [retW_eq,encI_snoc]
  simp [encP,kidW,k7,closedL_append,closedL]
 ·simp [k7,retW_eq,encI_snoc]
  simp [encP,kidW,k7,closedL_append,closedL]
theorem sp_wlp (t:Tm) (p:List Int) (w:Bool) (hw:p.length + t.wt ≤ 137438953471):Am.SpecY Tryz.prog 113 [.agg (encP t p w),.yld] ((t.pls p w).map encPl) (.bool true) (.bool false):=by
 have hwt:=t.wt_eq
 have hlw:=Tm.wts_len t.l
 have hkn:=t.kidsP_le
 refine Am.SpecY.of_W (W:=W113) Tryz.func113 (by kernel_rfl) (by kernel_rfl) (by kernel_rfl) Tryz.ntmps113 W113_eq (rs:=[.tmp 4]) (by kernel_rfl) (by simp) rfl rfl ?_
 intro vs rest
 have body:∀ (v:Nat) (K:St → Prop) (i:Nat) (vu:Nat → Nat),i ≤ t.kidsP →
   (∀ l' h' vs' g' (x':Nat),x' ≤ t.kidsP → t.kidsP - x' < t.kidsP - i → Am.subT l' [(1,.yld),(2,.ref 2 v (.p 0)),(25,.int .i64 t.kidsP),(26,.int .i64 (x':Nat))] → subA h' [(2,.box v 140 (encP t p w))] →
    g' = (⟨(Tm.plsL t.kind ((t.l.take t.kidsP).drop x') p w x').map encPl ++ rest,false⟩:Am.G) → K ⟨Am.look l',hls h' vs',g'⟩) →
   W113_l8 (retYK Tryz.prog [.tmp 4] (.bool true) (.bool false) rest) K ⟨Am.look [(1,.yld),(2,.ref 2 v (.p 0)),(25,.int .i64 t.kidsP),(26,.int .i64 (i:Nat))],hls [(2,.box v 140 (encP t p w))] vu,⟨(Tm.plsL t.kind ((t.l.take t.kidsP).drop i) p w i).map encPl ++ rest,false⟩⟩:=by
  intro v K i vu hi hK
  simp
  refine sIf_dec (fun h=>?_) (fun h=>?_)
  ·have hlt:i < t.l.length:=by omega
   have hx:=List.getElem_mem hlt
   have hxw:=Tm.wts_mem hx
   have hg:(t.l.take t.kidsP)[i]'(by simp; omega) = t.l[i]:=by simp
   rw [Tm.plsL_drop _ _ _ _ i (by simp; omega),hg]
   simp [h]
   refine scall_pure (sp_blw t p w i hlt (by omega) (by omega)) (by simp) (by simp) ?_
   simp
   refine scall_ylds ((Tm.plsL t.kind ((t.l.take t.kidsP).drop (i + 1)) p w (i + 1)).map encPl ++ rest) (sp_wlp t.l[i] (p ++ [(i:Int)]) (kidW t.kind t.l[i] w) (by simp; omega)) (by simp) (by simp) (by simp) ?_ fun q=>?_
   ·simp
    rw [wrap64 (by omega) (by omega)]
    exact hK _ _ _ _ (i + 1) h (by omega) (by simp) (by simp) rfl
   ·simp [retYW]
  ·have:(t.l.take t.kidsP).drop i = []:=List.drop_of_length_le (by simp; omega)
   rw [this]
   simp [retYW,Tm.plsL]
 rw [Tm.pls_eq]
 simp [encPl]
 refine scall_yield _ (by simp) rfl (by simp) fun b=>?_
 cases b
 ·simp [retYW]
 ·simp
  by_cases k12:t.kind = 12
  ·have hk:t.kidsP = min t.l.length 1:=by simp [Tm.kidsP,k12]
   have hm:(if 1 < (t.l.length:Int) then 1 else (t.l.length:Int)) = (t.kidsP:Int):=by rw [hk]; split <;> omega
   simp [k12]
   rw [hm]
   exact sLoop_introG (fun i=>i ≤ t.kidsP) (fun i=>t.kidsP - i) _ _ _ 0 (by simp) (by simp) (by simp) (by simp [k12]) (body (vs 2 + 1))
  ·by_cases k7:t.kind = 7
   ·have hk:t.kidsP = min t.l.length 1:=by simp [Tm.kidsP,k7]
    have hm:(if 1 < (t.l.length:Int) then 1 else (t.l.length:Int)) = (t.kidsP:Int):=by rw [hk]; split <;> omega
    simp [k12,k7]
    rw [hm]
    exact sLoop_introG (fun i=>i ≤ t.kidsP) (fun i=>t.kidsP - i) _ _ _ 0 (by simp) (by simp) (by simp) (by simp [k7]) (body (vs 2 + 1))
   ·by_cases k11:t.kind = 11
    ·have hk:t.kidsP = t.l.length:=by simp [Tm.kidsP,k11]
     simp [k12,k7,k11]
     exact sLoop_introG (fun i=>i ≤ t.kidsP) (fun i=>t.kidsP - i) _ _ _ 0 (by simp) (by simp [hk]) (by simp) (by simp [k11]) (body (vs 2 + 1))
    ·have hk:t.kidsP = 0:=by simp [Tm.kidsP,k12,k7,k11]
     simp [k12,k7,k11]
     exact sLoop_introG (fun i=>i ≤ t.kidsP) (fun i=>t.kidsP - i) _ _ _ 0 (by simp) (by simp [hk]) (by simp) (by simp) (body (vs 2 + 1))
termination_by SizeOf.sizeOf t
decreasing_by exact Tm.lt_of_mem hx
theorem sp_pla (t:Tm) (hw:t.wt ≤ 137438953471):Am.SpecY Tryz.prog 112 [.yld,.elt (encT t) 0] ((t.pls [] (decide (0 < t.waits.length))).map encPl) (.tup []) (.tup []):=by
 refine Am.SpecY.of_W (W:=W112) Tryz.func112 (by kernel_rfl) (by kernel_rfl) (by kernel_rfl) Tryz.ntmps112 W112_eq (rs:=[]) (by kernel_rfl) (by simp) rfl rfl ?_
 intro vs rest
 simp
 refine scall0_pure (sp_wts t (by omega)) (by simp) (by simp) ?_
 simp
 refine scall_ylds rest (sp_wlp t [] (decide (0 < t.waits.length)) (by simpa using hw)) (by simp [encP,encI]) (by simp) (by simp) ?_ fun q=>?_
 ·simp [retYW]
 ·simp [retYW]
theorem sp_pls (t:Tm):Am.Spec Tryz.prog 83 [.agg (encT t)] (.func 112 [.elt (encT t) 0]):=by
 refine W83_S (by simp) ?_
 intro vs
 simp [retW_eq]
end Go.Proofs.YtnngddgaobhkiaaGreat
namespace Go.Proofs.YtnngddgaobhkiaaGreat
open Go Go.Am Go.RowKit
attribute [local simp] W46 W46_rs W46_k2 W46_k6 W46_k11 W46_k21 W46_k25 W46_k30 W46_b4 W46_b7 W46_b8 W46_b9 W46_b10 W46_b12 W46_b13 W46_b14 W46_b15 W46_b23 W46_b26 W46_b27 W46_b28 W46_b29 W46_b31 W46_b32 W46_b33 W46_b34 W46_l5 W46_l24 W46_r16 W46_r35 W46_s19 W46_g38
def enbH (v3:Nat) (o:Option Nat) (l:List Stp3):List (Nat × Blk):=match o with
 | none=>[(3,.box v3 56 [.nils])]
 | some v=>[(3,.box v3 56 [.ref 40 v .o]),(40,.row v 60 3 (l.map encS))]
theorem enb_body (v3 v4:Nat) (x:Tm × List Int × Bool) (hx:x.2.1.length ≤ 137438953472) (l0:List Stp3) (hl:l0.length ≤ 137438953472) (n:Nat) (hn:n ≤ 2) (Ψ:Exit → St → Prop)
  (hΨ:∀ τ' L vs' (a:Option Nat × List Stp3),(a.2 = l0 ++ stp x.1.kind x.2.1 n ∧ (a.1 = none → a.2 = [])) → subA L (enbH v3 a.1 a.2) → Ψ .normal ⟨τ',hls L vs',noG⟩)
  (K:St → Prop) (c:Nat × Option Nat) (vu:Nat → Nat) (hc:c.1 ≤ n ∧ (c.2 = none → c.1 = 0 ∧ l0 = []))
  (hK:∀ l' h' vs' (c':Nat × Option Nat),(c'.1 ≤ n ∧ (c'.2 = none → c'.1 = 0 ∧ l0 = [])) → n - c'.1 < n - c.1 → Am.subT l' [(3,.ref 3 v3 (.p 0)),(4,.ref 4 v4 (.p 0)),(26,.int .i64 n),(27,.int .i64 (c'.1:Nat))] →
   subA h' ((4,.box v4 140 (encP x.1 x.2.1 x.2.2)) :: enbH v3 c'.2 (l0 ++ stp x.1.kind x.2.1 c'.1)) → K ⟨Am.look l',hls h' vs',noG⟩) :
  W46_l5 Ψ K ⟨Am.look [(3,.ref 3 v3 (.p 0)),(4,.ref 4 v4 (.p 0)),(26,.int .i64 n),(27,.int .i64 (c.1:Nat))],hls ((4,.box v4 140 (encP x.1 x.2.1 x.2.2)) :: enbH v3 c.2 (l0 ++ stp x.1.kind x.2.1 c.1)) vu,noG⟩:=by
 obtain ⟨i,o⟩:=c
 simp only at hc hK ⊢
 simp
 refine sIf_dec (fun h=>?_) (fun h=>?_)
 ·simp [h]
  cases o with
  | none=>
   obtain ⟨e1,e2⟩:=hc.2 rfl
   subst e1 e2
   simp [enbH]
   refine scall0_pure (sp_cli (encI x.2.1) (encI_cell _) (by simp) (by simpa using hx)) (by simp) (by simp) ?_
   simp
   rw [wrap64 (by omega) (by omega)]
   refine hK _ _ _ (1,some (vu 40 + 1)) ⟨by simp; omega,by simp⟩ (by simp; omega) (by simp) ?_
   simp [enbH,stp_succ,stp_zero,encS]
  | some v=>
   simp [enbH]
   refine scall0_pure (sp_cli (encI x.2.1) (encI_cell _) (by simp) (by simpa using hx)) (by simp) (by simp) ?_
   simp
   rw [decide_eq_true (by omega)]
   simp
   rw [wrap64 (by omega) (by omega)]
   refine hK _ _ _ (i + 1,some (v + 1)) ⟨by simp; omega,by simp⟩ (by simp; omega) (by simp) ?_
   simp [enbH,stp_succ,encS]
 ·have e:i = n:=by omega
  subst e
  simp
  refine hΨ _ _ _ (o,l0 ++ stp x.1.kind x.2.1 i) ⟨rfl,fun e=>?_⟩ ?_
  ·obtain ⟨e1,e2⟩:=hc.2 e
   subst e1 e2
   simp [stp_zero]
  ·cases o <;> simp [enbH]
theorem sp_enb (t:Tm) (hw:t.wt ≤ 68719476736):Am.Spec Tryz.prog 46 [.agg (encT t)] (.sl (t.enabled.map encS)):=by
 have hnw:=t.norm_wt
 refine W46_S (by simp) ?_
 intro vs
 simp
 refine sScope_straight fun J=>?_
 simp
 refine scall_pure (sp_nrm t (by omega)) (by simp) (by simp) ?_
 simp
 refine scall_pure (sp_pls t.norm) (by simp) (by simp) ?_
 simp
 generalize hn:t.norm = n at hnw
 have hpl:=n.pls_len [] (decide (0 < n.waits.length))
 have hpp:=n.pls_path [] (decide (0 < n.waits.length))
 have hen:t.enabled = (n.pls [] (decide (0 < n.waits.length))).flatMap stepsAt:=by rw [Tm.enabled,Tm.enabledN,hn]
 generalize hps:n.pls [] (decide (0 < n.waits.length)) = ps at hpl hpp hen
 have hsp:=sp_pla n (by omega)
 rw [hps] at hsp
 refine sRange_introA (α:=Option Nat × List Stp3) (ps.map encPl) (.tup []) (.tup []) (fun i a=>a.2 = (ps.take i).flatMap stepsAt ∧ (a.1 = none → a.2 = []))
  (fun a=>enbH (vs 3 + 1) a.1 a.2) (none,[]) hsp (by simp) ⟨by simp,fun _=>rfl⟩ (by simp [enbH]) ?_ ?_
 ·rintro i hi ⟨o,l⟩ vt Ψ ⟨hl,ho⟩ hn' - - -
  refine ⟨by simp [encPl],?_⟩
  simp only at hl ho
  have hi':i < ps.length:=by simpa using hi
  have hxl:=hpp ps[i] (List.getElem_mem hi')
  have hlen:=steps_len (ps.take i)
  rw [← hl] at hlen
  simp at hlen hxl
  have hlen2:l.length ≤ 137438953472:=by omega
  have hxl2:(ps[i]).2.1.length ≤ 137438953472:=by omega
  have fin:∀ τ' L vs' (a:Option Nat × List Stp3),(a.2 = l ++ stp (ps[i]).1.kind (ps[i]).2.1 (stpN ps[i]) ∧ (a.1 = none → a.2 = [])) → subA L (enbH (vs 3 + 1) a.1 a.2) → Ψ .normal ⟨τ',hls L vs',noG⟩:=fun τ' L vs' a ⟨h1,h2⟩ h3=>
   hn' τ' L vs' a ⟨by rw [steps_take _ _ hi',h1,hl]; rfl,h2⟩ h3
  cases o with
  | none=>
   simp [encPl,enbH]
   by_cases k0:(ps[i]).1.kind = 0
   ·simp [k0]
    exact fin _ _ _ (none,l) ⟨by simp [stpN,k0,stp_zero],ho⟩ (by simp [enbH])
   by_cases k14:(ps[i]).1.kind = 14
   ·simp [k0,k14]
    exact fin _ _ _ (none,l) ⟨by simp [stpN,k14,stp_zero],ho⟩ (by simp [enbH])
   by_cases k12:(ps[i]).1.kind = 12
   ·simp [k0,k14,k12]
    exact fin _ _ _ (none,l) ⟨by simp [stpN,k12,stp_zero],ho⟩ (by simp [enbH])
   by_cases k11:(ps[i]).1.kind = 11
   ·simp [k0,k14,k12,k11]
    exact fin _ _ _ (none,l) ⟨by simp [stpN,k11,stp_zero],ho⟩ (by simp [enbH])
   by_cases k7:(ps[i]).1.kind = 7
   ·simp [k0,k14,k12,k11,k7]
    exact fin _ _ _ (none,l) ⟨by simp [stpN,k7,stp_zero],ho⟩ (by simp [enbH])
   by_cases k8:(ps[i]).1.kind = 8
   ·simp [k0,k14,k12,k11,k7,k8]
    cases hw8:(ps[i]).2.2
    ·simp [hw8]
     have hs:stpN ps[i] = 1:=by simp [stpN,k0,k14,k12,k11,k7,k8,hw8]
     rw [hs] at fin
     exact sLoop_intro (fun c:Nat × Option Nat=>c.1 ≤ 1 ∧ (c.2 = none → c.1 = 0 ∧ l = [])) (fun c=>1 - c.1) _ _ (0,none) ⟨by simp,fun e=>⟨rfl,ho e⟩⟩ (by simp) (by simp [enbH,stp_zero,hw8]) (enb_body (vs 3 + 1) (vt 4 + 1) ps[i] hxl2 l hlen2 1 (by omega) Ψ fin)
    ·simp [hw8]
     exact fin _ _ _ (none,l) ⟨by simp [stpN,k0,k14,k12,k11,k7,k8,hw8,stp_zero],ho⟩ (by simp [enbH])
   by_cases k10:(ps[i]).1.kind = 10
   ·simp [k0,k14,k12,k11,k7,k8,k10]
    have hs:stpN ps[i] = 2:=by simp [stpN,k0,k14,k12,k11,k7,k8,k10]
    rw [hs] at fin
    exact sLoop_intro (fun c:Nat × Option Nat=>c.1 ≤ 2 ∧ (c.2 = none → c.1 = 0 ∧ l = [])) (fun c=>2 - c.1) _ _ (0,none) ⟨by simp,fun e=>⟨rfl,ho e⟩⟩ (by simp) (by simp [enbH,stp_zero,enbH]) (enb_body (vs 3 + 1) (vt 4 + 1) ps[i] hxl2 l hlen2 2 (by omega) Ψ fin)
   ·simp [k0,k14,k12,k11,k7,k8,k10]
    have hs:stpN ps[i] = 1:=by simp [stpN,k0,k14,k12,k11,k7,k8,k10]
    rw [hs] at fin
    exact sLoop_intro (fun c:Nat × Option Nat=>c.1 ≤ 1 ∧ (c.2 = none → c.1 = 0 ∧ l = [])) (fun c=>1 - c.1) _ _ (0,none) ⟨by simp,fun e=>⟨rfl,ho e⟩⟩ (by simp) (by simp [enbH,stp_zero,enbH]) (enb_body (vs 3 + 1) (vt 4 + 1) ps[i] hxl2 l hlen2 1 (by omega) Ψ fin)
  | some v=>
   simp [encPl,enbH]
   by_cases k0:(ps[i]).1.kind = 0
   ·simp [k0]
    exact fin _ _ _ (some v,l) ⟨by simp [stpN,k0,stp_zero],ho⟩ (by simp [enbH])
   by_cases k14:(ps[i]).1.kind = 14
   ·simp [k0,k14]
    exact fin _ _ _ (some v,l) ⟨by simp [stpN,k14,stp_zero],ho⟩ (by simp [enbH])
   by_cases k12:(ps[i]).1.kind = 12
   ·simp [k0,k14,k12]
    exact fin _ _ _ (some v,l) ⟨by simp [stpN,k12,stp_zero],ho⟩ (by simp [enbH])
   by_cases k11:(ps[i]).1.kind = 11
   ·simp [k0,k14,k12,k11]
    exact fin _ _ _ (some v,l) ⟨by simp [stpN,k11,stp_zero],ho⟩ (by simp [enbH])
   by_cases k7:(ps[i]).1.kind = 7
   ·simp [k0,k14,k12,k11,k7]
    exact fin _ _ _ (some v,l) ⟨by simp [stpN,k7,stp_zero],ho⟩ (by simp [enbH])
   by_cases k8:(ps[i]).1.kind = 8
   ·simp [k0,k14,k12,k11,k7,k8]
    cases hw8:(ps[i]).2.2
    ·simp [hw8]
     have hs:stpN ps[i] = 1:=by simp [stpN,k0,k14,k12,k11,k7,k8,hw8]
     rw [hs] at fin
     exact sLoop_intro (fun c:Nat × Option Nat=>c.1 ≤ 1 ∧ (c.2 = none → c.1 = 0 ∧ l = [])) (fun c=>1 - c.1) _ _ (0,some v) ⟨by simp,fun e=>⟨rfl,ho e⟩⟩ (by simp) (by simp [enbH,stp_zero,hw8]) (enb_body (vs 3 + 1) (vt 4 + 1) ps[i] hxl2 l hlen2 1 (by omega) Ψ fin)
    ·simp [hw8]
     exact fin _ _ _ (some v,l) ⟨by simp [stpN,k0,k14,k12,k11,k7,k8,hw8,stp_zero],ho⟩ (by simp [enbH])
   by_cases k10:(ps[i]).1.kind = 10
   ·simp [k0,k14,k12,k11,k7,k8,k10]
    have hs:stpN ps[i] = 2:=by simp [stpN,k0,k14,k12,k11,k7,k8,k10]
    rw [hs] at fin
    exact sLoop_intro (fun c:Nat × Option Nat=>c.1 ≤ 2 ∧ (c.2 = none → c.1 = 0 ∧ l = [])) (fun c=>2 - c.1) _ _ (0,some v) ⟨by simp,fun e=>⟨rfl,ho e⟩⟩ (by simp) (by simp [enbH,stp_zero,enbH]) (enb_body (vs 3 + 1) (vt 4 + 1) ps[i] hxl2 l hlen2 2 (by omega) Ψ fin)
   ·simp [k0,k14,k12,k11,k7,k8,k10]
    have hs:stpN ps[i] = 1:=by simp [stpN,k0,k14,k12,k11,k7,k8,k10]
    rw [hs] at fin
    exact sLoop_intro (fun c:Nat × Option Nat=>c.1 ≤ 1 ∧ (c.2 = none → c.1 = 0 ∧ l = [])) (fun c=>1 - c.1) _ _ (0,some v) ⟨by simp,fun e=>⟨rfl,ho e⟩⟩ (by simp) (by simp [enbH,stp_zero,enbH]) (enb_body (vs 3 + 1) (vt 4 + 1) ps[i] hxl2 l hlen2 1 (by omega) Ψ fin)
 ·rintro vt ⟨o,l⟩ ⟨hl,ho⟩
  simp only at hl ho
  have hlen:=steps_len ps
  rw [hen]
  have hl:l = ps.flatMap stepsAt:=by rw [hl]; simp
  rw [← hl]
  rw [← hl] at hlen
  cases o with
  | none=>
   have:=ho rfl
   subst this
   simp [enbH]
   refine scall_pure (sp_cls [] (by simp) (by simp [closedLL]) (by simp)) (by simp) (by simp [closedLL]) ?_
   simp [retW_eq,closedLL]
  | some v=>
   simp [enbH]
   refine scall_pure (sp_cls (l.map encS) (fun x hx=>by obtain ⟨y,-,rfl⟩:=List.mem_map.1 hx; exact ⟨rfl,encS_cell y⟩) (by simp) (by simp; omega)) (by simp) (by simp) ?_
   simp [retW_eq]
end Go.Proofs.YtnngddgaobhkiaaGreat
namespace Go.Proofs.YtnngddgaobhkiaaGreat
open Go Go.Am Go.RowKit
attribute [local simp] W38 W38_rs W38_k1 W38_b3 W38_l4
theorem sp_sz (t:Tm) (hs:t.size < 9223372036854775808):Am.Spec Tryz.prog 38 [.agg (encT t)] (.int .i64 t.size):=by
 refine W38_S (by simp) ?_
 intro vs
 simp
 refine sLoop_intro (fun i=>i ≤ t.l.length) (fun i=>t.l.length - i)
  (fun i=>[(3,.int .i64 (1 + Tm.sizes (t.l.take i))),(7,.sl (t.l.map encT)),(8,.int .i64 t.l.length),(9,.int .i64 (i:Nat))]) (fun _=>[]) 0 (by simp) (by simp [Tm.sizes]) (by simp) ?_
 intro L i vs hi hL
 simp
 refine sIf_dec (fun h=>?_) (fun h=>?_)
 ·have hsz:t.size = 1 + (Tm.sizes (t.l.take i) + (t.l[i].size + Tm.sizes (t.l.drop (i + 1)))):=by
   rw [Tm.size_eq,Tm.sizes_split t.l (i + 1),Tm.sizes_take _ _ h]; omega
  have h1:=Tm.sizes_nonneg (t.l.take i)
  have h2:=Tm.sizes_nonneg (t.l.drop (i + 1))
  have h3:=t.l[i].size_pos
  have h4:=Tm.sizes_length t.l
  have h5:=t.size_eq
  simp [h]
  refine scall_flat (sp_sz t.l[i] (by omega)) (by simp) (by simp) rfl ?_
  simp
  rw [wrap64 (by omega) (by omega),wrap64 (by omega) (by omega)]
  refine hL _ _ _ (i + 1) h (by omega) ?_ (by simp)
  simp [Tm.sizes_take _ _ h]
  omega
 ·simp [retW_eq]
  rw [Tm.size_eq,List.take_of_length_le (by omega)]
termination_by SizeOf.sizeOf t
decreasing_by exact Tm.lt_of_mem (List.getElem_mem h)
end Go.Proofs.YtnngddgaobhkiaaGreat
