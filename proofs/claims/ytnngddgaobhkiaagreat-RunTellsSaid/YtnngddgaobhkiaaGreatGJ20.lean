import Derived.Test.YtnngddgaobhkiaaGreatGJ14
import Derived.Test.YtnngddgaobhkiaaGreatGH16
set_option linter.unusedVariables false
set_option linter.unusedSimpArgs false
namespace Go.Proofs.YtnngddgaobhkiaaGreat
open Go Go.Am Go.RowKit
attribute [local simp] W58 W58_rs W58_k1 W58_k2 W58_b4 W58_b6 W58_l5 W58_l7
theorem sp_sz6 (s:List (List Tm)) (hs:stSize s ≤ 1000000) (hl:s.length ≤ 137438953472) (hk:∀ l ∈ s,l.length ≤ 137438953472):Am.Spec Tryz.prog 58 [.sl (encSt s)] (.int .i64 (stSize s)):=by
 rw [encSt_Q]
 refine W58_S (by simp) ?_
 intro vs
 simp [-W58_l7]
 refine sLoop_intro (fun i=>i ≤ s.length) (fun i=>s.length - i) (fun i=>[(0,.sl (s.map encQ)),(3,.int .i64 (stSize (s.take i))),(4,.int .i64 (i:Nat))]) (fun _=>[]) 0 (by simp) (by simp [stSize]) (by simp) ?_
 rintro L i vt hi hL
 by_cases h:i < s.length
 ·have h':(i:Int) < s.length:=by omega
  have e1:=stSize_split s (i + 1)
  have e2:=stSize_take s i h
  have e3:=stSize_nn (s.drop (i + 1))
  have e4:=stSize_nn (s.take i)
  have hix:ixRows (s.map encQ) (i:Int) 1 = some (.elt (encQ s[i]) 0):=by rw [ixRows_nat]; simp [List.getElem?_eq_getElem h]
  simp [-W58_l5,h,h']
  refine sLoop_intro (fun j=>j ≤ s[i].length) (fun j=>s[i].length - j) (fun j=>[(0,.sl (s.map encQ)),(3,.int .i64 (stSize (s.take i) + Tm.sizes (s[i].take j))),(4,.int .i64 (i:Nat)),(5,.int .i64 (j:Nat))]) (fun _=>[]) 0 (by simp) (by simp [Tm.sizes]) (by simp) ?_
  rintro L2 j vt2 hj hL2
  have hkl:=hk s[i] (List.getElem_mem h)
  by_cases g:j < s[i].length
  ·have g':(j:Int) < s[i].length:=by omega
   have q1:=Tm.sizes_split s[i] (j + 1)
   have q2:=Tm.sizes_take s[i] j g
   have q3:=Tm.sizes_nonneg (s[i].drop (j + 1))
   have q4:=Tm.sizes_nonneg (s[i].take j)
   have q5:=s[i][j].size_pos
   have hz:=sp_r5z s[i][j] (by omega)
   simp [h,h',g,g',hix]
   refine scall_pure hz (by simp) (by simp) ?_
   simp
   rw [wrap64 (by omega) (by omega),wrap64 (by omega) (by omega)]
   refine hL2 _ _ _ (j + 1) g (by omega) ?_ (by simp)
   simp [q2]
   omega
  ·have g':¬ (j:Int) < s[i].length:=by omega
   have e:s[i].take j = s[i]:=List.take_of_length_le (by omega)
   rw [e]
   simp [h,h',g,g',hix]
   rw [wrap64 (by omega) (by omega)]
   refine hL _ _ _ (i + 1) h (by omega) ?_ (by simp)
   simp [e2]
 ·have h':¬ (i:Int) < s.length:=by omega
  have e:s.take i = s:=List.take_of_length_le (by omega)
  rw [e]
  simp [h,h',retW_eq]
end Go.Proofs.YtnngddgaobhkiaaGreat
