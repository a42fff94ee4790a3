import Derived.Test.YtnngddgaobhkiaaGreatGQ7
import Derived.Test.YtnngddgaobhkiaaGreatGW8
import Derived.Test.YtnngddgaobhkiaaGreatGW9
set_option linter.unusedVariables false
set_option linter.unusedSimpArgs false
namespace Go.Proofs.YtnngddgaobhkiaaGreat
open Go Go.Am Go.RowKit
attribute [local simp] W143 W143_rs W143_k1 W143_b2 W72 W72_rs W72_k1 W72_b2 W61 W61_rs W61_k1 W61_b2 W95 W95_rs W95_b1 W95_b4 W95_b8 W95_k2 W95_l7 W64 W64_rs W144 W144_rs W144_b2 W144_b4 W129 W129_rs W129_b2 W129_b4 W129_b6 W129_b8 W129_b10 W129_b13 W129_b14 W129_b15 W129_b16 W129_b20 W100 W100_rs W100_b1 W100_b3 W71 W71_rs W70 W70_rs W73 W73_rs W29 W29_rs W29_b1 W29_b4 W29_b8 W29_k2 W29_l7 W12 W12_rs W12_k3 W12_b5 W12_l6
theorem sp_wi2 (a n:Int) (hn:0 < n) (h2:n < 1000):Am.Spec Tryz.prog 143 [.int .i64 a,.int .i64 n] (.int .i64 (within a n)):=by
 refine W143_S (by simp) ?_
 intro vs
 simp
 rw [if_neg (by omega)]
 simp
 have h1:=Int.tmod_lt_of_pos a hn
 have h3:-n < a.tmod n:=by have:=Int.lt_tmod_of_pos a hn; omega
 refine sIf_dec (fun h=>?_) (fun h=>?_)
 ·simp
  rw [wrap64 (by omega) (by omega)]
  simp [retW_eq,within,h]
 ·simp [retW_eq,within,h]
theorem sp_wi3 (a n:Int) (hn:0 < n) (h2:n < 1000):Am.Spec Tryz.prog 72 [.int .i64 a,.int .i64 n] (.int .i64 (within a n)):=by
 refine W72_S (by simp) ?_
 intro vs
 simp
 rw [if_neg (by omega)]
 simp
 have h1:=Int.tmod_lt_of_pos a hn
 have h3:-n < a.tmod n:=by have:=Int.lt_tmod_of_pos a hn; omega
 refine sIf_dec (fun h=>?_) (fun h=>?_)
 ·simp
  rw [wrap64 (by omega) (by omega)]
  simp [retW_eq,within,h]
 ·simp [retW_eq,within,h]
theorem within_ge (a n:Int) (hn:0 < n):0 ≤ within a n:=by
 have h1:=Int.tmod_lt_of_pos a hn
 have h3:=Int.lt_tmod_of_pos a hn
 unfold within
 split <;> omega
theorem within_lt (a n:Int) (hn:0 < n):within a n < n:=by
 have h1:=Int.tmod_lt_of_pos a hn
 unfold within
 split <;> omega
theorem sp_sz2 (l:List Rw2) (d:Nat) (hd:d ≤ 9):Am.Spec Tryz.prog 95 [.sl (l.map encR2),.int .i64 d] (.int .i64 (sz2 l d)):=by
 refine W95_S (by simp) ?_
 intro vs
 simp
 refine sIf_dec (fun h=>?_) (fun h=>?_)
 ·have h:8 < d:=by omega
  simp [retW_eq,Am.sz2,h]
 ·have h':¬ 8 < d:=by omega
  simp
  refine sLoop_intro (fun x:Nat × Int=>x.1 ≤ l.length ∧ x.1 ≤ x.2 ∧ x.2 ≤ 1300 ∧ Am.sz2 l d = Rw2.szs (l.drop x.1) d x.2) (fun x=>l.length - x.1)
   (fun x=>[(0,.sl (l.map encR2)),(1,.int .i64 d),(5,.int .i64 x.2),(6,.int .i64 (x.1:Nat))]) (fun _=>[]) (0,0) (by simp [Am.sz2,h']) (by simp) (by simp) ?_
  rintro L ⟨i,n⟩ vs ⟨hi,hn0,hn1,hs⟩ hL
  simp only at hi hn0 hn1 hs hL
  simp
  refine sGrd_dec (fun h1=>?_) (fun h1=>?_)
  ·simp
   rw [decide_eq_true h1]
   simp
   refine sIf_dec (fun h2=>?_) (fun h2=>?_)
   ·have hsz:=sz2_le l[i].l (d + 1)
    simp [h1]
    rw [wrap64 (x:=(d:Int) + 1) (by omega) (by omega)]
    refine scall_flat (sp_sz2 l[i].l (d + 1) (by omega)) (by simp) (by simp) rfl ?_
    simp
    rw [wrap64 (x:=n + 1) (by omega) (by omega),wrap64 (by omega) (by omega),wrap64 (by omega) (by omega)]
    exact hL _ _ _ (i + 1,n + 1 + Am.sz2 l[i].l (d + 1)) ⟨h1,by simp; omega,by simp; omega,hs.trans (Rw2.szs_drop l i d n h1 h2)⟩ (by simp; omega) (by simp) (by simp)
   ·simp [retW_eq]
    rw [hs,Rw2.szs_stop _ _ _ h2]
  ·simp
   rw [decide_eq_false h1]
   simp [retW_eq]
   rw [hs,List.drop_of_length_le (by omega)]
   rfl
termination_by SizeOf.sizeOf l
decreasing_by
 have h3:=List.sizeOf_lt_of_mem (List.getElem_mem h1)
 have h4:∀ y:Rw2,SizeOf.sizeOf y.l < SizeOf.sizeOf y:=fun y=>by cases y; simp; omega
 have:=h4 l[i]
 omega
theorem sp_fw2 (l:List Rw2):Am.Spec Tryz.prog 64 [.sl (l.map encR2)] (.bool (decide (sz2 l 0 ≤ 20))):=by
 refine W64_S (by simp) ?_
 intro vs
 simp
 refine scall_flat (sp_sz2 l 0 (by omega)) (by simp) (by simp) rfl ?_
 simp [retW_eq]
theorem sp_pt2 (ns:List ByteArray) (x:Rw2) (i:Nat) (hi:i < 2) (ih:∀ y ∈ x.l,Am.Spec Tryz.prog 129 [.agg (encR2 y),.sl (encB ns)] (.agg (encE (y.ex ns)))) :
  Am.Spec Tryz.prog 144 [.agg (encR2 x),.int .i64 i,.sl (encB ns)] (.agg (encE (x.part ns i))):=by
 refine W144_S (by simp) ?_
 intro vs
 simp
 refine sIf_dec (fun h=>?_) (fun h=>?_)
 ·have h':i < x.l.length:=by omega
  simp [h']
  refine scall_pure (ih _ (List.getElem_mem h')) (by simp) (by simp) ?_
  simp [retW_eq,Rw2.part,h']
 ·have h':x.l.length ≤ i:=by omega
  simp
  refine scall_flat (sp_wi2 (IntKind.wrap .i64 (x.n + i)) 5 (by omega) (by omega)) (by simp) (by simp) rfl ?_
  simp [retW_eq,Rw2.part,List.getElem?_eq_none h',leafE,encE_mk]
theorem sp_mk2 (ns:List ByteArray) (x:Rw2) (hns:ns.length < 1000):Am.Spec Tryz.prog 129 [.agg (encR2 x),.sl (encB ns)] (.agg (encE (x.ex ns))):=by
 have ih:∀ y ∈ x.l,Am.Spec Tryz.prog 129 [.agg (encR2 y),.sl (encB ns)] (.agg (encE (y.ex ns))):=fun y hy=>sp_mk2 ns y hns
 have h0:=within_ge x.k 24 (by omega)
 have h1:=within_lt x.k 24 (by omega)
 refine W129_S (by simp) ?_
 intro vs
 simp
 refine scall_flat (sp_wi2 x.k 24 (by omega) (by omega)) (by simp) (by simp) rfl ?_
 rw [x.ex_eq]
 generalize within x.k 24 = w at *
 simp
 refine sIf_dec (fun h4=>?_) (fun h4=>?_)
 ·simp
  refine scall_flat (sp_wi2 x.n 8 (by omega) (by omega)) (by simp) (by simp) rfl ?_
  have h2:=within_ge x.n 8 (by omega)
  have h3:=within_lt x.n 8 (by omega)
  generalize within x.n 8 = m at *
  obtain ⟨m,rfl⟩:∃ j:Nat,m = j:=⟨m.toNat,by omega⟩
  simp
  have hn:∀ m:Nat,m < 8 → ([[AV.int .i64 0],[AV.int .i64 1],[AV.int .i64 2],[AV.int .i64 7],[AV.int .i64 99],[AV.int .i64 999999999999999999],[AV.int .i64 5],[AV.int .i64 3]]:List (List AV))[m]? = some [.int .i64 (numsE.getD m 0)]:=by
   intro m hm
   rcases m with _ | _ | _ | _ | _ | _ | _ | _ | m
   all_goals first | rfl | omega
  rw [hn m (by omega)]
  simp [retW_eq,h4,encE_mk]
 ·simp
  refine sGrd_dec (fun h9=>?_) (fun h9=>?_)
  ·simp [h9]
   by_cases hz:ns.length = 0
   ·have:ns = []:=List.eq_nil_of_length_eq_zero hz
    subst this
    simp [h9]
    refine scall_flat (sp_wi2 x.n 3 (by omega) (by omega)) (by simp) (by simp) rfl ?_
    simp [retW_eq,h4,h9,encE_mk]
   ·have hz':0 < ns.length:=by omega
    simp [h9,hz']
    refine scall_flat (sp_wi2 x.n ns.length (by omega) (by omega)) (by simp) (by simp) rfl ?_
    simp
    rw [ixB_row1 ns _ (within_ge _ _ (by omega)) (within_lt _ _ (by omega))]
    simp [retW_eq,h4,h9,encE_mk,hz']
  ·simp [h9]
   have g9:¬ w < 9:=h9
   refine sIf_dec (fun h=>?_) (fun h=>?_)
   ·simp
    refine scall_pure (sp_pt2 ns x 0 (by omega) ih) (by simp) (by simp) ?_
    simp [retW_eq,h4,h9,h,encE_mk]
   ·simp
    refine sIf_dec (fun h'=>?_) (fun h'=>?_)
    ·simp
     refine scall_pure (sp_pt2 ns x 0 (by omega) ih) (by simp) (by simp) ?_
     simp [retW_eq,h4,h9,h,h',encE_mk]
    ·simp
     rw [wrap64 (x:=5 + w) (by omega) (by omega),wrap64 (by omega) (by omega)]
     refine scall0_pure (sp_pt2 ns x 0 (by omega) ih) (by simp) (by simp) ?_
     simp
     refine scall0_pure (sp_pt2 ns x 1 (by omega) ih) (by simp) (by simp) ?_
     simp [retW_eq,h4,h,h',encE_mk,h9]
     omega
termination_by SizeOf.sizeOf x
decreasing_by exact Rw2.lt_of_mem hy
theorem sp_one (ns:List ByteArray) (l:List Rw2) (hns:ns.length < 1000):Am.Spec Tryz.prog 100 [.sl (l.map encR2),.sl (encB ns)] (.agg (encE (oneE ns l))):=by
 refine W100_S (by simp) ?_
 intro vs
 simp
 cases l with
 | nil=>simp [retW_eq,oneE,encE_mk]
 | cons x l=>
  simp
  refine scall_pure (sp_mk2 ns x hns) (by simp) (by simp) ?_
  simp [retW_eq,oneE]
theorem sp_vrs:Am.Spec Tryz.prog 71 [] (.sl (encB vsL)):=by
 refine W71_S (by simp) ?_
 intro vs
 simp [retW_eq,encB,vsL]
theorem sp_stk3:Am.Spec Tryz.prog 70 [] (.sl (encB ssL)):=by
 refine W70_S (by simp) ?_
 intro vs
 simp [retW_eq,encB,ssL]
theorem sp_dfs:Am.Spec Tryz.prog 73 [] (.sl (encB dsL)):=by
 refine W73_S (by simp) ?_
 intro vs
 simp [retW_eq,encB,dsL]
theorem sp_sz3 (x:Rw3) (d:Nat) (hd:d ≤ 9):Am.Spec Tryz.prog 29 [.agg (encR3 x),.int .i64 d] (.int .i64 (x.sz d)):=by
 refine W29_S (by simp) ?_
 intro vs
 simp
 have hz:=x.sz_eq d
 have fin:∀ (v2:Nat) (T:List (Nat × AV)) (VS:Nat → Nat),x.sz d = Rw3.szs x.l d 1 → d ≤ 8 → Am.subT T [(1,.int .i64 d),(2,.ref 2 v2 (.p 0)),(5,.int .i64 1),(6,.int .i64 0)] → (@sLoop ⟨Am.look T,hls [(2,.box v2 69 (encR3 x))] VS,noG⟩ ⟨fun L0 s=>W29_l7 (retK Tryz.prog [.tmp 4] (.int .i64 (x.sz d))) L0 s⟩):=by
  intro v2 T VS hzz hd8 hT
  refine sLoop_intro (fun y:Nat × Int=>y.1 ≤ x.l.length ∧ y.1 ≤ y.2 ∧ y.2 ≤ 1500 ∧ Rw3.szs x.l d 1 = Rw3.szs (x.l.drop y.1) d y.2) (fun y=>x.l.length - y.1)
   (fun y=>[(1,.int .i64 d),(2,.ref 2 v2 (.p 0)),(5,.int .i64 y.2),(6,.int .i64 (y.1:Nat))]) (fun _=>[(2,.box v2 69 (encR3 x))]) (0,1) (by simp) (by simpa using hT) (by simp) ?_
  rintro L ⟨i,n⟩ vs ⟨hi,hn0,hn1,hs⟩ hL
  simp only at hi hn0 hn1 hs hL
  simp
  refine sGrd_dec (fun h1=>?_) (fun h1=>?_)
  ·simp
   rw [decide_eq_true h1]
   simp
   refine sIf_dec (fun h2=>?_) (fun h2=>?_)
   ·have hsz:=Rw3.sz_le x.l[i] (d + 1)
    simp [h1]
    rw [wrap64 (x:=(d:Int) + 1) (by omega) (by omega)]
    refine scall_flat (sp_sz3 x.l[i] (d + 1) (by omega)) (by simp) (by simp) rfl ?_
    simp
    rw [wrap64 (by omega) (by omega),wrap64 (by omega) (by omega)]
    exact hL _ _ _ (i + 1,n + x.l[i].sz (d + 1)) ⟨h1,by simp; omega,by simp; omega,hs.trans (Rw3.szs_drop x.l i d n h1 h2)⟩ (by simp; omega) (by simp) (by simp)
   ·simp [retW_eq]
    rw [hzz,hs,Rw3.szs_stop _ _ _ h2]
  ·simp
   rw [decide_eq_false h1]
   simp [retW_eq]
   rw [hzz,hs,List.drop_of_length_le (by omega)]
   rfl
 by_cases h:8 < (d:Int)
 ·have h':8 < d:=by omega
  rw [if_pos (.inl h')] at hz
  simp [h,h',retW_eq,hz]
 ·have h':¬ 8 < d:=by omega
  simp [h]
  refine scall_flat (sp_fw2 x.e) (by simp) (by simp) rfl ?_
  simp
  by_cases he:sz2 x.e 0 ≤ 20
  ·simp [he,h',-W29_l7]
   exact fin (vs 2 + 1) _ vs (by rw [hz,if_neg (by simp [h',he])]) (by omega) (by simp)
  ·rw [if_pos (.inr he)] at hz
   simp [he,h',retW_eq,hz]
termination_by SizeOf.sizeOf x
decreasing_by exact Rw3.lt_of_mem (List.getElem_mem h1)
def wsum (l:List Rw3):Int:=l.foldl (fun n x=>IntKind.wrap .i64 (n + x.sz 0)) 0
theorem wsum_few (l:List Rw3):(decide (l.length ≤ 5) && decide (wsum l ≤ 40)) = few3 l:=by
 unfold few3
 by_cases h:l.length ≤ 5
 ·rw [decide_eq_true h]
  have:wsum l = (l.map fun x=>x.sz 0).sum:=by
   unfold wsum
   have hz:∀ x:Rw3,1 ≤ x.sz 0 ∧ x.sz 0 ≤ 1360:=fun x=>by have:=x.sz_le 0; omega
   have go:∀ (l:List Rw3) (n:Int),0 ≤ n → n + 1360 * l.length ≤ 100000 → l.foldl (fun n x=>IntKind.wrap .i64 (n + x.sz 0)) n = n + (l.map fun x=>x.sz 0).sum:=by
    intro l
    induction l with
    | nil=>intro n _ _; simp
    | cons x l ih=>
     intro n h0 h1
     have:=hz x
     simp only [List.length_cons] at h1
     simp only [List.foldl_cons,List.map_cons,List.sum_cons]
     rw [wrap64 (by omega) (by omega),ih _ (by omega) (by omega)]
     omega
   rw [go l 0 (by omega) (by omega)]
   omega
  rw [this]
 ·rw [decide_eq_false h]
  rfl
theorem wsum_take (l:List Rw3) (i:Nat) (h:i < l.length):wsum (l.take (i + 1)) = IntKind.wrap .i64 (wsum (l.take i) + l[i].sz 0):=by
 unfold wsum
 rw [List.take_succ_eq_append_getElem h,List.foldl_append]
 rfl
theorem sp_fw3 (a b:AV) (l:List Rw3) (hl:l.length ≤ maxLen) (ha:a.cell = true ∧ closed a = true) (hb:b.cell = true ∧ closed b = true):Am.Spec Tryz.prog 12 [.agg [a,b,.sl (l.map encR3)]] (.bool (few3 l)):=by
 have hm:maxLen = 9223372036854775807:=rfl
 refine W12_S (by simp) ?_
 intro vs
 simp [ha.1,hb.1]
 refine sLoop_intro (fun i=>i ≤ l.length) (fun i=>l.length - i)
  (fun i=>[(1,.ref 1 (vs 1 + 1) (.p 0)),(3,.int .i64 (wsum (l.take i))),(4,.int .i64 (i:Nat))]) (fun _=>[(1,.box (vs 1 + 1) 24 [a,b,.sl (l.map encR3)])]) 0 (by simp) (by simp [wsum]) (by simp) ?_
 intro L i vt hi hL
 simp
 refine sIf_dec (fun h=>?_) (fun h=>?_)
 ·simp [h]
  refine scall_flat (sp_sz3 l[i] 0 (by omega)) (by simp) (by simp) rfl ?_
  simp
  rw [wrap64 (x:=(i:Int) + 1) (by omega) (by omega)]
  exact hL _ _ _ (i + 1) h (by omega) (by simp [wsum_take _ _ h]) (by simp)
 ·rw [List.take_of_length_le (by omega)] at *
  simp
  rw [← wsum_few]
  by_cases h5:l.length ≤ 5
  ·have h5':(l.length:Int) ≤ 5:=by omega
   simp [retW_eq,h5,h5']
  ·have h5':¬ (l.length:Int) ≤ 5:=by omega
   simp [retW_eq,h5,h5']
end Go.Proofs.YtnngddgaobhkiaaGreat
namespace Go.Proofs.YtnngddgaobhkiaaGreat
open Go Go.Am Go.RowKit
attribute [local simp] W99 W99_rs W99_b2 W99_b3 W74 W74_rs W74_b2 W74_b4 W74_b7 W74_b8 W74_b9 W74_b10 W74_b13 W74_b14 W74_b15 W74_b18 W74_b19 W74_b20 W74_b21 W74_b22 W74_b23 W74_b24 W74_b25 W74_b27 W74_b28 W74_b29 W74_b30 W74_b31 W74_b32 W74_b33 W74_b34 W74_b35 W74_b37 W74_b38 W74_b39 W74_b41 W74_b42 W74_b44 W74_k26 W74_k36 W74_k40 W74_k43
theorem sp_pt3 (x:Rw3) (i d:Nat) (hi:i < 2) (hd:d ≤ 6) (ih:∀ y ∈ x.l,d < 6 → Am.Spec Tryz.prog 74 [.agg (encR3 y),.int .i64 (d + 1:Nat)] (.agg (encPr (y.pr (d + 1))))) :
  Am.Spec Tryz.prog 99 [.agg (encR3 x),.int .i64 i,.int .i64 d] (.agg (encPr (x.part i d))):=by
 refine W99_S (by simp) ?_
 intro vs
 simp
 by_cases h:i < x.l.length
 ·have h':(i:Int) < x.l.length:=by omega
  by_cases h6:d < 6
  ·have h6':(d:Int) < 6:=by omega
   simp [h,h',h6',h6]
   rw [wrap64 (by omega) (by omega)]
   refine scall_pure (by simpa using ih _ (List.getElem_mem h) h6) (by simp) (by simp) ?_
   simp [retW_eq,Rw3.part,h,h6]
  ·have h6':¬ (d:Int) < 6:=by omega
   simp [h,h',h6',h6,retW_eq,Rw3.part,Pr.skip,Pr.of,encPr_mk,Ex.zero,encE_mk]
 ·have h':¬ (i:Int) < x.l.length:=by omega
  simp [h,h',retW_eq,Rw3.part,List.getElem?_eq_none (show x.l.length ≤ i by omega),Pr.skip,Pr.of,encPr_mk,Ex.zero,encE_mk]
theorem ixB_row1' (l:List ByteArray) (a:Int) (n:Int) (h0:0 < n) (h:n = l.length):ixRows (encB l) (within a n) 1 = some (.elt [.str (nthB l (within a n))] 0):=
 ixB_row1 l _ (within_ge _ _ h0) (by have:=within_lt a n h0; omega)
set_option maxHeartbeats 4000000 in
theorem sp_mk3 (x:Rw3) (d:Nat) (hd:d ≤ 6):Am.Spec Tryz.prog 74 [.agg (encR3 x),.int .i64 d] (.agg (encPr (x.pr d))):=by
 have ih:∀ y ∈ x.l,d < 6 → Am.Spec Tryz.prog 74 [.agg (encR3 y),.int .i64 (d + 1:Nat)] (.agg (encPr (y.pr (d + 1)))):=fun y hy h=>sp_mk3 y (d + 1) (by omega)
 have w0:=within_ge x.k 20 (by omega)
 have w1:=within_lt x.k 20 (by omega)
 rw [x.pr_eq]
 refine W74_S (by simp) ?_
 intro vs
 simp
 refine scall0_pure sp_vrs (by simp) (by simp) ?_
 simp
 refine scall0_pure (sp_wi3 x.a 3 (by omega) (by omega)) (by simp) (by simp) ?_
 simp
 rw [ixB_row1' vsL x.a 3 (by omega) rfl]
 simp
 refine scall0_pure sp_stk3 (by simp) (by simp) ?_
 simp
 refine scall0_pure (sp_wi3 x.a 2 (by omega) (by omega)) (by simp) (by simp) ?_
 simp
 rw [ixB_row1' ssL x.a 2 (by omega) rfl]
 simp
 refine scall0_pure sp_dfs (by simp) (by simp) ?_
 simp
 refine scall0_pure (sp_wi3 x.a 5 (by omega) (by omega)) (by simp) (by simp) ?_
 simp
 rw [ixB_row1' dsL x.a 5 (by omega) rfl]
 simp
 refine scall0_pure (sp_pt3 x 0 d (by omega) hd ih) (by simp) (by simp) ?_
 simp
 refine scall0_pure (sp_pt3 x 1 d (by omega) hd ih) (by simp) (by simp) ?_
 simp
 refine scall_flat (sp_wi3 x.k 20 (by omega) (by omega)) (by simp) (by simp) rfl ?_
 unfold prOf
 generalize within x.k 20 = w at *
 have e0:∀ s t:ByteArray,∀ k:Int,∀ l:List Pr,[AV.int .i64 k,.str s,.str t,.int .i64 0,.int .i64 0,.str ⟨#[]⟩,.sl [],.sl (l.map encPr)] = encPr (.of k s t l):=fun s t k l=>by simp [Pr.of,encPr_mk,Ex.zero,encE_mk]
 have e00:∀ s t:ByteArray,∀ k:Int,[AV.int .i64 k,.str s,.str t,.int .i64 0,.int .i64 0,.str ⟨#[]⟩,.sl [],.sl []] = encPr (.of k s t []):=fun s t k=>e0 s t k []
 have e01:∀ s t:ByteArray,∀ k:Int,∀ p:Pr,[AV.int .i64 k,.str s,.str t,.int .i64 0,.int .i64 0,.str ⟨#[]⟩,.sl [],.sl [encPr p]] = encPr (.of k s t [p]):=fun s t k p=>e0 s t k [p]
 have e02:∀ s t:ByteArray,∀ k:Int,∀ p q:Pr,[AV.int .i64 k,.str s,.str t,.int .i64 0,.int .i64 0,.str ⟨#[]⟩,.sl [],.sl [encPr p,encPr q]] = encPr (.of k s t [p,q]):=fun s t k p q=>e0 s t k [p,q]
 have hps:=ixB_row1' psL x.b 3 (by omega) rfl
 have hss:=ixB_row1' ssL x.b 2 (by omega) rfl
 simp only [encB,psL,List.map_cons,List.map_nil] at hps
 simp
 refine sIf_dec (fun h0=>?_) (fun h0=>?_)
 ·subst h0
  simp
  refine scall_flat (sp_wi3 x.b 3 (by omega) (by omega)) (by simp) (by simp [closedL,closedLL]) rfl ?_
  simp [retW_eq,e00,hps,psL]
 ·simp
  refine sIf_dec (fun h1=>?_) (fun h1=>?_)
  ·subst h1
   simp
   refine scall_flat (sp_wi3 x.b 3 (by omega) (by omega)) (by simp) (by simp [closedL,closedLL]) rfl ?_
   simp [retW_eq,e00,hps,psL]
  ·simp
   refine sIf_dec (fun h2=>?_) (fun h2=>?_)
   ·subst h2
    simp
    refine scall_flat (sp_wi3 x.b 3 (by omega) (by omega)) (by simp) (by simp [closedL,closedLL]) rfl ?_
    simp [retW_eq,e00,hps,psL]
   ·simp
    refine sIf_dec (fun h3=>?_) (fun h3=>?_)
    ·subst h3
     simp
     refine scall_flat (sp_wi3 x.b 3 (by omega) (by omega)) (by simp) (by simp [closedL,closedLL]) rfl ?_
     simp [retW_eq,e00,hps,psL]
    ·simp
     refine sIf_dec (fun h4=>?_) (fun h4=>?_)
     ·subst h4
      simp
      refine scall0_pure sp_vrs (by simp) (by simp) ?_
      simp
      refine scall0_pure (sp_one vsL x.e (by simp [vsL])) (by simp) (by simp) ?_
      simp [retW_eq,encPr_mk]
     ·simp
      refine sIf_dec (fun h5=>?_) (fun h5=>?_)
      ·subst h5
       simp [retW_eq,e00,e01,e02,Pr.skip]
      ·simp
       refine sIf_dec (fun h6=>?_) (fun h6=>?_)
       ·subst h6
        simp [retW_eq,e00,e01,e02,Pr.skip]
       ·simp
        refine sIf_dec (fun h7=>?_) (fun h7=>?_)
        ·subst h7
         simp [retW_eq,e00,e01,e02,Pr.skip]
        ·simp
         refine sIf_dec (fun h8=>?_) (fun h8=>?_)
         ·subst h8
          simp [retW_eq,e00,e01,e02,Pr.skip]
         ·simp
          refine sIf_dec (fun h9=>?_) (fun h9=>?_)
          ·subst h9
           simp
           refine scall0_pure sp_stk3 (by simp) (by simp) ?_
           simp
           refine scall0_pure (sp_wi3 x.b 2 (by omega) (by omega)) (by simp) (by simp) ?_
           simp [hss,retW_eq,e00]
          ·simp
           refine sIf_dec (fun h10=>?_) (fun h10=>?_)
           ·subst h10
            simp [retW_eq,e00,e01,e02,Pr.skip]
           ·simp
            refine sIf_dec (fun h11=>?_) (fun h11=>?_)
            ·subst h11
             simp [retW_eq,e00,e01,e02,Pr.skip]
            ·simp
             refine sIf_dec (fun h12=>?_) (fun h12=>?_)
             ·subst h12
              simp
              refine scall0_pure sp_vrs (by simp) (by simp) ?_
              simp
              refine scall0_pure (sp_one vsL x.e (by simp [vsL])) (by simp) (by simp) ?_
              simp [retW_eq,encPr_mk]
             ·simp
              refine sIf_dec (fun h13=>?_) (fun h13=>?_)
              ·subst h13
               simp [retW_eq,e00,e01,e02,Pr.skip]
              ·simp
               refine sIf_dec (fun h14=>?_) (fun h14=>?_)
               ·subst h14
                simp [retW_eq,e00,e01,e02,Pr.skip]
               ·simp
                refine sIf_dec (fun h15=>?_) (fun h15=>?_)
                ·subst h15
                 simp [retW_eq,e00,e01,e02,Pr.skip]
                ·simp
                 refine sIf_dec (fun h16=>?_) (fun h16=>?_)
                 ·subst h16
                  simp [retW_eq,e00,e01,e02,Pr.skip]
                 ·simp
                  refine sIf_dec (fun h17=>?_) (fun h17=>?_)
                  ·subst h17
                   simp [retW_eq,e00,e01,e02,Pr.skip]
                  ·simp [retW_eq,e02]
                   have cs:w = 18 ∨ w = 19:=by omega
                   rcases cs with rfl | rfl <;> rfl
termination_by SizeOf.sizeOf x
decreasing_by exact Rw3.lt_of_mem hy
end Go.Proofs.YtnngddgaobhkiaaGreat
namespace Go.Proofs.YtnngddgaobhkiaaGreat
open Go Go.Am Go.RowKit
attribute [local simp] W67 W67_rs W67_k1 W67_b2 W67_b3 W67_b4 W67_l5 W96 W96_rs W96_k1 W96_b2 W97 W97_rs W97_k1 W97_k5 W97_b3 W97_b7 W97_l4
theorem sp_fnd (l:List ByteArray) (s:ByteArray) (hl:l.length ≤ 9223372036854775806):Am.Spec Tryz.prog 67 [.sl (encB l),.str s] (.int .i64 (idxB l s)):=by
 refine W67_S (by simp) ?_
 intro vs
 simp
 refine sLoop_intro (fun i=>i ≤ l.length ∧ idxB l s = if idxB (l.drop i) s = -1 then -1 else i + idxB (l.drop i) s) (fun i=>l.length - i)
  (fun i=>[(0,.sl (encB l)),(1,.str s),(5,.int .i64 (i:Nat))]) (fun _=>[]) 0 (by simp) (by simp) (by simp) ?_
 intro L i vs ⟨hi,hx⟩ hL
 simp
 refine sIf_dec (fun h=>?_) (fun h=>?_)
 ·simp [encB_get l i (by omega)]
  refine sIf_dec (fun e=>?_) (fun e=>?_)
  ·simp [retW_eq]
   rw [hx,idxB_at l s i (by omega) (by simpa [List.getD_eq_getElem?_getD,List.getElem?_eq_getElem (show i < l.length by omega)] using e)]
   simp
  ·simp
   rw [wrap64 (by omega) (by omega)]
   exact hL _ _ _ (i + 1) ⟨by omega,by rw [hx,idxB_step l s i (by omega) (by simpa [List.getD_eq_getElem?_getD,List.getElem?_eq_getElem (show i < l.length by omega)] using e)]⟩ (by omega) (by simp) (by simp)
 ·simp [retW_eq]
  have:l.drop i = []:=List.drop_of_length_le (by omega)
  rw [this] at hx
  simpa [idxB] using hx.symm
def lwC (V S D:List ByteArray) (b:Bool):List AV:=[.sl (encB V),.sl (encB S),.sl (encB D),.bool b]
@[simp] theorem lwC_closed (V S D:List ByteArray) (b:Bool):closedL (lwC V S D b) = true:=by simp [lwC]
theorem sp_att (V S D l:List ByteArray) (b:Bool) (s:ByteArray) (hl:l.length ≤ 9223372036854775806) (hk:0 ≤ idxB l s) :
  Am.Spec Tryz.prog 96 [.elt (lwC V S D b) 0,.sl (encB l),.str s] (.int .i64 (idxB l s)):=by
 refine W96_S (by simp) ?_
 intro vs
 simp [lwC]
 refine scall_flat (sp_fnd l s hl) (by simp) (by simp) rfl ?_
 have h:¬ idxB l s < 0:=by omega
 simp [h,retW_eq]
@[simp] theorem map_lowE_closed (V:List ByteArray) (l:List Ex):closedLL (l.map fun y=>encE (lowE V y)) = true:=closedLL_sl_map (fun y=>encE (lowE V y)) (fun y=>by simp) l
@[simp] theorem map_lowP_closed (V S D:List ByteArray) (l:List Pr):closedLL (l.map fun y=>encT (lowP V S D y)) = true:=closedLL_sl_map (fun y=>encT (lowP V S D y)) (fun y=>by simp) l
def lexH (V:List ByteArray) (x:Ex) (v3 v4 v5:Nat) (n:Int) (i w:Nat):List (Nat × Blk):=
 (3,.box v3 33 (encE x)) :: (4,.box v4 33 [.int .i64 0,.int .i64 0,.str ⟨#[]⟩,.nils]) ::
  if i = 0 then [(5,.box v5 33 [.int .i64 x.kind,.int .i64 n,.str ⟨#[]⟩,.nils])]
  else [(5,.box v5 33 [.int .i64 x.kind,.int .i64 n,.str ⟨#[]⟩,.ref 41 w .o]),(41,.row w 33 4 ((x.l.take i).map fun y=>encE (lowE V y)))]
theorem badEs_mem {V:List ByteArray}:∀ {l:List Ex},badEs V l = false → ∀ x ∈ l,badE V x = false
 | y :: l,h,x,hx=>by
  simp only [badEs,Bool.or_eq_false_iff] at h
  rcases List.mem_cons.1 hx with rfl | hx
  ·exact h.1
  ·exact badEs_mem h.2 x hx
theorem sp_lex (x:Ex) (V S D:List ByteArray) (b:Bool) (hw:x.wt ≤ 137438953472) (hV:V.length ≤ 1000) (hb:badE V x = false) :
  Am.Spec Tryz.prog 97 [.elt (lwC V S D b) 0,.agg (encE x)] (.agg (encE (lowE V x))):=by
 have hlen:=Ex.wts_len x.l
 have hwt:=x.wt_eq
 rw [badE_eq] at hb
 simp only [Bool.or_eq_false_iff] at hb
 obtain ⟨hb1,hb2⟩:=hb
 have fin:∀ (v3 v4 v5:Nat) (n:Int) (T:List (Nat × AV)) (HL:List (Nat × Blk)) (VS:Nat → Nat),n = (if x.kind = 2 then idxB V x.name else x.n) →
   Am.subT T [(0,.elt (lwC V S D b) 0),(3,.ref 3 v3 (.p 0)),(4,.ref 4 v4 (.p 0)),(5,.ref 5 v5 (.p 0)),(6,.int .i64 0)] → subA HL (lexH V x v3 v4 v5 n 0 0) →
   (@sLoop ⟨Am.look T,hls HL VS,noG⟩ ⟨fun L0 s=>W97_l4 (retK Tryz.prog [.cell 4 33] (.agg (encE (lowE V x)))) L0 s⟩):=by
  intro v3 v4 v5 n T HL VS hn hT hH
  refine sLoop_intro (fun a:Nat × Nat=>a.1 ≤ x.l.length) (fun a=>x.l.length - a.1) (fun a=>[(0,.elt (lwC V S D b) 0),(3,.ref 3 v3 (.p 0)),(4,.ref 4 v4 (.p 0)),(5,.ref 5 v5 (.p 0)),(6,.int .i64 (a.1:Nat))])
   (fun a=>lexH V x v3 v4 v5 n a.1 a.2) (0,0) (by simp) (by simpa using hT) (by simpa using hH) ?_
  rintro L ⟨i,w⟩ vs hi hL
  simp only at hi hL ⊢
  simp [lexH]
  refine sIf_dec (fun h=>?_) (fun h=>?_)
  ·have hx:=sp_lex x.l[i] V S D b (by have:=Ex.wts_mem (List.getElem_mem h); omega) hV (badEs_mem hb2 _ (List.getElem_mem h))
   by_cases h0:i = 0
   ·subst h0
    simp [h] at hx ⊢
    refine scall0_pure hx (by simp) (by simp) ?_
    simp
    rw [wrap64 (by omega) (by omega)]
    refine hL _ _ _ (1,vs 41 + 1) (by simp; omega) (by simp; omega) (by simp) ?_
    have ht:x.l.take 1 = [x.l[0]]:=by simpa using List.take_succ_eq_append_getElem h
    simp [lexH,ht]
   ·simp [h,h0]
    refine scall0_pure hx (by simp) (by simp) ?_
    have hl:min i x.l.length = i:=by omega
    simp [hl]
    rw [decide_eq_true (by omega)]
    simp
    rw [wrap64 (by omega) (by omega)]
    refine hL _ _ _ (i + 1,w + 1) (by simp; omega) (by simp; omega) (by simp) ?_
    have ht:=take_map_succ (fun y=>encE (lowE V y)) x.l i h
    simp [lexH,ht]
  ·have e:i = x.l.length:=by omega
   subst e
   have hlw:=lowE_eq V x
   have ht:(x.l.map fun y=>encE (lowE V y)).take x.l.length = x.l.map fun y=>encE (lowE V y):=List.take_of_length_le (by simp)
   by_cases h0:x.l = []
   ·simp [h0,retW_eq,hlw,encE_mk,hn]
   ·simp [h0,retW_eq,hlw,encE_mk,hn,Function.comp_def,ht]
 refine W97_S (by simp) ?_
 intro vs
 simp
 by_cases hk:x.kind = 2
 ·simp [hk,lwC]
  refine scall0_pure (sp_att V S D V b x.name (by omega) (by simp [hk] at hb1; omega)) (by simp [lwC]) (by simp) ?_
  simp [-W97_l4]
  exact fin (vs 3 + 1) (vs 4 + 1) (vs 5 + 1) _ _ _ _ rfl (by simp [lwC]) (by simp [lexH,hk])
 ·simp [hk,-W97_l4]
  exact fin (vs 3 + 1) (vs 4 + 1) (vs 5 + 1) _ _ _ _ rfl (by simp) (by simp [lexH,hk])
termination_by SizeOf.sizeOf x
decreasing_by exact Ex.lt_of_mem (List.getElem_mem h)
end Go.Proofs.YtnngddgaobhkiaaGreat
namespace Go.Proofs.YtnngddgaobhkiaaGreat
open Go Go.Am Go.RowKit
attribute [local simp] W65 W65_rs W65_k1 W65_k4 W65_b2 W65_b5 W65_l3 W65_l6 W66 W66_rs W66_k1 W66_b2 W66_b3 W66_b5 W66_l6
def rv (k w:Nat) (l:List (List AV)):AV:=if l = [] then .nils else .ref k w .o
def rb (k w t sz:Nat) (l:List (List AV)):List (Nat × Blk):=if l = [] then [] else [(k,.row w t sz l)]
@[simp] theorem rv_nil (k w:Nat):rv k w [] = .nils:=rfl
@[simp] theorem rb_nil (k w t sz:Nat):rb k w t sz [] = []:=rfl
theorem rv_ne {k w:Nat} {l:List (List AV)} (h:l ≠ []):rv k w l = .ref k w .o:=if_neg h
theorem rb_ne {k w t sz:Nat} {l:List (List AV)} (h:l ≠ []):rb k w t sz l = [(k,.row w t sz l)]:=if_neg h
theorem encB_ne {l:List ByteArray} (h:l ≠ []):encB l ≠ []:=by simpa [encB] using h
def nmsH (p:Prog) (v1:Nat) (V D:List ByteArray) (w1 w2:Nat):List (Nat × Blk):=(1,.box v1 76 (encProg p)) :: (rb 23 w1 9 1 (encB V) ++ rb 39 w2 9 1 (encB D))
theorem sp_nms (p : Prog) (h1 : p.vars.length ≤ 1000) (h2 : p.procs.length ≤ 1000) : Am.Spec Tryz.prog 65 [.agg (encProg p)] (.tup [.sl (encB p.V), .sl (encB p.D)]) := by
  have hV : ∀ i, p.V.take i = (p.vars.take i).map (·.1) := fun i => by simp [Prog.V]
  have hD : ∀ i, p.D.take i = (p.procs.take i).map (·.name) := fun i => by simp [Prog.D]
  refine W65_S (by simp) ?_
  intro vs
  simp [encProg]
  refine sLoop_intro (fun a : Nat × Nat => a.1 ≤ p.vars.length) (fun a => p.vars.length - a.1) (fun a => [(1, .ref 1 (vs 1 + 1) (.p 0)), (4, rv 23 a.2 (encB (p.V.take a.1))), (5, .nils), (6, .int .i64 (a.1 : Nat))])
    (fun a => nmsH p (vs 1 + 1) (p.V.take a.1) [] a.2 0) (0, 0) (by simp) (by simp) (by simp [nmsH, encProg]) ?_
  rintro L ⟨i, w⟩ vt hi hL
  simp only at hi hL ⊢
  by_cases h : i < p.vars.length
  · have h' : (i : Int) < p.vars.length := by omega
    have ht : p.V.take (i + 1) = p.V.take i ++ [p.vars[i].1] := take_map_succ (fun x : ByteArray × Int => x.1) p.vars i h
    by_cases h0 : i = 0
    · subst h0
      simp [nmsH, h, encProg]
      rw [wrap64 (by omega) (by omega)]
      refine hL _ _ _ (1, vt 23 + 1) (by simp; omega) (by simp; omega) ?_ ?_
      · rw [ht]; simp [encB, rv]
      · rw [ht]; simp [nmsH, encB, rb, encProg]
    · have hne : p.V.take i ≠ [] := by rw [hV]; simp; constructor; omega; intro e; rw [e] at h; simp at h
      have hlen : (p.V.take i).length = i := by rw [hV]; simp; omega
      simp [nmsH, h, encProg, rv_ne (encB_ne hne), rb_ne (encB_ne hne)]
      have hmin : min i p.V.length = i := by have : p.V.length = p.vars.length := by simp [Prog.V]
                                             omega
      rw [hmin, decide_eq_true (by omega)]
      simp
      rw [wrap64 (by omega) (by omega)]
      refine hL _ _ _ (i + 1, w + 1) (by simp; omega) (by simp; omega) ?_ ?_
      · rw [ht]; simp [encB, rv]
      · rw [ht]; simp [nmsH, encB, rb, encProg]
  · have e : p.V.take i = p.V := List.take_of_length_le (by simp [Prog.V]; omega)
    rw [e]
    simp [nmsH, h, encProg]
    have sub0 : subA ((1, .box (vs 1 + 1) 76 [.sl (p.vars.map encVr), .sl (encB p.stacks), .sl (p.procs.map encDf)]) :: rb 23 w 9 1 (encB p.V)) (nmsH p (vs 1 + 1) p.V [] w 0) := by
      by_cases hv : p.V = []
      · simp [nmsH, hv, encProg]
      · simp [nmsH, rb_ne (encB_ne hv), encProg]
    refine sLoop_intro (fun a : Nat × Nat => a.1 ≤ p.procs.length) (fun a => p.procs.length - a.1) (fun a => [(1, .ref 1 (vs 1 + 1) (.p 0)), (4, rv 23 w (encB p.V)), (5, rv 39 a.2 (encB (p.D.take a.1))), (7, .int .i64 (a.1 : Nat))])
      (fun a => nmsH p (vs 1 + 1) p.V (p.D.take a.1) w a.2) (0, 0) (by simp) (by simp) (by simpa using sub0) ?_
    clear hL
    rintro L ⟨i, w2⟩ vt hi hL
    simp only at hi hL ⊢
    by_cases h : i < p.procs.length
    · have h' : (i : Int) < p.procs.length := by omega
      have ht : p.D.take (i + 1) = p.D.take i ++ [p.procs[i].name] := take_map_succ (fun x : Dfn => x.name) p.procs i h
      have hlen : p.D.length = p.procs.length := by simp [Prog.D]
      by_cases h0 : i = 0
      · subst h0
        by_cases hv : p.V = []
        · simp [nmsH, h, encProg, hv]
          rw [wrap64 (by omega) (by omega)]
          refine hL _ _ _ (1, vt 39 + 1) (by simp; omega) (by simp; omega) ?_ ?_
          · rw [ht]; simp [encB, rv, hv]
          · rw [ht]; simp [nmsH, encB, rb, encProg, hv]
        · simp [nmsH, h, encProg, rb_ne (encB_ne hv)]
          rw [wrap64 (by omega) (by omega)]
          refine hL _ _ _ (1, vt 39 + 1) (by simp; omega) (by simp; omega) ?_ ?_
          · rw [ht]; simp [encB, rv]
          · rw [ht]; simp [nmsH, encB, rb, encProg, hv]
      · have hne : p.D.take i ≠ [] := by
          intro e
          have := congrArg List.length e
          rw [List.length_take, List.length_nil] at this
          omega
        have hmin : min i p.D.length = i := by omega
        by_cases hv : p.V = []
        · simp [nmsH, h, encProg, rv_ne (encB_ne hne), rb_ne (encB_ne hne), hv]
          rw [hmin, decide_eq_true (by omega)]
          simp
          rw [wrap64 (by omega) (by omega)]
          refine hL _ _ _ (i + 1, w2 + 1) (by simp; omega) (by simp; omega) ?_ ?_
          · rw [ht]; simp [encB, rv, hv]
          · rw [ht]; simp [nmsH, encB, rb, encProg, hv]
        · simp [nmsH, h, encProg, rv_ne (encB_ne hne), rb_ne (encB_ne hne), rb_ne (encB_ne hv)]
          rw [hmin, decide_eq_true (by omega)]
          simp
          rw [wrap64 (by omega) (by omega)]
          refine hL _ _ _ (i + 1, w2 + 1) (by simp; omega) (by simp; omega) ?_ ?_
          · rw [ht]; simp [encB, rv]
          · rw [ht]; simp [nmsH, encB, rb, encProg, hv]
    · have e : p.D.take i = p.D := List.take_of_length_le (by simp [Prog.D]; omega)
      rw [e]
      by_cases hv : p.V = [] <;> by_cases hd : p.D = []
      · simp [nmsH, h, encProg, hv, hd, retW_eq]
      · simp [nmsH, h, encProg, hv, retW_eq, rv_ne (encB_ne hd), rb_ne (encB_ne hd)]
      · simp [nmsH, h, encProg, hd, retW_eq, rv_ne (encB_ne hv), rb_ne (encB_ne hv)]
      · simp [nmsH, h, encProg, retW_eq, rv_ne (encB_ne hv), rb_ne (encB_ne hv), rv_ne (encB_ne hd), rb_ne (encB_ne hd)]
theorem sp_twc (l:List ByteArray) (hl:l.length ≤ 1000):Am.Spec Tryz.prog 66 [.sl (encB l)] (.bool (twB l)):=by
 refine W66_S (by simp) ?_
 intro vs
 simp
 refine sLoop_intro (fun i=>i ≤ l.length ∧ ∀ j,j < i → idxB l (l.getD j ⟨#[]⟩) = j) (fun i=>l.length - i) (fun i=>[(0,.sl (encB l)),(3,.int .i64 (i:Nat))]) (fun _=>[]) 0 (by simp) (by simp) (by simp) ?_
 rintro L i vt ⟨hi,hj⟩ hL
 by_cases h:i < l.length
 ·have h':(i:Int) < l.length:=by omega
  have eg:l.getD i ⟨#[]⟩ = l[i]:=by rw [List.getD_eq_getElem?_getD,List.getElem?_eq_getElem h]; rfl
  simp [h',h]
  refine scall_pure (sp_fnd l l[i] (by omega)) (by simp) (by simp) ?_
  by_cases e:idxB l l[i] = i
  ·rw [e]
   simp
   rw [wrap64 (by omega) (by omega)]
   refine hL _ _ _ (i + 1) ⟨h,fun j hj2=>?_⟩ (by omega) (by simp) (by simp)
   by_cases ej:j = i
   ·rw [ej,eg]; exact e
   ·exact hj j (by omega)
  ·simp [e,retW_eq,twB]
   exact ⟨i,h,by rw [List.getElem?_eq_getElem h]; exact e⟩
 ·simp [h,retW_eq,twB]
  intro j hj2
  simpa using hj j (by omega)
end Go.Proofs.YtnngddgaobhkiaaGreat
namespace Go.Proofs.YtnngddgaobhkiaaGreat
open Go Go.Am Go.RowKit
attribute [local simp] W31 W31_rs W31_k1 W31_k2 W31_k8 W31_b4 W31_b6 W31_b11 W31_l7 W31_l12
def encSh (v s:Int) (bs:List Rw3):List AV:=[.int .i64 v,.int .i64 s,.sl (bs.map encR3)]
def shV (v:Int) (i:Nat):ByteArray × Int:=(nthB vsL i,within (IntKind.wrap .i64 (v.tdiv (i + 1:Nat))) 9 - 4)
def shP (bs:List Rw3) (i:Nat):Dfn:=⟨nthB dsL i,((bs[i]?).map fun x=>x.pr 0).getD .skip⟩
def shProg (v:Int) (bs:List Rw3):Prog:=⟨(List.range 3).map (shV v),ssL,(List.range 5).map (shP bs)⟩
def shH (v s:Int) (bs:List Rw3) (v1 v2 v3 w w2 i j:Nat):List (Nat × Blk):=
 [(1,.box v1 24 (encSh v s bs)),(2,.box v2 76 [.nils,.nils,.nils]),(3,.box v3 76 [rv 28 w ((List.range i).map fun i=>encVr (shV v i)),.sl (encB ssL),rv 55 w2 ((List.range j).map fun i=>encDf (shP bs i))])]
  ++ (rb 28 w 121 2 ((List.range i).map fun i=>encVr (shV v i)) ++ rb 55 w2 82 9 ((List.range j).map fun i=>encDf (shP bs i)))
theorem range_ne {α:Type} (f:Nat → α) {i:Nat} (h:i ≠ 0):(List.range i).map f ≠ []:=by simp [h]
theorem range_succ_map {α:Type} (f:Nat → α) (i:Nat):(List.range (i + 1)).map f = (List.range i).map f ++ [f i]:=by simp [List.range_succ]
theorem encDf_skip (n:ByteArray):encDf ⟨n,.skip⟩ = [.str n,.int .i64 0,.str ⟨#[]⟩,.str ⟨#[]⟩,.int .i64 0,.int .i64 0,.str ⟨#[]⟩,.sl [],.sl []]:=by simp [encDf,Pr.skip,Pr.of,encPr_mk,Ex.zero,encE_mk]
theorem setDf_lit (n:ByteArray) (p:Pr):setL [.str n,.int .i64 0,.str ⟨#[]⟩,.str ⟨#[]⟩,.int .i64 0,.int .i64 0,.str ⟨#[]⟩,.nils,.nils] 1 (encPr p) = encDf ⟨n,p⟩:=by
 rw [setL_eq _ _ _ (by simp),encDf_eq,encPr_eq]; rfl
theorem shm_walk (v s:Int) (bs:List Rw3) (Φ:Exit → St → Prop) (vs:Nat → Nat)
  (hk:∀ vt w w2,W31_k1 Φ ⟨Am.look (Am.insT (Am.insT [(1,.ref 1 (vs 1 + 1) (.p 0)),(2,.ref 2 (vs 2 + 1) (.p 0)),(3,.ref 3 (vs 3 + 1) (.p 0)),(5,.int .i64 5)] 30 (.int .i64 5)) 31 (.bool false)),
   hls (shH v s bs (vs 1 + 1) (vs 2 + 1) (vs 3 + 1) w w2 3 5) vt,noG⟩):W31 Φ ⟨Am.look [(0,.agg (encSh v s bs))],hls [] vs,noG⟩:=by
 simp [encSh]
 refine scall_pure sp_stk3 (by simp) (by simp) ?_
 simp
 refine sLoop_intro (fun a:Nat × Nat=>a.1 ≤ 3) (fun a=>3 - a.1) (fun a=>[(1,.ref 1 (vs 1 + 1) (.p 0)),(2,.ref 2 (vs 2 + 1) (.p 0)),(3,.ref 3 (vs 3 + 1) (.p 0)),(4,.int .i64 (a.1:Nat))])
  (fun a=>shH v s bs (vs 1 + 1) (vs 2 + 1) (vs 3 + 1) a.2 0 a.1 0) (0,0) (by simp) (by simp) (by simp [shH,encSh]) ?_
 rintro L ⟨i,w⟩ vt hi hL
 simp only at hi hL ⊢
 by_cases h:i < 3
 ·have h':(i:Int) < 3:=by omega
  have hq:=range_succ_map (fun i=>encVr (shV v i)) i
  have hsv:encVr (shV v i) = [.str (nthB vsL i),.int .i64 (within (IntKind.wrap .i64 (v.tdiv (i + 1:Nat))) 9 - 4)]:=rfl
  have hget:(encB vsL)[i]? = some [.str (nthB vsL i)]:=by rw [encB_get vsL i (by simp [vsL]; omega)]; simp [nthB]
  have hw1:=within_ge (IntKind.wrap .i64 (v.tdiv (i + 1:Nat))) 9 (by omega)
  have hw2:=within_lt (IntKind.wrap .i64 (v.tdiv (i + 1:Nat))) 9 (by omega)
  have hcall:=sp_wi3 (IntKind.wrap .i64 (v.tdiv (i + 1:Nat))) 9 (by omega) (by omega)
  generalize hg:within (IntKind.wrap .i64 (v.tdiv (i + 1:Nat))) 9 = g at *
  rw [show ((i + 1:Nat):Int) = (i:Int) + 1 by omega] at hcall
  have hz:¬ (i:Int) + 1 = 0:=by omega
  by_cases h0:i = 0
  ·subst h0
   simp [shH,encSh]
   refine scall0_pure sp_vrs (by simp) (by simp) ?_
   simp at hget hcall
   simp [hget]
   rw [wrap64 (x:=1) (by omega) (by omega)]
   simp
   refine scall0_pure hcall (by simp) (by simp) ?_
   simp
   rw [wrap64 (x:=g - 4) (by omega) (by omega)]
   refine hL _ _ _ (1,vt 28 + 1) (by simp) (by simp) (by simp; exact wrap64 (by omega) (by omega)) ?_
   show subA _ (shH v s bs _ _ _ _ _ (0 + 1) _); unfold shH; rw [hq,hsv]; simp [encSh,rb,rv]
  ·have hne:=range_ne (fun i=>encVr (shV v i)) h0
   simp [shH,encSh,h',rv_ne hne,rb_ne hne]
   refine scall0_pure sp_vrs (by simp) (by simp) ?_
   simp [hget]
   rw [wrap64 (x:=(i:Int) + 1) (by omega) (by omega)]
   simp [hz]
   refine scall0_pure hcall (by simp) (by simp) ?_
   simp
   rw [wrap64 (x:=g - 4) (by omega) (by omega)]
   rw [decide_eq_true (by omega)]
   simp
   rw [wrap64 (x:=(i:Int) + 1) (by omega) (by omega)]
   refine hL _ _ _ (i + 1,w + 1) (by simp; omega) (by simp; omega) (by simp) ?_
   show subA _ (shH v s bs _ _ _ _ _ (i + 1) _); unfold shH; rw [hq,hsv]; simp [encSh,rb,rv]
 ·have e:i = 3:=by omega
  subst e
  have hne:=range_ne (fun i=>encVr (shV v i)) (i:=3) (by omega)
  simp [-W31_l7,shH,encSh,rv_ne hne,rb_ne hne]
  refine sLoop_intro (fun a:Nat × Nat=>a.1 ≤ 5) (fun a=>5 - a.1) (fun a=>[(1,.ref 1 (vs 1 + 1) (.p 0)),(2,.ref 2 (vs 2 + 1) (.p 0)),(3,.ref 3 (vs 3 + 1) (.p 0)),(5,.int .i64 (a.1:Nat))])
   (fun a=>shH v s bs (vs 1 + 1) (vs 2 + 1) (vs 3 + 1) w a.2 3 a.1) (0,0) (by simp) (by simp) (by simp [shH,encSh,rv_ne hne,rb_ne hne]) ?_
  clear hL h hi
  rintro L ⟨i,w2⟩ vt hi hL
  simp only at hi hL ⊢
  by_cases h:i < 5
  ·have h':(i:Int) < 5:=by omega
   have hq:=range_succ_map (fun i=>encDf (shP bs i)) i
   have hget:(encB dsL)[i]? = some [.str (nthB dsL i)]:=by rw [encB_get dsL i (by simp [dsL]; omega)]; simp [nthB]
   have hgt0:(encB dsL)[0]? = some [.str (nthB dsL 0)]:=by rw [encB_get dsL 0 (by simp [dsL])]; simp [nthB]
   by_cases hb:i < bs.length
   ·have hb':(i:Int) < bs.length:=by omega
    have hsp:shP bs i = ⟨nthB dsL i,bs[i].pr 0⟩:=by simp [shP,hb]
    have hcall:Am.Spec Tryz.prog 74 [.agg (encR3 bs[i]),.int .i64 0] (.agg (encPr (bs[i].pr 0))):=by simpa using sp_mk3 bs[i] 0 (by omega)
    by_cases h0:i = 0
    ·subst h0
     simp [shH,encSh,rv_ne hne,rb_ne hne]
     refine scall_pure sp_dfs (by simp) (by simp) ?_
     simp [hgt0,hb]
     refine scall_pure hcall (by simp) (by simp) ?_
     simp [setDf_lit]
     refine hL _ _ _ (1,vt 55 + 1) (by simp) (by simp) (by simp; exact wrap64 (by omega) (by omega)) ?_
     show subA _ (shH v s bs _ _ _ _ _ 3 (0 + 1)); unfold shH; rw [hq,hsp]; simp [encSh,rv,rb,encDf]
    ·have hne2:=range_ne (fun i=>encDf (shP bs i)) h0
     simp [shH,encSh,h',rv_ne hne,rb_ne hne,rv_ne hne2,rb_ne hne2]
     refine scall_pure sp_dfs (by simp) (by simp) ?_
     simp [hget,hb,hb']
     refine scall_pure hcall (by simp) (by simp) ?_
     simp [setDf_lit]
     rw [decide_eq_true (by omega)]
     simp
     rw [wrap64 (x:=(i:Int) + 1) (by omega) (by omega)]
     refine hL _ _ _ (i + 1,w2 + 1) (by simp; omega) (by simp; omega) (by simp) ?_
     show subA _ (shH v s bs _ _ _ _ _ 3 (i + 1)); unfold shH; rw [hq,hsp]; simp [encSh,rv,rb,encDf]
   ·have hb':¬ (i:Int) < bs.length:=by omega
    have hsp:shP bs i = ⟨nthB dsL i,.skip⟩:=by simp [shP,List.getElem?_eq_none (show bs.length ≤ i by omega)]
    by_cases h0:i = 0
    ·subst h0
     simp [shH,encSh,rv_ne hne,rb_ne hne]
     refine scall_pure sp_dfs (by simp) (by simp) ?_
     simp [hgt0,hb]
     refine hL _ _ _ (1,vt 55 + 1) (by simp) (by simp) (by simp; exact wrap64 (by omega) (by omega)) ?_
     show subA _ (shH v s bs _ _ _ _ _ 3 (0 + 1)); unfold shH; rw [hq,hsp]; simp [encSh,rv,rb,encDf_skip]
    ·have hne2:=range_ne (fun i=>encDf (shP bs i)) h0
     simp [shH,encSh,h',rv_ne hne,rb_ne hne,rv_ne hne2,rb_ne hne2]
     refine scall_pure sp_dfs (by simp) (by simp) ?_
     simp [hget,hb,hb']
     rw [decide_eq_true (by omega)]
     simp
     rw [wrap64 (x:=(i:Int) + 1) (by omega) (by omega)]
     refine hL _ _ _ (i + 1,w2 + 1) (by simp; omega) (by simp; omega) (by simp) ?_
     show subA _ (shH v s bs _ _ _ _ _ 3 (i + 1)); unfold shH; rw [hq,hsp]; simp [encSh,rv,rb,encDf_skip]
  ·have e:i = 5:=by omega
   subst e
   simp [-W31_k1]
   exact hk _ _ _
theorem hs_shm (v s:Int) (bs:List Rw3):Am.HSpecL Tryz.prog 31 [.agg (encSh v s bs)] [] fun r l'=>∃ w w2,r = .agg [.ref 28 w .o,.sl (encB ssL),.ref 55 w2 .o] ∧
  l' = [(28,.row w 121 2 ((shProg v bs).vars.map encVr)),(55,.row w2 82 9 ((shProg v bs).procs.map encDf))]:=by
 have hne:=range_ne (fun i=>encVr (shV v i)) (i:=3) (by omega)
 have hne2:=range_ne (fun i=>encDf (shP bs i)) (i:=5) (by omega)
 refine Am.HSpecL.of_W (W:=W31) Tryz.func31 (by kernel_rfl) (by kernel_rfl) (by kernel_rfl) Tryz.ntmps31 W31_eq (rs:=[.cell 2 76]) (by kernel_rfl) (by simp) ?_
 intro vs
 refine shm_walk v s bs _ vs (fun vt w w2=>?_)
 simp [shH,encSh,rv_ne hne,rb_ne hne,rv_ne hne2,rb_ne hne2]
 refine retHW_to [(28,.row w 121 2 ((shProg v bs).vars.map encVr)),(55,.row w2 82 9 ((shProg v bs).procs.map encDf))] ?_
 simp [shProg]
theorem sp_shm (v s:Int) (bs:List Rw3):Am.Spec Tryz.prog 31 [.agg (encSh v s bs)] (.agg (encProg (shProg v bs))):=by
 have hne:=range_ne (fun i=>encVr (shV v i)) (i:=3) (by omega)
 have hne2:=range_ne (fun i=>encDf (shP bs i)) (i:=5) (by omega)
 refine W31_S (by simp) ?_
 intro vs
 refine shm_walk v s bs _ vs (fun vt w w2=>?_)
 simp [shH,encSh,rv_ne hne,rb_ne hne,rv_ne hne2,rb_ne hne2,retW_eq,shProg,encProg]
end Go.Proofs.YtnngddgaobhkiaaGreat
namespace Go.Proofs.YtnngddgaobhkiaaGreat
open Go Go.Am Go.RowKit
attribute [local simp] W142 W142_rs W142_b1 W142_b2 W142_b3 W142_b6 W142_b11 W142_b16 W142_b25 W142_b41 W142_b42 W142_b43 W142_b44 W142_b45 W142_b47 W142_b48 W142_b49 W142_b50 W142_b51 W142_b54 W142_k46 W142_k52 W142_l57
def mayL (v0 v1 v2:Nat) (D:List ByteArray) (E X:List Bool):List (Nat × Blk):=
 [(0,.box v0 180 [.sl (encB D),.ref 1 v1 .o,.ref 2 v2 .o]),(1,.row v1 4 1 (encBo E)),(2,.row v2 4 1 (encBo X))]
def bt (D:List ByteArray) (E X:List Bool) (p:Pr) (i j:Nat):BB:=if j < i then p.bothAt D E X j else (false,false)
set_option maxHeartbeats 4000000 in
theorem bth_end (p:Pr) (v0 v1 v2 v3 v6 v7:Nat) (D:List ByteArray) (E X:List Bool) (hD:D.length ≤ 1000) (hE:E.length = D.length) (hX:X.length = D.length) (a1 a2 b1 b2:Bool) (T:List (Nat × AV)) (vt:Nat → Nat)
  (h0:Am.look T 0 = .ref 0 v0 (.p 0)) (h3:Am.look T 3 = .ref 3 v3 (.p 0)) (h6:Am.look T 6 = .ref 6 v6 (.p 0)) (h7:Am.look T 7 = .ref 7 v7 (.p 0)) :
  W142_k52 (retHK Tryz.prog [.tmp 4,.tmp 5] fun r l'=>r = .tup [.bool (bothK D E X p.kind p.name (a1,a2) (b1,b2)).1,.bool (bothK D E X p.kind p.name (a1,a2) (b1,b2)).2] ∧ l' = mayL v0 v1 v2 D E X)
   ⟨Am.look T,hls [(0,.box v0 180 [.sl (encB D),.ref 1 v1 .o,.ref 2 v2 .o]),(1,.row v1 4 1 (encBo E)),(2,.row v2 4 1 (encBo X)),(3,.box v3 80 (encPr p)),(6,.box v6 198 [.bool a1,.bool b1]),(7,.box v7 198 [.bool a2,.bool b2])] vt,noG⟩:=by
 simp [look_ins,h0,h3,h6,h7]
 have cs:p.kind = 1 ∨ p.kind = 8 ∨ p.kind = 4 ∨ p.kind = 7 ∨ p.kind = 9 ∨ p.kind = 10 ∨ p.kind = 11 ∨ p.kind = 12 ∨ p.kind = 13 ∨ (p.kind ≠ 1 ∧ p.kind ≠ 8 ∧ p.kind ≠ 4 ∧ p.kind ≠ 7 ∧ p.kind ≠ 9 ∧ p.kind ≠ 10 ∧ p.kind ≠ 11 ∧ p.kind ≠ 12 ∧ p.kind ≠ 13):=by omega
 rcases cs with k | k | k | k | k | k | k | k | k | ⟨k1,k2,k3,k4,k5,k6,k7,k8,k9⟩
 ·simp [look_ins,h0,h3,h6,h7,k]
  (refine retHW_to (mayL v0 v1 v2 D E X) ?_; simp [look_ins,h0,h3,h6,h7,mayL,bothK,k])
 ·simp [look_ins,h0,h3,h6,h7,k]
  (refine retHW_to (mayL v0 v1 v2 D E X) ?_; simp [look_ins,h0,h3,h6,h7,mayL,bothK,k])
 ·simp [look_ins,h0,h3,h6,h7,k]
  (refine retHW_to (mayL v0 v1 v2 D E X) ?_; simp [look_ins,h0,h3,h6,h7,mayL,bothK,k])
 ·cases a1
  ·simp [look_ins,h0,h3,h6,h7,k]
   (refine retHW_to (mayL v0 v1 v2 D E X) ?_; simp [look_ins,h0,h3,h6,h7,mayL,bothK,k])
  ·simp [look_ins,h0,h3,h6,h7,k]
   (refine retHW_to (mayL v0 v1 v2 D E X) ?_; simp [look_ins,h0,h3,h6,h7,mayL,bothK,k])
 ·cases a1 <;> cases a2
  all_goals simp [look_ins,h0,h3,h6,h7,k]
  all_goals (refine retHW_to (mayL v0 v1 v2 D E X) ?_; simp [look_ins,h0,h3,h6,h7,mayL,bothK,k])
 ·cases a1 <;> cases a2
  all_goals simp [look_ins,h0,h3,h6,h7,k]
  all_goals (refine retHW_to (mayL v0 v1 v2 D E X) ?_; simp [look_ins,h0,h3,h6,h7,mayL,bothK,k])
 ·cases a1 <;> cases a2
  all_goals simp [look_ins,h0,h3,h6,h7,k]
  all_goals (refine retHW_to (mayL v0 v1 v2 D E X) ?_; simp [look_ins,h0,h3,h6,h7,mayL,bothK,k])
 ·cases a1 <;> cases a2
  all_goals simp [look_ins,h0,h3,h6,h7,k]
  all_goals (refine retHW_to (mayL v0 v1 v2 D E X) ?_; simp [look_ins,h0,h3,h6,h7,mayL,bothK,k])
 ·simp [look_ins,h0,h3,h6,h7,k]
  refine scall0_pure (sp_fnd D p.name (by omega)) (by simp) (by simp) ?_
  have i1:=idxB_ge D p.name
  have i2:=idxB_lt D p.name
  by_cases hi0:0 ≤ idxB D p.name
  ·obtain ⟨q,hq⟩:∃ q:Nat,idxB D p.name = q:=⟨(idxB D p.name).toNat,by omega⟩
   have hqE:q < E.length:=by omega
   have hqX:q < X.length:=by omega
   rw [hq]
   simp [look_ins,h0,h3,h6,h7,encBo_get,List.getElem?_eq_getElem hqE,List.getElem?_eq_getElem hqX,hqE,hqX]
   refine retHW_to (mayL v0 v1 v2 D E X) ?_
   simp [look_ins,h0,h3,h6,h7,mayL,bothK,hq,k,List.getElem?_eq_getElem hqE,List.getElem?_eq_getElem hqX]
  ·simp [look_ins,h0,h3,h6,h7,hi0]
   refine retHW_to (mayL v0 v1 v2 D E X) ?_
   simp [look_ins,h0,h3,h6,h7,mayL,bothK,hi0,k]
 ·simp [look_ins,h0,h3,h6,h7,k1,k2,k3,k4,k5,k6,k7,k8,k9]
  refine retHW_to (mayL v0 v1 v2 D E X) ?_
  simp [look_ins,h0,h3,h6,h7,mayL,bothK,k1,k2,k3,k4,k5,k6,k7,k8,k9]
set_option maxHeartbeats 4000000 in
theorem hs_bth (p:Pr) (v0 v1 v2:Nat) (D:List ByteArray) (E X:List Bool) (hD:D.length ≤ 1000) (hE:E.length = D.length) (hX:X.length = D.length) :
  Am.HSpecL Tryz.prog 142 [.ref 0 v0 (.p 0),.agg (encPr p)] (mayL v0 v1 v2 D E X) fun r l'=>r = .tup [.bool (p.both D E X).1,.bool (p.both D E X).2] ∧ l' = mayL v0 v1 v2 D E X:=by
 have ih:∀ y ∈ p.l,Am.HSpecL Tryz.prog 142 [.ref 0 v0 (.p 0),.agg (encPr y)] (mayL v0 v1 v2 D E X) fun r l'=>r = .tup [.bool (y.both D E X).1,.bool (y.both D E X).2] ∧ l' = mayL v0 v1 v2 D E X:=
  fun y hy=>hs_bth y v0 v1 v2 D E X hD hE hX
 have h1000:(D.length:Int) ≤ 1000:=by omega
 refine Am.HSpecL.of_W (W:=W142) Tryz.func142 (by kernel_rfl) (by kernel_rfl) (by kernel_rfl) Tryz.ntmps142 W142_eq (rs:=[.tmp 4,.tmp 5]) (by kernel_rfl) (by simp) ?_
 intro vs
 simp [mayL]
 refine sLoop_intro (fun i=>i ≤ 2 ∧ i ≤ p.l.length) (fun i=>2 - i) (fun i=>[(0,.ref 0 v0 (.p 0)),(3,.ref 3 (vs 3 + 1) (.p 0)),(6,.ref 6 (vs 6 + 1) (.p 0)),(7,.ref 7 (vs 7 + 1) (.p 0)),(8,.int .i64 (i:Nat))])
  (fun i=>mayL v0 v1 v2 D E X ++ [(3,.box (vs 3 + 1) 80 (encPr p)),(6,.box (vs 6 + 1) 198 [.bool (bt D E X p i 0).1,.bool (bt D E X p i 1).1]),(7,.box (vs 7 + 1) 198 [.bool (bt D E X p i 0).2,.bool (bt D E X p i 1).2])])
  0 (by simp) (by simp) (by simp [mayL,bt]) ?_
 rintro L i vt ⟨hi,hi2⟩ hL
 by_cases hc:i < p.l.length ∧ i < 2
 ·obtain ⟨hc1,hc2⟩:=hc
  have hb:p.bothAt D E X i = p.l[i].both D E X:=by simp [Pr.bothAt,hc1]
  have hih:=ih _ (List.getElem_mem hc1)
  have hi01:i = 0 ∨ i = 1:=by omega
  rcases hi01 with rfl | rfl
  ·simp [mayL,hc1]
   refine scall_heap [(0,0),(1,1),(2,2)] [] hih (by simp) (by simp [mayL]) (by simp) ?_
   intro r l' VS' hrl
   rw [hrl.1,hrl.2]
   refine ⟨by simp [mayL],?_⟩
   simp [mayL]
   rw [wrap64 (by omega) (by omega)]
   exact hL _ _ _ 1 ⟨by omega,by omega⟩ (by omega) (by simp) (by simp [mayL,bt,hb])
  ·have hc1':(1:Int) < p.l.length:=by omega
   simp [mayL,hc1,hc1']
   refine scall_heap [(0,0),(1,1),(2,2)] [] hih (by simp) (by simp [mayL]) (by simp) ?_
   intro r l' VS' hrl
   rw [hrl.1,hrl.2]
   refine ⟨by simp [mayL],?_⟩
   simp [mayL]
   rw [wrap64 (by omega) (by omega)]
   exact hL _ _ _ 2 ⟨by omega,by omega⟩ (by omega) (by simp) (by simp [mayL,bt,hb])
 ·have e0:bt D E X p i 0 = p.bothAt D E X 0:=by
   unfold bt
   split
   ·rfl
   ·unfold Pr.bothAt; rw [List.getElem?_eq_none (by omega)]; rfl
  have e1:bt D E X p i 1 = p.bothAt D E X 1:=by
   unfold bt
   split
   ·rfl
   ·unfold Pr.bothAt; rw [List.getElem?_eq_none (by omega)]; rfl
  have hbe:=p.both_eq D E X
  rw [e0,e1,hbe]
  clear hL ih hbe e0 e1
  generalize p.bothAt D E X 0 = a12
  generalize p.bothAt D E X 1 = b12
  obtain ⟨a1,a2⟩:=a12
  obtain ⟨b1,b2⟩:=b12
  by_cases hl:p.l.length ≤ i
  ·have hl':¬ i < p.l.length:=by omega
   simp [-W142_k52,mayL,hl']
   refine bth_end p v0 v1 v2 _ _ _ D E X hD hE hX a1 a2 b1 b2 _ _ ?_ ?_ ?_ ?_ <;> simp
  ·have hl':i < p.l.length:=by omega
   have hl2:¬ (i:Int) < 2:=by omega
   simp [-W142_k52,mayL,hl',hl2]
   refine bth_end p v0 v1 v2 _ _ _ D E X hD hE hX a1 a2 b1 b2 _ _ ?_ ?_ ?_ ?_ <;> simp
termination_by SizeOf.sizeOf p
decreasing_by exact Pr.lt_of_mem hy
end Go.Proofs.YtnngddgaobhkiaaGreat
namespace Go.Proofs.YtnngddgaobhkiaaGreat
open Go Go.Am Go.RowKit
attribute [local simp] W128 W128_rs W128_b1 W128_b3 W128_b5 W128_b8 W128_b10 W128_b12 W128_b13 W128_l11
def frnL (v0 v1 v2 v3:Nat) (D:List ByteArray) (E X is:List Bool):List (Nat × Blk):=mayL v0 v1 v2 D E X ++ [(3,.row v3 4 1 (encBo is))]
set_option maxHeartbeats 4000000 in
theorem hs_frn (p:Pr) (v0 v1 v2 v3:Nat) (D:List ByteArray) (E X is:List Bool) (hD:D.length ≤ 1000) (hE:E.length = D.length) (hX:X.length = D.length) (hi:is.length = D.length) (hok:p.okS = true) (hpl:p.wt ≤ 137438953472) :
  Am.HSpecL Tryz.prog 128 [.ref 0 v0 (.p 0),.agg (encPr p),.ref 3 v3 .o] (frnL v0 v1 v2 v3 D E X is) fun r l'=>r = .tup [] ∧ l' = frnL v0 v1 v2 v3 D E X (p.front D E X is):=by
 have hwt:=p.wt_eq
 have hlw:=Pr.wts_len p.l
 have ih:∀ y ∈ p.l,∀ is:List Bool,is.length = D.length → Am.HSpecL Tryz.prog 128 [.ref 0 v0 (.p 0),.agg (encPr y),.ref 3 v3 .o] (frnL v0 v1 v2 v3 D E X is) fun r l'=>r = .tup [] ∧ l' = frnL v0 v1 v2 v3 D E X (y.front D E X is):=
  fun y hy is hi=>hs_frn y v0 v1 v2 v3 D E X is hD hE hX hi (Pr.okS_mem hok y hy) (by have:=Pr.wts_mem hy; omega)
 have hfr:=p.front_eq D E X is
 by_cases k13:p.kind = 13
 ·rw [if_pos k13] at hfr
  refine Am.HSpecL.of_W (W:=W128) Tryz.func128 (by kernel_rfl) (by kernel_rfl) (by kernel_rfl) Tryz.ntmps128 W128_eq (rs:=[]) (by kernel_rfl) (by simp) ?_
  intro vs
  simp [frnL,mayL,k13]
  refine scall0_pure (sp_fnd D p.name (by omega)) (by simp) (by simp) ?_
  have i1:=idxB_ge D p.name
  have i2:=idxB_lt D p.name
  by_cases hi0:0 ≤ idxB D p.name
  ·obtain ⟨q,hq⟩:∃ q:Nat,idxB D p.name = q:=⟨(idxB D p.name).toNat,by omega⟩
   have hqi:q < is.length:=by omega
   rw [hq] at hfr ⊢
   simp [hqi]
   refine retHW_to (frnL v0 v1 v2 v3 D E X (p.front D E X is)) ?_
   simp [frnL,mayL,hfr]
  ·simp [hi0]
   rw [if_neg hi0] at hfr
   refine retHW_to (frnL v0 v1 v2 v3 D E X (p.front D E X is)) ?_
   simp [frnL,mayL,hfr]
 ·by_cases k12:p.kind = 12
  ·have hl2:=Pr.okS_two hok k12
   obtain ⟨x,y,hl⟩:∃ x y,p.l = [x,y]:=by
    rcases hl:p.l with _ | ⟨x,_ | ⟨y,_ | ⟨z,r⟩⟩⟩ <;> simp [hl] at hl2
    exact ⟨x,y,rfl⟩
   rw [if_neg k13,if_pos k12,hl,Pr.frontS] at hfr
   have ix:=ih x (by simp [hl]) is hi
   have iy:=ih y (by simp [hl]) (x.front D E X is) (by rw [Pr.front_len]; exact hi)
   have hb:=hs_bth x v0 v1 v2 D E X hD hE hX
   generalize x.front D E X is = is1 at *
   generalize x.both D E X = bb at *
   obtain ⟨b1,b2⟩:=bb
   refine Am.HSpecL.of_W (W:=W128) Tryz.func128 (by kernel_rfl) (by kernel_rfl) (by kernel_rfl) Tryz.ntmps128 W128_eq (rs:=[]) (by kernel_rfl) (by simp) ?_
   intro vs
   simp [frnL,mayL,k12,hl]
   refine scall_heap [(0,0),(1,1),(2,2),(3,3)] [] ix (by simp) (by simp [frnL,mayL]) (by simp) ?_
   intro r l' VS' hrl
   rw [hrl.1,hrl.2]
   refine ⟨by simp [frnL,mayL],?_⟩
   simp [frnL,mayL,hl]
   refine scall_heap [(0,0),(1,1),(2,2)] [] hb (by simp) (by simp [frnL,mayL]) (by simp) ?_
   intro r l' VS' hrl
   rw [hrl.1,hrl.2]
   refine ⟨by simp [frnL,mayL],?_⟩
   cases b1
   ·simp [frnL,mayL,hl]
    refine retHW_to (frnL v0 v1 v2 v3 D E X (p.front D E X is)) ?_
    simp [frnL,mayL,hfr]
   ·simp [frnL,mayL,hl]
    refine scall_heap [(0,0),(1,1),(2,2),(3,3)] [] iy (by simp) (by simp [frnL,mayL]) (by simp) ?_
    intro r l' VS' hrl
    rw [hrl.1,hrl.2]
    refine ⟨by simp [frnL,mayL],?_⟩
    simp [frnL,mayL,hl]
    refine retHW_to (frnL v0 v1 v2 v3 D E X (p.front D E X is)) ?_
    simp [frnL,mayL,hfr]
  ·rw [if_neg k13,if_neg k12] at hfr
   refine Am.HSpecL.of_W (W:=W128) Tryz.func128 (by kernel_rfl) (by kernel_rfl) (by kernel_rfl) Tryz.ntmps128 W128_eq (rs:=[]) (by kernel_rfl) (by simp) ?_
   intro vs
   simp [frnL,mayL,k13,k12]
   refine sLoop_intro (fun i=>i ≤ p.l.length) (fun i=>p.l.length - i) (fun i=>[(0,.ref 0 v0 (.p 0)),(2,.ref 3 v3 .o),(4,.ref 4 (vs 4 + 1) (.p 0)),(9,.int .i64 (i:Nat))])
    (fun i=>frnL v0 v1 v2 v3 D E X (Pr.frontL D E X (p.l.take i) is) ++ [(4,.box (vs 4 + 1) 80 (encPr p))]) 0 (by simp) (by simp) (by simp [frnL,mayL,Pr.frontL]) ?_
   intro L i vt hil hL
   by_cases h:i < p.l.length
   ·have hx:=ih p.l[i] (List.getElem_mem h) (Pr.frontL D E X (p.l.take i) is) (by rw [Pr.frontL_len]; exact hi)
    have ht:=Pr.frontL_take D E X p.l is i h
    have h':(i:Int) < p.l.length:=by omega
    simp [frnL,mayL,h]
    refine scall_heap [(0,0),(1,1),(2,2),(3,3)] [] hx (by simp) (by simp [frnL,mayL]) (by simp) ?_
    intro r l' VS' hrl
    rw [hrl.1,hrl.2]
    refine ⟨by simp [frnL,mayL],?_⟩
    simp [frnL,mayL]
    rw [wrap64 (by omega) (by omega)]
    exact hL _ _ _ (i + 1) h (by omega) (by simp) (by simp [frnL,mayL,ht])
   ·have e:p.l.take i = p.l:=List.take_of_length_le (by omega)
    rw [e]
    simp [frnL,mayL,h]
    refine retHW_to (frnL v0 v1 v2 v3 D E X (p.front D E X is)) ?_
    simp [frnL,mayL,hfr]
termination_by SizeOf.sizeOf p
decreasing_by exact Pr.lt_of_mem hy
end Go.Proofs.YtnngddgaobhkiaaGreat
namespace Go.Proofs.YtnngddgaobhkiaaGreat
open Go Go.Am Go.RowKit
attribute [local simp] W127 W127_rs W127_k1 W127_k2 W127_b5 W127_b26 W127_b28 W127_l27 W127_l29
def mayK (k0 k1 k2 v0 v1 v2:Nat) (D:List ByteArray) (E X:List Bool):List (Nat × Blk):=
 [(k0,.box v0 180 [.sl (encB D),.ref k1 v1 .o,.ref k2 v2 .o]),(k1,.row v1 4 1 (encBo E)),(k2,.row v2 4 1 (encBo X))]
theorem stl_pass (p:Prog) (hn:p.procs.length ≤ 1000) (v1 v23 v18 v21:Nat) (E X:List Bool) (hE:E.length = p.procs.length) (hX:X.length = p.procs.length) (Ψ:Exit → St → Prop) (L0:St → Prop)
  (hk:∀ T H vs st,st = stlF p.D (p.procs.map (·.body)) 0 (E,X,false) → Am.subT T [(1,.ref 1 v1 (.p 0)),(4,.sl (encB p.D)),(5,.ref 23 v23 (.p 0)),(6,.bool st.2.2)] →
   subA H ((1,.box v1 76 (encProg p)) :: mayK 23 18 21 v23 v18 v21 p.D st.1 st.2.1) → L0 ⟨Am.look T,hls H vs,noG⟩)
  (T:List (Nat × AV)) (H:List (Nat × Blk)) (vs:Nat → Nat) (hT:Am.subT T [(1,.ref 1 v1 (.p 0)),(4,.sl (encB p.D)),(5,.ref 23 v23 (.p 0)),(6,.bool false),(7,.int .i64 0)])
  (hH:subA H ((1,.box v1 76 (encProg p)) :: mayK 23 18 21 v23 v18 v21 p.D E X)) :
  @sLoop ⟨Am.look T,hls H vs,noG⟩ ⟨fun L1 s=>W127_l27 Ψ L0 L1 s⟩:=by
 have hD:p.D.length = p.procs.length:=by simp [Prog.D]
 refine sLoop_intro (fun a:Nat × EXB=>a.1 ≤ p.procs.length ∧ a.2 = stlF p.D ((p.procs.map (·.body)).take a.1) 0 (E,X,false)) (fun a=>p.procs.length - a.1)
  (fun a=>[(1,.ref 1 v1 (.p 0)),(4,.sl (encB p.D)),(5,.ref 23 v23 (.p 0)),(6,.bool a.2.2.2),(7,.int .i64 (a.1:Nat))])
  (fun a=>(1,.box v1 76 (encProg p)) :: mayK 23 18 21 v23 v18 v21 p.D a.2.1 a.2.2.1) (0,(E,X,false)) (by simp [stlF]) (by simpa using hT) (by simpa using hH) ?_
 rintro L ⟨i,E',X',ag⟩ vt ⟨hi,hst⟩ hL
 simp only at hi hst hL ⊢
 by_cases h:i < p.procs.length
 ·have hcf:=stlF_cf p.D ((p.procs.map (·.body)).take i) 0 (E,X,false) (by simp; omega) (by simp; omega)
  rw [← hst] at hcf
  simp only at hcf
  have hE':E'.length = p.procs.length:=by omega
  have hX':X'.length = p.procs.length:=by omega
  have hb:=hs_bth p.procs[i].body v23 v18 v21 p.D E' X' (by omega) (by omega) (by omega)
  have hnext:=stlF_take p.D (p.procs.map (·.body)) (E,X,false) i 0 (by simpa using h)
  rw [← hst] at hnext
  simp only [List.getElem_map,stlI,Nat.zero_add] at hnext
  generalize p.procs[i].body.both p.D E' X' = bb at *
  obtain ⟨b1,b2⟩:=bb
  have hiE:i < E'.length:=by omega
  have hiX:i < X'.length:=by omega
  obtain ⟨e1,he1⟩:∃ b,E'[i] = b:=⟨_,rfl⟩
  obtain ⟨x1,hx1⟩:∃ b,X'[i] = b:=⟨_,rfl⟩
  have hdE:E'.getD i false = e1:=by rw [List.getD_eq_getElem?_getD,List.getElem?_eq_getElem hiE,he1]; rfl
  have hdX:X'.getD i false = x1:=by rw [List.getD_eq_getElem?_getD,List.getElem?_eq_getElem hiX,hx1]; rfl
  rw [hdE,hdX] at hnext
  have hi':(i:Int) < p.procs.length:=by omega
  simp [mayK,hD,h,encProg]
  refine scall_heap [(23,0),(18,1),(21,2)] [] hb (by simp) (by simp [mayL]) (by simp) ?_
  intro r l' VS' hrl
  rw [hrl.1,hrl.2]
  refine ⟨by simp [mayL],?_⟩
  have go:∀ T H vs st,st = stlF p.D ((p.procs.map (·.body)).take (i + 1)) 0 (E,X,false) → Am.subT T [(1,.ref 1 v1 (.p 0)),(4,.sl (encB p.D)),(5,.ref 23 v23 (.p 0)),(6,.bool st.2.2),(7,.int .i64 (i + 1:Nat))] →
   subA H ((1,.box v1 76 (encProg p)) :: mayK 23 18 21 v23 v18 v21 p.D st.1 st.2.1) → L ⟨Am.look T,hls H vs,noG⟩:=fun T H vs st e h1 h2=>hL T H vs (i + 1,st) ⟨h,e⟩ (by simp; omega) h1 h2
  clear hL hb
  cases b1 <;> cases b2 <;> cases e1 <;> cases x1
  all_goals
   simp at hnext
   simp [mayL,hiE,hiX,he1,hx1]
   rw [wrap64 (by omega) (by omega)]
   refine go _ _ _ _ hnext.symm ?_ ?_
   ·simp
   ·simp [mayK,encProg]
 ·have e:(p.procs.map (·.body)).take i = p.procs.map (·.body):=List.take_of_length_le (by simp; omega)
  rw [e] at hst
  simp [mayK,hD,h]
  refine hk _ _ _ (E',X',ag) hst ?_ ?_
  ·simp
  ·simp [mayK]
theorem hs_stl (p:Prog) (hv:p.vars.length ≤ 1000) (hn:p.procs.length ≤ 1000) :
  Am.HSpecL Tryz.prog 127 [.agg (encProg p)] [] fun r l'=>∃ v0 v1 v2,r = .ref 23 v0 (.p 0) ∧ l' = mayK 23 18 21 v0 v1 v2 p.D p.stl.1 p.stl.2:=by
 have hD:p.D.length = p.procs.length:=by simp [Prog.D]
 have hr0:∀ n:Nat,List.replicate n [AV.bool false] = encBo (List.replicate n false):=fun n=>encBo_rep n false
 refine Am.HSpecL.of_W (W:=W127) Tryz.func127 (by kernel_rfl) (by kernel_rfl) (by kernel_rfl) Tryz.ntmps127 W127_eq (rs:=[.tmp 2]) (by kernel_rfl) (by simp) ?_
 intro vs
 simp
 refine scall_pure (sp_nms p hv hn) (by simp [encProg]) (by simp [encProg]) ?_
 simp [hD,hr0]
 rw [decide_eq_true (by omega),decide_eq_true (by simp only [maxLen]; omega)]
 simp [-W127_l29,hD,hr0]
 rw [decide_eq_true (by omega),decide_eq_true (by simp only [maxLen]; omega)]
 simp [-W127_l29,hD,hr0]
 refine sLoop_intro (fun a:EXB=>a.1.length = p.procs.length ∧ a.2.1.length = p.procs.length ∧ p.stl = if a.2.2 then stl p.D (p.procs.map (·.body)) a.1 a.2.1 else (a.1,a.2.1)) (fun a=>if a.2.2 then cf a.1 + cf a.2.1 + 1 else 0)
  (fun a=>[(1,.ref 1 (vs 1 + 1) (.p 0)),(4,.sl (encB p.D)),(5,.ref 23 (vs 23 + 1) (.p 0)),(6,.bool a.2.2)])
  (fun a=>(1,.box (vs 1 + 1) 76 (encProg p)) :: mayK 23 18 21 (vs 23 + 1) (vs 18 + 1) (vs 21 + 1) p.D a.1 a.2.1) (List.replicate p.procs.length false,List.replicate p.procs.length false,true) (by simp [Prog.stl]) (by simp) (by simp [mayK,encProg]) ?_
 rintro L ⟨E,X,ag⟩ vt ⟨hE,hX,hst⟩ hL
 simp only at hE hX hst hL ⊢
 cases ag
 ·simp at hst
  simp [mayK]
  refine retHW_to (mayK 23 18 21 (vs 23 + 1) (vs 18 + 1) (vs 21 + 1) p.D p.stl.1 p.stl.2) ?_
  simp [mayK,hst]
 ·simp at hst
  have hc:=stlF_cf p.D (p.procs.map (·.body)) 0 (E,X,false) (by simp; omega) (by simp; omega)
  simp [-W127_l27,mayK]
  refine stl_pass p hn (vs 1 + 1) (vs 23 + 1) (vs 18 + 1) (vs 21 + 1) E X hE hX _ _ ?_ _ _ _ (by simp) (by simp [mayK])
  rintro T H vs2 ⟨E',X',ag'⟩ hs hT hH
  rw [← hs] at hc
  simp only at hc hT hH
  refine hL T H vs2 (E',X',ag') ⟨by simp only; omega,by simp only; omega,?_⟩ ?_ (by simpa using hT) (by simpa using hH)
  ·rw [hst]
   cases ag'
   ·rw [stl_end (by rw [← hs]),← hs]
    rfl
   ·rw [stl_again (by simp; omega) (by simp; omega) (by rw [← hs]),← hs]
    rfl
  ·cases ag'
   ·simp
   ·have:=hc.2.2.2 rfl
    simp at this ⊢
    omega
end Go.Proofs.YtnngddgaobhkiaaGreat
namespace Go.Proofs.YtnngddgaobhkiaaGreat
open Go Go.Am Go.RowKit
attribute [local simp] W98 W98_rs W98_k1 W98_b3 W98_l4
def gb:Nat → List (Nat × List Bool) → List (Nat × Blk)
 | _,[]=>[]
 | k,(v,r) :: l=>(k,.row v 4 1 (encBo r)) :: gb (k + 1) l
def gr:Nat → List (Nat × List Bool) → List (List AV)
 | _,[]=>[]
 | k,(v,_) :: l=>[.ref k v .o] :: gr (k + 1) l
def grid (k w:Nat) (l:List (Nat × List Bool)):List (Nat × Blk):=(if l = [] then [] else [(k,.row w 157 1 (gr 1000 l))]) ++ gb 1000 l
def gv (k w:Nat) (l:List (Nat × List Bool)):AV:=if l = [] then .nils else .ref k w .o
set_option maxHeartbeats 4000000 in
theorem fro_body (p:Prog) (v1 v0 va vb:Nat) (E X:List Bool) (hn:p.procs.length = 5) (hE:E.length = 5) (hX:X.length = 5) (hok:∀ d ∈ p.procs,d.body.okS = true ∧ d.body.wt ≤ 137438953472) (hst:p.stl = (E,X))
  (Φ:Exit → St → Prop) (L:St → Prop) (w:Nat) (l:List (Nat × List Bool)) (hl:l.length < 5) (hf:l.map (·.2) = p.fronts.take l.length)
  (hL:∀ T H vs w' l',l'.length = l.length + 1 → l'.map (·.2) = p.fronts.take (l.length + 1) → Am.subT T [(1,.ref 1 v1 (.p 0)),(3,.ref 2000 v0 (.p 0)),(4,gv 36 w' l'),(5,.int .i64 (l.length + 1:Nat))] →
   subA H ((1,.box v1 76 (encProg p)) :: (mayK 2000 2001 2002 v0 va vb p.D E X ++ grid 36 w' l')) → L ⟨Am.look T,hls H vs,noG⟩) (vt:Nat → Nat) :
  W98_l4 Φ L ⟨Am.look [(1,.ref 1 v1 (.p 0)),(3,.ref 2000 v0 (.p 0)),(4,gv 36 w l),(5,.int .i64 (l.length:Nat))],hls ((1,.box v1 76 (encProg p)) :: (mayK 2000 2001 2002 v0 va vb p.D E X ++ grid 36 w l)) vt,noG⟩:=by
 have hD:p.D.length = 5:=by simp [Prog.D,hn]
 have hi:l.length < p.procs.length:=by omega
 have hft:p.fronts.take (l.length + 1) = p.fronts.take l.length ++ [p.procs[l.length].body.front p.D E X (List.replicate 5 false)]:=by
  have:=take_map_succ (fun d:Dfn=>d.body.front p.D p.stl.1 p.stl.2 (List.replicate p.procs.length false)) p.procs l.length hi
  rw [hst,hn] at this
  unfold Prog.fronts
  rw [hst,hn]
  exact this
 have hfr:=fun (j:Nat) (hj:j < p.procs.length) v3=>hs_frn p.procs[j].body v0 va vb v3 p.D E X (List.replicate 5 false) (by omega) (by omega) (by omega) (by simp [hD]) (hok _ (List.getElem_mem hj)).1 (hok _ (List.getElem_mem hj)).2
 rw [← hf] at hft
 rcases l with _ | ⟨⟨a,ra⟩,_ | ⟨⟨b,rb'⟩,_ | ⟨⟨c,rc⟩,_ | ⟨⟨e,re⟩,_ | ⟨⟨f,rf'⟩,l⟩⟩⟩⟩⟩
 ·have h0:0 < p.procs.length:=by omega
  simp at hft hf
  have hr:=hfr 0 h0 (vt 1000 + 1)
  simp [mayK,grid,gb,gr,gv,hD]
  refine sMks_key _ 1000 ?_
  simp [maxLen,hn]
  refine scall_heap [(2000,0),(2001,1),(2002,2),(1000,3)] [] hr (by simp) (by simp [frnL,mayL,encBo]) (by simp) ?_
  intro r l' VS' hrl
  rw [hrl.1,hrl.2]
  refine ⟨by simp [frnL,mayL],?_⟩
  simp [frnL,mayL]
  refine sLit_r _ _ ?_
  simp
  rw [wrap64 (by omega) (by omega)]
  refine hL _ _ _ (VS' 36 + 1) [(vt 1000 + 1,p.procs[0].body.front p.D E X (List.replicate 5 false))] (by simp) (by simpa using hft.symm) ?_ ?_
  ·simp [gv]
  ·simp [mayK,grid,gb,gr]
 ·have h1:1 < p.procs.length:=by omega
  simp at hft hf
  have hr:=hfr 1 h1 (vt 1001 + 1)
  simp [mayK,grid,gb,gr,gv,hD]
  refine sMks_key _ 1001 ?_
  simp [maxLen,hn]
  refine scall_heap [(2000,0),(2001,1),(2002,2),(1001,3)] [] hr (by simp) (by simp [frnL,mayL,encBo]) (by simp) ?_
  intro r l' VS' hrl
  rw [hrl.1,hrl.2]
  refine ⟨by simp [frnL,mayL],?_⟩
  simp [frnL,mayL]
  refine sLit_r _ _ ?_
  simp
  rw [wrap64 (by omega) (by omega)]
  refine hL _ _ _ (w + 1) [(a,ra),(vt 1001 + 1,p.procs[1].body.front p.D E X (List.replicate 5 false))] (by simp) (by simpa using hft.symm) ?_ ?_
  ·simp [gv]
  ·simp [mayK,grid,gb,gr]
 ·have h2:2 < p.procs.length:=by omega
  simp at hft hf
  have hr:=hfr 2 h2 (vt 1002 + 1)
  simp [mayK,grid,gb,gr,gv,hD]
  refine sMks_key _ 1002 ?_
  simp [maxLen,hn]
  refine scall_heap [(2000,0),(2001,1),(2002,2),(1002,3)] [] hr (by simp) (by simp [frnL,mayL,encBo]) (by simp) ?_
  intro r l' VS' hrl
  rw [hrl.1,hrl.2]
  refine ⟨by simp [frnL,mayL],?_⟩
  simp [frnL,mayL]
  refine sLit_r _ _ ?_
  simp
  rw [wrap64 (by omega) (by omega)]
  refine hL _ _ _ (w + 1) [(a,ra),(b,rb'),(vt 1002 + 1,p.procs[2].body.front p.D E X (List.replicate 5 false))] (by simp) (by simpa using hft.symm) ?_ ?_
  ·simp [gv]
  ·simp [mayK,grid,gb,gr]
 ·have h3:3 < p.procs.length:=by omega
  simp at hft hf
  have hr:=hfr 3 h3 (vt 1003 + 1)
  simp [mayK,grid,gb,gr,gv,hD]
  refine sMks_key _ 1003 ?_
  simp [maxLen,hn]
  refine scall_heap [(2000,0),(2001,1),(2002,2),(1003,3)] [] hr (by simp) (by simp [frnL,mayL,encBo]) (by simp) ?_
  intro r l' VS' hrl
  rw [hrl.1,hrl.2]
  refine ⟨by simp [frnL,mayL],?_⟩
  simp [frnL,mayL]
  refine sLit_r _ _ ?_
  simp
  rw [wrap64 (by omega) (by omega)]
  refine hL _ _ _ (w + 1) [(a,ra),(b,rb'),(c,rc),(vt 1003 + 1,p.procs[3].body.front p.D E X (List.replicate 5 false))] (by simp) (by simpa using hft.symm) ?_ ?_
  ·simp [gv]
  ·simp [mayK,grid,gb,gr]
 ·have h4:4 < p.procs.length:=by omega
  simp at hft hf
  have hr:=hfr 4 h4 (vt 1004 + 1)
  simp [mayK,grid,gb,gr,gv,hD]
  refine sMks_key _ 1004 ?_
  simp [maxLen,hn]
  refine scall_heap [(2000,0),(2001,1),(2002,2),(1004,3)] [] hr (by simp) (by simp [frnL,mayL,encBo]) (by simp) ?_
  intro r l' VS' hrl
  rw [hrl.1,hrl.2]
  refine ⟨by simp [frnL,mayL],?_⟩
  simp [frnL,mayL]
  refine sLit_r _ _ ?_
  simp
  rw [wrap64 (by omega) (by omega)]
  refine hL _ _ _ (w + 1) [(a,ra),(b,rb'),(c,rc),(e,re),(vt 1004 + 1,p.procs[4].body.front p.D E X (List.replicate 5 false))] (by simp) (by simpa using hft.symm) ?_ ?_
  ·simp [gv]
  ·simp [mayK,grid,gb,gr]
 ·simp at hl
  omega
theorem hs_fro (p:Prog) (hv:p.vars.length ≤ 1000) (hn:p.procs.length = 5) (hok:∀ d ∈ p.procs,d.body.okS = true ∧ d.body.wt ≤ 137438953472) :
  Am.HSpecL Tryz.prog 98 [.agg (encProg p)] [] fun r l'=>∃ w l,l.map (·.2) = p.fronts ∧ r = .ref 36 w .o ∧ l' = grid 36 w l:=by
 have hD:p.D.length = 5:=by simp [Prog.D,hn]
 have hfl:p.fronts.length = 5:=by simp [Prog.fronts,hn]
 have hlen:p.stl.1.length = 5 ∧ p.stl.2.length = 5:=by
  have:=stl_len p.D (p.procs.map (·.body)) (List.replicate p.procs.length false) (List.replicate p.procs.length false) (by simp) (by simp)
  rw [List.length_replicate,hn] at this
  unfold Prog.stl
  rw [hn]
  exact this
 refine Am.HSpecL.of_W (W:=W98) Tryz.func98 (by kernel_rfl) (by kernel_rfl) (by kernel_rfl) Tryz.ntmps98 W98_eq (rs:=[.tmp 2]) (by kernel_rfl) (by simp) ?_
 intro vs
 simp
 refine scall_heap [] [(2000,23),(2001,18),(2002,21)] (hs_stl p hv (by omega)) (by simp) (by simp) (by simp) ?_
 rintro r l' VS' ⟨v0,va,vb,hr,hl'⟩
 rw [hr,hl']
 refine ⟨by simp [mayK],?_⟩
 simp [-W98_l4,mayK]
 refine sLoop_intro (fun a:Nat × List (Nat × List Bool)=>a.2.length ≤ 5 ∧ a.2.map (·.2) = p.fronts.take a.2.length) (fun a=>5 - a.2.length)
  (fun a=>[(1,.ref 1 (vs 1 + 1) (.p 0)),(3,.ref 2000 v0 (.p 0)),(4,gv 36 a.1 a.2),(5,.int .i64 (a.2.length:Nat))])
  (fun a=>(1,.box (vs 1 + 1) 76 (encProg p)) :: (mayK 2000 2001 2002 v0 va vb p.D p.stl.1 p.stl.2 ++ grid 36 a.1 a.2)) (0,[]) (by simp) (by simp [gv]) (by simp [mayK,grid,gb]) ?_
 rintro L ⟨w,l⟩ vt ⟨hl,hf⟩ hL
 simp only at hl hf hL ⊢
 by_cases h:l.length < 5
 ·refine fro_body p (vs 1 + 1) v0 va vb p.stl.1 p.stl.2 hn hlen.1 hlen.2 hok rfl _ L w l h hf (fun T H vs w' l' h1 h2 h3 h4=>?_) vt
  exact hL T H vs (w',l') ⟨by simp only; omega,by simp only; rw [h1]; exact h2⟩ (by simp only; omega) (by rw [← h1] at h3; exact h3) h4
 ·have e:l.length = 5:=by omega
  rw [e,List.take_of_length_le (by omega)] at hf
  obtain ⟨x0,x1,x2,x3,x4,rfl⟩:∃ x0 x1 x2 x3 x4,l = [x0,x1,x2,x3,x4]:=by
   rcases l with _ | ⟨x0,_ | ⟨x1,_ | ⟨x2,_ | ⟨x3,_ | ⟨x4,_ | ⟨x5,l⟩⟩⟩⟩⟩⟩ <;> simp at e
   exact ⟨_,_,_,_,_,rfl⟩
  simp [mayK,grid,gb,gr,gv,hD]
  refine retHW_to (grid 36 w [x0,x1,x2,x3,x4]) ?_
  simp [grid,gb,gr,hf]
  exact ⟨w,[x0,x1,x2,x3,x4],hf,rfl,by simp [gb,gr]⟩
end Go.Proofs.YtnngddgaobhkiaaGreat
namespace Go.Proofs.YtnngddgaobhkiaaGreat
open Go Go.Am Go.RowKit
attribute [local simp] W69 W69_rs W69_k1 W69_k6 W69_k7 W69_k8 W69_b2 W69_b3 W69_b4 W69_b25 W69_b27 W69_b29 W69_l5 W69_l26 W69_l28 W69_l30
structure V5 where
 a:Nat
 b:Nat
 c:Nat
 d:Nat
 e:Nat
def rndH (v1 w:Nat) (p:Prog) (v:V5) (M:Mx):List (Nat × Blk):=
 [(1,.box v1 76 (encProg p)),(36,.row w 157 1 [[.ref 1000 v.a .o],[.ref 1001 v.b .o],[.ref 1002 v.c .o],[.ref 1003 v.d .o],[.ref 1004 v.e .o]]),
  (1000,.row v.a 4 1 (encBo (M.getD 0 []))),(1001,.row v.b 4 1 (encBo (M.getD 1 []))),(1002,.row v.c 4 1 (encBo (M.getD 2 []))),(1003,.row v.d 4 1 (encBo (M.getD 3 []))),(1004,.row v.e 4 1 (encBo (M.getD 4 [])))]
def okM (M:Mx):Prop:=M.length = 5 ∧ ∀ q,q < 5 → (M.getD q []).length = 5
theorem mset_getD (M:Mx) (i j q:Nat) (b:Bool) (hi:i < M.length):(mset M i j b).getD q [] = if i = q then (M.getD q []).set j b else M.getD q []:=by
 unfold mset
 simp only [List.getD_eq_getElem?_getD,List.getElem?_set]
 by_cases e:i = q
 ·subst e
  simp [hi]
 ·simp [e]
theorem okM_set {M:Mx} (h:okM M) (i j:Nat) (b:Bool) (hi:i < 5):okM (mset M i j b):=by
 refine ⟨by simp [mset,h.1],fun q hq=>?_⟩
 rw [mset_getD _ _ _ _ _ (by rw [h.1]; exact hi)]
 split
 ·simp only [List.length_set]; exact h.2 q hq
 ·exact h.2 q hq
set_option maxHeartbeats 4000000 in
theorem rnd_step (v1 w : Nat) (p : Prog) (v : V5) (M : Mx) (hM : okM M) (k i j : Nat) (hk : k < 5) (hi : i < 5) (hj : j < 5) (Φ : Exit → St → Prop) (L0 L1 L : St → Prop) (vt : Nat → Nat)
    (hL : ∀ T H vs M', M' = mset M i j (mget M i j || (mget M i k && mget M k j)) → Am.subT T [(3, .ref 36 w .o), (4, .int .i64 5), (5, .int .i64 (k : Nat)), (6, .int .i64 (i : Nat)), (7, .int .i64 (j + 1 : Nat))] → subA H (rndH v1 w p v M') → L ⟨Am.look T, hls H vs, noG⟩) :
    W69_l26 Φ L0 L1 L ⟨Am.look [(3, .ref 36 w .o), (4, .int .i64 5), (5, .int .i64 (k : Nat)), (6, .int .i64 (i : Nat)), (7, .int .i64 (j : Nat))], hls (rndH v1 w p v M) vt, noG⟩ := by
  have hj' : (j : Int) < 5 := by omega
  have hget : ∀ q r : Nat, q < 5 → r < 5 → (M.getD q [])[r]? = some (mget M q r) := fun q r h1 h2 => by
    unfold mget
    rw [List.getD_eq_getElem?_getD (l := M.getD q []), List.getElem?_eq_getElem (by rw [hM.2 q h1]; exact h2)]; rfl
  have e1 := hget i j hi hj
  have e2 := hget i k hi hk
  have e3 := hget k j hk hj
  have hl0 := hM.2 0 (by omega)
  have hl1 := hM.2 1 (by omega)
  have hl2 := hM.2 2 (by omega)
  have hl3 := hM.2 3 (by omega)
  have hl4 := hM.2 4 (by omega)
  generalize mget M i j = b1 at *
  generalize mget M i k = b2 at *
  generalize mget M k j = b3 at *
  obtain ⟨r0, r1, r2, r3, r4, rfl⟩ : ∃ r0 r1 r2 r3 r4, M = [r0, r1, r2, r3, r4] := by
    have := hM.1
    rcases M with _ | ⟨x0, _ | ⟨x1, _ | ⟨x2, _ | ⟨x3, _ | ⟨x4, _ | ⟨x5, l⟩⟩⟩⟩⟩⟩ <;> simp at this
    exact ⟨_, _, _, _, _, rfl⟩
  clear hget hM
  simp only [List.getD_eq_getElem?_getD, List.getElem?_cons_zero, List.getElem?_cons_succ, Option.getD_some] at hl0 hl1 hl2 hl3 hl4
  have ci : i = 0 ∨ i = 1 ∨ i = 2 ∨ i = 3 ∨ i = 4 := by omega
  have ck : k = 0 ∨ k = 1 ∨ k = 2 ∨ k = 3 ∨ k = 4 := by omega
  have fin : ∀ T H vs (b : Bool), b = (b1 || (b2 && b3)) → Am.subT T [(3, .ref 36 w .o), (4, .int .i64 5), (5, .int .i64 (k : Nat)), (6, .int .i64 (i : Nat)), (7, .int .i64 (j + 1 : Nat))] →
      subA H (rndH v1 w p v (mset [r0, r1, r2, r3, r4] i j b)) → L ⟨Am.look T, hls H vs, noG⟩ := fun T H vs b h1 h2 h3 => hL T H vs _ (by rw [h1]) h2 h3
  clear hL
  cases b1
  · cases b2
    · rcases ci with rfl | rfl | rfl | rfl | rfl <;> rcases ck with rfl | rfl | rfl | rfl | rfl
      all_goals
        simp at e1 e2
        obtain ⟨xe1, ye1⟩ := List.getElem?_eq_some_iff.1 e1
        obtain ⟨xe2, ye2⟩ := List.getElem?_eq_some_iff.1 e2
        simp [rndH, hj', hj, hl0, hl1, hl2, hl3, hl4, ye1, ye2]
        rw [wrap64 (by omega) (by omega)]
        exact fin _ _ _ false rfl (by simp) (by simp [rndH, mset])
    · cases b3
      · rcases ci with rfl | rfl | rfl | rfl | rfl <;> rcases ck with rfl | rfl | rfl | rfl | rfl
        all_goals
          simp at e1 e2 e3
          obtain ⟨xe1, ye1⟩ := List.getElem?_eq_some_iff.1 e1
          obtain ⟨xe2, ye2⟩ := List.getElem?_eq_some_iff.1 e2
          obtain ⟨xe3, ye3⟩ := List.getElem?_eq_some_iff.1 e3
          simp [rndH, hj', hj, hl0, hl1, hl2, hl3, hl4, ye1, ye2, ye3]
          rw [wrap64 (by omega) (by omega)]
          exact fin _ _ _ false rfl (by simp) (by simp [rndH, mset])
      · rcases ci with rfl | rfl | rfl | rfl | rfl <;> rcases ck with rfl | rfl | rfl | rfl | rfl
        all_goals
          simp at e1 e2 e3
          obtain ⟨xe1, ye1⟩ := List.getElem?_eq_some_iff.1 e1
          obtain ⟨xe2, ye2⟩ := List.getElem?_eq_some_iff.1 e2
          obtain ⟨xe3, ye3⟩ := List.getElem?_eq_some_iff.1 e3
          first
            | (rw [ye1] at ye3; cases ye3; done)
            | (simp [rndH, hj', hj, hl0, hl1, hl2, hl3, hl4, ye1, ye2, ye3]
               rw [wrap64 (by omega) (by omega)]
               exact fin _ _ _ true rfl (by simp) (by simp [rndH, mset]))
  · rcases ci with rfl | rfl | rfl | rfl | rfl <;> rcases ck with rfl | rfl | rfl | rfl | rfl
    all_goals
      simp at e1
      obtain ⟨xe1, ye1⟩ := List.getElem?_eq_some_iff.1 e1
      simp [rndH, hj', hj, hl0, hl1, hl2, hl3, hl4, ye1]
      rw [wrap64 (by omega) (by omega)]
      exact fin _ _ _ true rfl (by simp) (by simp [rndH, mset])
theorem okM_rdJ {M:Mx} (h:okM M) (k i:Nat) (hi:i < 5):∀ j,okM (rdJ k i j M)
 | 0=>h
 | j + 1=>okM_set (okM_rdJ h k i hi j) i j _ hi
theorem okM_rdI {M:Mx} (h:okM M) (n k:Nat):∀ i,i ≤ 5 → okM (rdI n k i M)
 | 0,_=>h
 | i + 1,hi=>okM_rdJ (okM_rdI h n k i (by omega)) k i (by omega) n
theorem okM_rdK {M:Mx} (h:okM M) (n:Nat) (hn:n ≤ 5):∀ k,okM (rdK n k M)
 | 0=>h
 | k + 1=>okM_rdI (okM_rdK h n hn k) n k n hn
theorem rnd_j (v1 w:Nat) (p:Prog) (v:V5) (M:Mx) (hM:okM M) (k i:Nat) (hk:k < 5) (hi:i < 5) (Φ:Exit → St → Prop) (L0 L1:St → Prop)
  (hL:∀ T H vs,Am.subT T [(3,.ref 36 w .o),(4,.int .i64 5),(5,.int .i64 (k:Nat)),(6,.int .i64 (i + 1:Nat))] → subA H (rndH v1 w p v (rdJ k i 5 M)) → L1 ⟨Am.look T,hls H vs,noG⟩)
  (T:List (Nat × AV)) (H:List (Nat × Blk)) (vs:Nat → Nat) (hT:Am.subT T [(3,.ref 36 w .o),(4,.int .i64 5),(5,.int .i64 (k:Nat)),(6,.int .i64 (i:Nat)),(7,.int .i64 0)]) (hH:subA H (rndH v1 w p v M)) :
  @sLoop ⟨Am.look T,hls H vs,noG⟩ ⟨fun L2 s=>W69_l26 Φ L0 L1 L2 s⟩:=by
 refine sLoop_intro (fun j=>j ≤ 5) (fun j=>5 - j) (fun j=>[(3,.ref 36 w .o),(4,.int .i64 5),(5,.int .i64 (k:Nat)),(6,.int .i64 (i:Nat)),(7,.int .i64 (j:Nat))]) (fun j=>rndH v1 w p v (rdJ k i j M)) 0 (by simp) (by simpa using hT) (by simpa [rdJ] using hH) ?_
 intro L j vt hj hL2
 by_cases h:j < 5
 ·refine rnd_step v1 w p v _ (okM_rdJ hM k i hi j) k i j hk hi h Φ L0 L1 L vt fun T H vs M' e h1 h2=>?_
  subst e
  exact hL2 T H vs (j + 1) h (by omega) h1 h2
 ·have e:j = 5:=by omega
  subst e
  generalize rdJ k i 5 M = M' at *
  simp [rndH]
  rw [wrap64 (by omega) (by omega)]
  exact hL _ _ _ (by simp) (by simp [rndH])
theorem rnd_i (v1 w:Nat) (p:Prog) (v:V5) (M:Mx) (hM:okM M) (k:Nat) (hk:k < 5) (Φ:Exit → St → Prop) (L0:St → Prop)
  (hL:∀ T H vs,Am.subT T [(3,.ref 36 w .o),(4,.int .i64 5),(5,.int .i64 (k + 1:Nat))] → subA H (rndH v1 w p v (rdI 5 k 5 M)) → L0 ⟨Am.look T,hls H vs,noG⟩)
  (T:List (Nat × AV)) (H:List (Nat × Blk)) (vs:Nat → Nat) (hT:Am.subT T [(3,.ref 36 w .o),(4,.int .i64 5),(5,.int .i64 (k:Nat)),(6,.int .i64 0)]) (hH:subA H (rndH v1 w p v M)) :
  @sLoop ⟨Am.look T,hls H vs,noG⟩ ⟨fun L1 s=>W69_l28 Φ L0 L1 s⟩:=by
 refine sLoop_intro (fun i=>i ≤ 5) (fun i=>5 - i) (fun i=>[(3,.ref 36 w .o),(4,.int .i64 5),(5,.int .i64 (k:Nat)),(6,.int .i64 (i:Nat))]) (fun i=>rndH v1 w p v (rdI 5 k i M)) 0 (by simp) (by simpa using hT) (by simpa [rdI] using hH) ?_
 intro L i vt hi hL2
 by_cases h:i < 5
 ·have h':(i:Int) < 5:=by omega
  have hm:=okM_rdI hM 5 k i (by omega)
  have hr:rdI 5 k (i + 1) M = rdJ k i 5 (rdI 5 k i M):=rfl
  have hL3:=fun T H vs=>hL2 T H vs (i + 1) h (by omega)
  rw [hr] at hL3
  generalize rdI 5 k i M = M' at *
  simp [-W69_l26,h']
  exact rnd_j v1 w p v M' hm k i hk h Φ L0 L hL3 _ _ _ (by simp) (by simp [rndH])
 ·have e:i = 5:=by omega
  subst e
  generalize rdI 5 k 5 M = M' at *
  simp [rndH]
  rw [wrap64 (by omega) (by omega)]
  exact hL _ _ _ (by simp) (by simp [rndH])
theorem rnd_end (v1 w:Nat) (p:Prog) (v:V5) (M:Mx) (hM:okM M) (T:List (Nat × AV)) (H:List (Nat × Blk)) (vs:Nat → Nat) (hT:Am.subT T [(3,.ref 36 w .o),(4,.int .i64 5),(8,.int .i64 0)]) (hH:subA H (rndH v1 w p v M)) :
  @sLoop ⟨Am.look T,hls H vs,noG⟩ ⟨fun L0 s=>W69_l5 (retK Tryz.prog [.tmp 2] (.bool (diagF M 5))) L0 s⟩:=by
 refine sLoop_intro (fun i=>i ≤ 5 ∧ diagF M i = false) (fun i=>5 - i) (fun i=>[(3,.ref 36 w .o),(4,.int .i64 5),(8,.int .i64 (i:Nat))]) (fun i=>rndH v1 w p v M) 0 (by simp [diagF]) (by simpa using hT) (by simpa using hH) ?_
 rintro L i vt ⟨hi,hd⟩ hL
 have hget:∀ q r:Nat,q < 5 → r < 5 → (M.getD q [])[r]? = some (mget M q r):=fun q r h1 h2=>by
  unfold mget
  rw [List.getD_eq_getElem?_getD (l:=M.getD q []),List.getElem?_eq_getElem (by rw [hM.2 q h1]; exact h2)]; rfl
 have hlen:=fun q h=>hM.2 q h
 have up:∀ j,i < j → j ≤ 5 → mget M i i = true → diagF M j = true:=by
  intro j h1 h2 h3
  induction j with
  | zero=>omega
  | succ j ih=>
   by_cases e:i = j
   ·subst e; simp [diagF,h3]
   ·simp [diagF,ih (by omega) (by omega)]
 by_cases h:i < 5
 ·have hm:=hget i i h h
  have hmi:=hlen i h
  have u5:=up 5 h (by omega)
  have hd1:diagF M (i + 1) = mget M i i:=by simp [diagF,hd]
  have ci:i = 0 ∨ i = 1 ∨ i = 2 ∨ i = 3 ∨ i = 4:=by omega
  have go:=fun T H vs (e:mget M i i = false)=>hL T H vs (i + 1) ⟨h,by rw [hd1,e]⟩ (by omega)
  clear hget hlen up hL
  cases hb:mget M i i
  ·have go:=fun T H vs=>go T H vs hb
   rw [hb] at hm
   rcases ci with rfl | rfl | rfl | rfl | rfl
   all_goals
    obtain ⟨xm,ym⟩:=List.getElem?_eq_some_iff.1 hm
    rw [List.getD_eq_getElem?_getD] at xm hmi
    simp only [List.getD_eq_getElem?_getD] at ym
    simp [rndH,hmi,xm,ym]
    rw [wrap64 (by omega) (by omega)]
    exact go _ _ _ (by simp) (by simp [rndH])
  ·rw [hb] at hm
   rw [u5 hb]
   clear go hd1 u5 hb
   rcases ci with rfl | rfl | rfl | rfl | rfl
   all_goals
    obtain ⟨xm,ym⟩:=List.getElem?_eq_some_iff.1 hm
    rw [List.getD_eq_getElem?_getD] at xm hmi
    simp only [List.getD_eq_getElem?_getD] at ym
    simp [rndH,hmi,xm,ym,retW_eq]
 ·have e:i = 5:=by omega
  subst e
  rw [hd]
  simp [rndH,retW_eq]
end Go.Proofs.YtnngddgaobhkiaaGreat
