import Derived.Test.YtnngddgaobhkiaaGreatGC11
import Derived.Test.YtnngddgaobhkiaaGreatGQ7
import Derived.Test.YtnngddgaobhkiaaGreatGD10
set_option linter.unusedVariables false
set_option linter.unusedSimpArgs false
namespace Go.Proofs.YtnngddgaobhkiaaGreat
open Go Go.Am Go.RowKit
mutual
def okN:Tm → Bool
 | ⟨k,_,_,_,_,l⟩=>(!(decide (k = 12) || decide (k = 11)) || decide (l.length = 2)) && ((!decide (k = 7) || decide (l.length = 1)) && okNs l)
def okNs:List Tm → Bool
 | []=>true
 | x :: l=>okN x && okNs l
end
theorem okN_eq (t:Tm):okN t = ((!(decide (t.kind = 12) || decide (t.kind = 11)) || decide (t.l.length = 2)) && ((!decide (t.kind = 7) || decide (t.l.length = 1)) && okNs t.l)):=by cases t; rfl
theorem okNs_mem:∀ {l:List Tm},okNs l = true → ∀ x ∈ l,okN x = true
 | y :: l,h,x,hx=>by
  simp only [okNs,Bool.and_eq_true] at h
  rcases List.mem_cons.1 hx with rfl | hx
  ·exact h.1
  ·exact okNs_mem h.2 x hx
theorem okN_two {t:Tm} (h:okN t = true) (hk:t.kind = 12 ∨ t.kind = 11):∃ x y,t.l = [x,y] ∧ okN x = true ∧ okN y = true:=by
 rw [okN_eq] at h
 have hl:t.l.length = 2:=by rcases hk with hk | hk <;> simp [hk] at h <;> exact h.1
 have hm:okNs t.l = true:=by simp at h; exact h.2.2
 rcases hh:t.l with _ | ⟨x,_ | ⟨y,_ | ⟨z,l⟩⟩⟩ <;> simp [hh] at hl
 rw [hh] at hm
 exact ⟨x,y,rfl,okNs_mem hm x (by simp),okNs_mem hm y (by simp)⟩
theorem okN_one {t:Tm} (h:okN t = true) (hk:t.kind = 7):∃ x,t.l = [x] ∧ okN x = true:=by
 rw [okN_eq] at h
 have hl:t.l.length = 1:=by simp [hk] at h; exact h.1
 have hm:okNs t.l = true:=by simp at h; exact h.2.2
 rcases hh:t.l with _ | ⟨x,_ | ⟨y,l⟩⟩ <;> simp [hh] at hl
 rw [hh] at hm
 exact ⟨x,rfl,okNs_mem hm x (by simp)⟩
theorem norm_leaf {t:Tm} (h:okN t = true) (h1:t.kind ≠ 12) (h2:t.kind ≠ 11) (h3:t.kind ≠ 7):t.norm = t:=by
 rcases hh:t.l with _ | ⟨x,_ | ⟨y,_ | ⟨z,l⟩⟩⟩
 ·exact Tm.norm_else (by simp [hh]) (by simp [hh])
 ·rw [Tm.norm_one hh,if_neg h3]
 ·rw [Tm.norm_two hh,if_neg h1,if_neg h2]
 ·exact Tm.norm_else (by simp [hh]) (by simp [hh])
end Go.Proofs.YtnngddgaobhkiaaGreat
namespace Go.Proofs.YtnngddgaobhkiaaGreat
open Go Go.Am Go.RowKit
theorem norm_norm (t:Tm) (h:okN t = true):t.norm.norm = t.norm:=by
 by_cases k12:t.kind = 12
 ·obtain ⟨x,y,hl,hx,hy⟩:=okN_two h (.inl k12)
  have ix:=norm_norm x hx
  have iy:=norm_norm y hy
  rw [Tm.norm_two hl,if_pos k12]
  by_cases hx0:x.norm.kind = 0
  ·rw [if_pos hx0]; exact iy
  ·rw [if_neg hx0,Tm.norm_two (x:=x.norm) (y:=y) rfl,if_pos (show (Tm.of 12 [x.norm,y]).kind = 12 from rfl),ix,if_neg hx0]
 ·by_cases k11:t.kind = 11
  ·obtain ⟨x,y,hl,hx,hy⟩:=okN_two h (.inr k11)
   have ix:=norm_norm x hx
   have iy:=norm_norm y hy
   rw [Tm.norm_two hl,if_neg k12,if_pos k11]
   by_cases h0:x.norm.kind = 0 ∧ y.norm.kind = 0
   ·rw [if_pos h0]; exact Tm.norm_else (by simp [Tm.skip,Tm.of]) (by simp [Tm.skip,Tm.of])
   ·rw [if_neg h0,Tm.norm_two (x:=x.norm) (y:=y.norm) rfl,if_neg (show (Tm.of 11 [x.norm,y.norm]).kind ≠ 12 by simp [Tm.of]),if_pos (show (Tm.of 11 [x.norm,y.norm]).kind = 11 from rfl),ix,iy,if_neg h0]
  ·by_cases k7:t.kind = 7
   ·obtain ⟨x,hl,hx⟩:=okN_one h k7
    have ix:=norm_norm x hx
    rw [Tm.norm_one hl,if_pos k7]
    by_cases h0:x.norm.kind = 0
    ·rw [if_pos h0]; exact Tm.norm_else (by simp [Tm.skip,Tm.of]) (by simp [Tm.skip,Tm.of])
    ·rw [if_neg h0,Tm.norm_one (x:=x.norm) rfl,if_pos (show (Tm.of 7 [x.norm]).kind = 7 from rfl),ix,if_neg h0]
   ·rw [norm_leaf h k12 k11 k7,norm_leaf h k12 k11 k7]
termination_by SizeOf.sizeOf t
decreasing_by all_goals exact Tm.lt_of_mem (by simp [hl])
theorem norm_size (t:Tm) (ho:okN t = true):t.norm.size ≤ t.size:=by
 by_cases k12:t.kind = 12
 ·obtain ⟨x,y,hl,hx,hy⟩:=okN_two ho (.inl k12)
  have ix:=norm_size x hx
  have iy:=norm_size y hy
  have px:=x.size_pos
  have py:=y.size_pos
  rw [Tm.norm_two hl,if_pos k12,t.size_eq,hl]
  simp only [Tm.sizes]
  split
  ·omega
  ·simp only [Tm.of,Tm.size,Tm.sizes]; omega
 ·by_cases k11:t.kind = 11
  ·obtain ⟨x,y,hl,hx,hy⟩:=okN_two ho (.inr k11)
   have ix:=norm_size x hx
   have iy:=norm_size y hy
   have px:=x.size_pos
   have py:=y.size_pos
   rw [Tm.norm_two hl,if_neg k12,if_pos k11,t.size_eq,hl]
   simp only [Tm.sizes]
   split
   ·simp only [Tm.skip,Tm.of,Tm.size,Tm.sizes]; omega
   ·simp only [Tm.of,Tm.size,Tm.sizes]; omega
  ·by_cases k7:t.kind = 7
   ·obtain ⟨x,hl,hx⟩:=okN_one ho k7
    have ix:=norm_size x hx
    have px:=x.size_pos
    rw [Tm.norm_one hl,if_pos k7,t.size_eq,hl]
    simp only [Tm.sizes]
    split
    ·simp only [Tm.skip,Tm.of,Tm.size,Tm.sizes]; omega
    ·simp only [Tm.of,Tm.size,Tm.sizes]; omega
   ·rw [norm_leaf ho k12 k11 k7]; omega
termination_by SizeOf.sizeOf t
decreasing_by all_goals (apply Tm.lt_of_mem; simp [hl])
end Go.Proofs.YtnngddgaobhkiaaGreat
namespace Go.Proofs.YtnngddgaobhkiaaGreat
open Go Go.Am Go.RowKit
theorem nthB_known (l:List ByteArray) (a n:Int) (hn:0 < n) (h:n = l.length):¬ idxB l (nthB l (within a n)) < 0:=by
 have h0:=within_ge a n hn
 have h1:=within_lt a n hn
 have:0 ≤ idxB l (nthB l (within a n)):=by
  rw [idxB_mem]
  unfold nthB
  rw [List.getD_eq_getElem?_getD,List.getElem?_eq_getElem (by omega)]
  exact List.getElem_mem _
 omega
theorem badE_vs (x:Rw2):badE vsL (x.ex vsL) = false:=by
 have ih:∀ y ∈ x.l,badE vsL (y.ex vsL) = false:=fun y hy=>badE_vs y
 have hp:∀ i,badE vsL (x.part vsL i) = false:=fun i=>by
  unfold Rw2.part
  rcases Rw2.nodess_get x.l i with ⟨y,h1,h2⟩ | h1
  ·rw [h1]; exact ih y h2
  ·rw [h1]; simp [leafE,badE,badEs]
 have w0:=within_ge x.k 24 (by omega)
 have hk:=nthB_known vsL x.n vsL.length (by simp [vsL]) rfl
 rw [x.ex_eq]
 split
 ·simp [badE,badEs]
 ·split
  ·rw [if_pos (by simp [vsL])]
   simp only [badE,badEs,decide_eq_false hk]
   simp
  ·split
   ·simp [badE,badEs,hp]
   ·split
    ·simp [badE,badEs,hp]
    ·have:¬ within x.k 24 - 6 = 2:=by omega
     simp [badE,badEs,hp,this]
termination_by SizeOf.sizeOf x
decreasing_by exact Rw2.lt_of_mem hy
theorem badE_one (l:List Rw2):badE vsL (oneE vsL l) = false:=by
 cases l with
 | nil=>simp [oneE,badE,badEs]
 | cons x l=>exact badE_vs x
theorem badP_ite {V S D:List ByteArray} {c:Prop} [Decidable c] {x y:Pr} (h1:badP V S D x = false) (h2:badP V S D y = false):badP V S D (if c then x else y) = false:=by split <;> assumption
theorem okS_ite {c:Prop} [Decidable c] {x y:Pr} (h1:x.okS = true) (h2:y.okS = true):(if c then x else y).okS = true:=by split <;> assumption
theorem badP_prOf (k a b:Int) (e:List Rw2) (p q:Pr) (hp:badP vsL ssL dsL p = false) (hq:badP vsL ssL dsL q = false):badP vsL ssL dsL (prOf k a b e p q) = false:=by
 have h1:=nthB_known vsL a 3 (by omega) rfl
 have h2:=nthB_known ssL a 2 (by omega) rfl
 have h3:=nthB_known ssL b 2 (by omega) rfl
 have h4:=nthB_known dsL a 5 (by omega) rfl
 have h5:=badE_one e
 unfold prOf
 repeat' apply badP_ite
 all_goals simp [badP,badP0,badPs,Pr.of,Pr.skip,hp,hq,h1,h2,h3,h4,h5]
theorem okS_prOf (k a b:Int) (e:List Rw2) (p q:Pr) (hp:p.okS = true) (hq:q.okS = true):(prOf k a b e p q).okS = true:=by
 unfold prOf
 repeat' apply okS_ite
 all_goals simp [Pr.okS,Pr.okSs,Pr.of,Pr.skip,hp,hq]
theorem skip_ok:badP vsL ssL dsL .skip = false ∧ Pr.skip.okS = true:=by
 constructor
 ·simp [Pr.skip,Pr.of,badP,badP0,badPs]
 ·simp [Pr.skip,Pr.of,Pr.okS,Pr.okSs]
theorem pr_ok (x:Rw3) (d:Nat):badP vsL ssL dsL (x.pr d) = false ∧ (x.pr d).okS = true:=by
 have ih:∀ y ∈ x.l,∀ d,badP vsL ssL dsL (y.pr d) = false ∧ (y.pr d).okS = true:=fun y hy d=>pr_ok y d
 have hp:∀ i,badP vsL ssL dsL (x.part i d) = false ∧ (x.part i d).okS = true:=fun i=>by
  unfold Rw3.part
  split
  ·cases h:x.l[i]? with
   | none=>exact skip_ok
   | some y=>exact ih y (List.mem_of_getElem? h) _
  ·exact skip_ok
 rw [x.pr_eq]
 exact ⟨badP_prOf _ _ _ _ _ _ (hp 0).1 (hp 1).1,okS_prOf _ _ _ _ _ _ (hp 0).2 (hp 1).2⟩
termination_by SizeOf.sizeOf x
decreasing_by exact Rw3.lt_of_mem hy
theorem bulk_of (r:Rw3) (h:r.sz 0 ≤ 40):r.bulk ≤ 840:=by have:=r.sz_le 0; omega
mutual
theorem lowE_wt (V:List ByteArray):∀ x:Ex,(lowE V x).wt = x.wt
 | ⟨k,n,s,l⟩=>by simp [lowE,Ex.wt,lowEs_wt V l]
theorem lowEs_wt (V:List ByteArray):∀ l:List Ex,Ex.wts (lowEs V l) = Ex.wts l
 | []=>rfl
 | x :: l=>by simp [lowEs,Ex.wts,lowE_wt V x,lowEs_wt V l]
end
mutual
theorem lowP_wt (V S D:List ByteArray):∀ x:Pr,(lowP V S D x).wt ≤ x.wt
 | ⟨k,s,t,e,l⟩=>by
  have h1:=lowPs_wt V S D l
  have h2:=Ex.wt_pos e
  have h3:=lowE_wt V e
  unfold lowP lowP0
  simp only [Pr.wt]
  repeat' split
  all_goals simp only [Tm.wt,Ex.zero_wt]
  all_goals omega
theorem lowPs_wt (V S D:List ByteArray):∀ l:List Pr,Tm.wts (lowPs V S D l) ≤ Pr.wts l
 | []=>Nat.le_refl _
 | x :: l=>by
  have h1:=lowP_wt V S D x
  have h2:=lowPs_wt V S D l
  simp only [lowPs,Tm.wts,Pr.wts]
  omega
end
theorem nthB_in (l:List ByteArray) (a n:Int) (hn:0 < n) (h:n = l.length):0 ≤ idxB l (nthB l (within a n)) ∧ idxB l (nthB l (within a n)) < n:=by
 have h1:=nthB_known l a n hn h
 have h2:=idxB_lt l (nthB l (within a n))
 omega
theorem exRight_of (v k n:Int) (l:List Ex) (h:exOk v ⟨k,n,⟨#[]⟩,l⟩ = true) (hl:∀ x ∈ l,exRight v x = true):exRight v ⟨k,n,⟨#[]⟩,l⟩ = true:=by
 rw [exRight_eq,h]
 exact List.all_eq_true.2 hl
theorem leaf_right (n i:Int):exRight 3 (lowE vsL (leafE n i)) = true:=by
 have h:=within_ge (IntKind.wrap .i64 (n + i)) 5 (by omega)
 rw [lowE_eq]
 simp only [leafE,List.map_nil]
 exact exRight_of _ _ _ _ (by simp [exOk,kids,h]) (by simp)
theorem ex_right (x:Rw2):exRight 3 (lowE vsL (x.ex vsL)) = true:=by
 have ih:∀ y ∈ x.l,exRight 3 (lowE vsL (y.ex vsL)) = true:=fun y hy=>ex_right y
 have hp:∀ i,exRight 3 (lowE vsL (x.part vsL i)) = true:=fun i=>by
  unfold Rw2.part
  rcases Rw2.nodess_get x.l i with ⟨y,h1,h2⟩ | h1
  ·rw [h1]; exact ih y h2
  ·rw [h1]; exact leaf_right _ _
 have w0:=within_ge x.k 24 (by omega)
 have w1:=within_lt x.k 24 (by omega)
 have w2:=within_ge x.n 8 (by omega)
 have w3:=within_lt x.n 8 (by omega)
 have hk:=nthB_in vsL x.n vsL.length (by simp [vsL]) rfl
 have hv:(vsL.length:Int) = 3:=rfl
 have hnum:0 ≤ numsE.getD (within x.n 8).toNat 0:=by
  generalize within x.n 8 = z at *
  have:z = 0 ∨ z = 1 ∨ z = 2 ∨ z = 3 ∨ z = 4 ∨ z = 5 ∨ z = 6 ∨ z = 7:=by omega
  rcases this with rfl | rfl | rfl | rfl | rfl | rfl | rfl | rfl <;> decide
 rw [x.ex_eq]
 generalize numsE.getD (within x.n 8).toNat 0 = z at *
 split
 ·rw [lowE_eq]
  exact exRight_of _ _ _ _ (by simp [exOk,kids,hnum]) (by simp)
 ·split
  ·rw [if_pos (by simp [vsL]),lowE_eq]
   exact exRight_of _ _ _ _ (by simp [exOk,kids]; omega) (by simp)
  ·split
   ·rw [lowE_eq]
    exact exRight_of _ _ _ _ (by simp [exOk,kids]) (by simp [hp])
   ·split
    ·rw [lowE_eq]
     exact exRight_of _ _ _ _ (by simp [exOk,kids]) (by simp [hp])
    ·have h1:¬ within x.k 24 - 6 = 1:=by omega
     have h2:¬ within x.k 24 - 6 = 2:=by omega
     have h3:¬ within x.k 24 - 6 = 3:=by omega
     have h4:¬ within x.k 24 - 6 = 4:=by omega
     rw [lowE_eq]
     exact exRight_of _ _ _ _ (by simp [exOk,kids,h1,h2,h3,h4]; omega) (by simp [hp])
termination_by SizeOf.sizeOf x
decreasing_by exact Rw2.lt_of_mem hy
theorem one_right (l:List Rw2):exRight 3 (lowE vsL (oneE vsL l)) = true:=by
 cases l with
 | nil=>
  rw [lowE_eq]
  exact exRight_of _ _ _ _ (by simp [exOk,kids,oneE]) (by simp [oneE])
 | cons x l=>exact ex_right x
abbrev rgt3 (t:Tm) (d:Bool):Prop:=tmRight 3 2 5 t d = true
theorem rgt_of (t:Tm) (d:Bool) (h0:0 ≤ t.kind) (h1:t.kind ≤ 13) (h:tmOk 3 2 5 t = true) (hl:∀ x ∈ t.l,rgt3 x true) (hd:d = true ∨ t.kind = 3 ∨ ∀ x ∈ t.l,rgt3 x d):rgt3 t d:=by
 unfold rgt3 at *
 rw [tmRight_eq,h,decide_eq_true h0,decide_eq_true (show t.kind ≤ 14 by omega),decide_eq_false (show ¬ t.kind = 14 by omega)]
 simp only [Bool.true_and,Bool.and_false,Bool.not_false]
 rw [List.all_eq_true]
 rcases hd with rfl | h3 | hd
 ·simpa using hl
 ·rw [decide_eq_true h3,Bool.or_true]; exact hl
 ·cases d
  ·by_cases h3:t.kind = 3
   ·rw [decide_eq_true h3]; exact hl
   ·rw [decide_eq_false h3]; exact hd
  ·simpa using hl
theorem name_ps (b:Int):nameOk (nthB psL (within b 3)) = true:=by
 have h1:=within_ge b 3 (by omega)
 have h2:=within_lt b 3 (by omega)
 generalize within b 3 = z at *
 have:z = 0 ∨ z = 1 ∨ z = 2:=by omega
 rcases this with rfl | rfl | rfl <;> decide +kernel
theorem ne_vs (a:Int):¬ nthB vsL (within a 3) = ⟨#[]⟩:=by
 have h1:=within_ge a 3 (by omega)
 have h2:=within_lt a 3 (by omega)
 generalize within a 3 = z at *
 have:z = 0 ∨ z = 1 ∨ z = 2:=by omega
 rcases this with rfl | rfl | rfl <;> decide +kernel
theorem zero_none:Ex.zero.none = true:=by decide +kernel
theorem rgt_ite {c:Prop} [Decidable c] {x y:Pr} (h1:rgt3 (lowP vsL ssL dsL x) true) (h2:rgt3 (lowP vsL ssL dsL y) true):rgt3 (lowP vsL ssL dsL (if c then x else y)) true:=by split <;> assumption
theorem rgt_prOf (k a b : Int) (e : List Rw2) (p q : Pr) (hp : rgt3 (lowP vsL ssL dsL p) true) (hq : rgt3 (lowP vsL ssL dsL q) true) : rgt3 (lowP vsL ssL dsL (prOf k a b e p q)) true := by
  have h1 := nthB_in vsL a 3 (by omega) rfl
  have h2 := nthB_in ssL a 2 (by omega) rfl
  have h3 := nthB_in ssL b 2 (by omega) rfl
  have h4 := nthB_in dsL a 5 (by omega) rfl
  have h5 := one_right e
  have h6 := name_ps b
  have h7 := ne_vs a
  have h8 : -1 ≤ idxB vsL (nthB vsL (within a 3)) := by omega
  unfold prOf
  generalize nthB vsL (within a 3) = va at *
  generalize nthB ssL (within a 2) = sa at *
  generalize nthB ssL (within b 2) = sb at *
  generalize nthB dsL (within a 5) = da at *
  generalize nthB psL (within b 3) = pb at *
  generalize oneE vsL e = oe at *
  repeat' apply rgt_ite
  all_goals
    rw [lowP_eq]
    simp only [Pr.of, Pr.skip, lowP0]
    first
      | (refine rgt_of _ _ ?_ ?_ ?_ ?_ (.inl rfl)
         · simp
         · simp
         · simp [tmOk, numOk, kA, kB, kN, kE, kL, h1, h2, h3, h4, h5, h6, h7, h8, zero_none]
         · intro x hx
           simp at hx
           first
             | done
             | exact hx.elim
             | (subst hx; assumption)
             | (rcases hx with rfl | rfl <;> assumption))
theorem pr_right (x:Rw3) (d:Nat):rgt3 (lowP vsL ssL dsL (x.pr d)) true:=by
 have ih:∀ y ∈ x.l,∀ d,rgt3 (lowP vsL ssL dsL (y.pr d)) true:=fun y hy d=>pr_right y d
 have hs:rgt3 (lowP vsL ssL dsL .skip) true:=by decide +kernel
 have hp:∀ i,rgt3 (lowP vsL ssL dsL (x.part i d)) true:=fun i=>by
  unfold Rw3.part
  split
  ·cases h:x.l[i]? with
   | none=>exact hs
   | some y=>exact ih y (List.mem_of_getElem? h) _
  ·exact hs
 rw [x.pr_eq]
 exact rgt_prOf _ _ _ _ _ _ (hp 0) (hp 1)
termination_by SizeOf.sizeOf x
decreasing_by exact Rw3.lt_of_mem hy
end Go.Proofs.YtnngddgaobhkiaaGreat
