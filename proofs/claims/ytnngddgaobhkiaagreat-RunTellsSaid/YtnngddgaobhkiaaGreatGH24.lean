import Derived.Test.YtnngddgaobhkiaaGreatGJ23
import Derived.Test.YtnngddgaobhkiaaGreatGD22
import Derived.Test.YtnngddgaobhkiaaGreatGH18
set_option linter.unusedVariables false
set_option linter.unusedSimpArgs false
namespace Go.Proofs.YtnngddgaobhkiaaGreat
open Go Go.Am Go.RowKit
def exI (x:Ex):Bool:=(Ex.pre x).all fun y=>isI64 y.n
theorem exIs:∀ l,((Ex.pres l).all fun y=>isI64 y.n) = l.all exI
 | []=>rfl
 | x :: l=>by simp only [Ex.pres,List.all_append,List.all_cons,exIs l,exI]
theorem exI_eq (x:Ex):exI x = (isI64 x.n && x.l.all exI):=by
 unfold exI
 rw [Ex.pre_eq,List.all_cons,exIs]
 rfl
theorem exI_of (k n:Int) (s:ByteArray) (l:List Ex) (h:isI64 n = true) (hl:∀ x ∈ l,exI x = true):exI ⟨k,n,s,l⟩ = true:=by
 rw [exI_eq,h]; exact List.all_eq_true.2 hl
theorem i64_of {n:Int} (h:-9223372036854775808 ≤ n) (h2:n < 9223372036854775808):isI64 n = true:=(isI64_iff n).2 ⟨h,h2⟩
theorem leaf_i (n i:Int):exI (lowE vsL (leafE n i)) = true:=by
 have h:=within_ge (IntKind.wrap .i64 (n + i)) 5 (by omega)
 have h2:=within_lt (IntKind.wrap .i64 (n + i)) 5 (by omega)
 rw [lowE_eq]
 simp only [leafE,List.map_nil]
 exact exI_of _ _ _ _ (i64_of (by simp; omega) (by simp; omega)) (by simp)
theorem ex_i (x:Rw2):exI (lowE vsL (x.ex vsL)) = true:=by
 have ih:∀ y ∈ x.l,exI (lowE vsL (y.ex vsL)) = true:=fun y hy=>ex_i y
 have hp:∀ i,exI (lowE vsL (x.part vsL i)) = true:=fun i=>by
  unfold Rw2.part
  rcases Rw2.nodess_get x.l i with ⟨y,h1,h2⟩ | h1
  ·rw [h1]; exact ih y h2
  ·rw [h1]; exact leaf_i _ _
 have w0:=within_ge x.k 24 (by omega)
 have w1:=within_lt x.k 24 (by omega)
 have w2:=within_ge x.n 8 (by omega)
 have w3:=within_lt x.n 8 (by omega)
 have hk:=nthB_in vsL x.n vsL.length (by simp [vsL]) rfl
 have hv:(vsL.length:Int) = 3:=rfl
 have hnum:isI64 (numsE.getD (within x.n 8).toNat 0) = true:=by
  generalize within x.n 8 = z at *
  have:z = 0 ∨ z = 1 ∨ z = 2 ∨ z = 3 ∨ z = 4 ∨ z = 5 ∨ z = 6 ∨ z = 7:=by omega
  rcases this with rfl | rfl | rfl | rfl | rfl | rfl | rfl | rfl <;> decide
 have hz:isI64 0 = true:=by decide
 rw [x.ex_eq]
 generalize numsE.getD (within x.n 8).toNat 0 = z at *
 split
 ·rw [lowE_eq]
  exact exI_of _ _ _ _ (by simpa using hnum) (by simp)
 ·split
  ·rw [if_pos (by simp [vsL]),lowE_eq]
   exact exI_of _ _ _ _ (by simp; exact i64_of (by omega) (by omega)) (by simp)
  ·split
   ·rw [lowE_eq]
    exact exI_of _ _ _ _ (by simpa using hz) (by simp [hp])
   ·split
    ·rw [lowE_eq]
     exact exI_of _ _ _ _ (by simpa using hz) (by simp [hp])
    ·have h2:¬ within x.k 24 - 6 = 2:=by omega
     rw [lowE_eq]
     exact exI_of _ _ _ _ (by simpa [h2] using hz) (by simp [hp])
termination_by SizeOf.sizeOf x
decreasing_by exact Rw2.lt_of_mem hy
theorem one_i (l:List Rw2):exI (lowE vsL (oneE vsL l)) = true:=by
 cases l with
 | nil=>
  rw [lowE_eq]
  exact exI_of _ _ _ _ (by simp [oneE,isI64]) (by simp [oneE])
 | cons x l=>exact ex_i x
mutual
def allN:Tm → Bool
 | ⟨_,_,_,_,e,l⟩=>exI e && allNs l
def allNs:List Tm → Bool
 | []=>true
 | x :: l=>allN x && allNs l
end
theorem allNs_eq:∀ l,allNs l = l.all allN
 | []=>rfl
 | x :: l=>by simp only [allNs,List.all_cons,allNs_eq l]
theorem allN_eq (t:Tm):allN t = (exI t.e && t.l.all allN):=by cases t; simp only [allN,allNs_eq]
mutual
theorem allE_of_wt:∀ t:Tm,t.wt ≤ 10000 → allN t = true → allE t = true
 | ⟨k,a,b,n,e,l⟩,hw,h=>by
  simp only [allN,Bool.and_eq_true] at h
  simp only [Tm.wt] at hw
  simp only [allE,exN,Bool.and_eq_true,decide_eq_true_eq]
  exact ⟨⟨by omega,h.1⟩,allEs_of_wt l (by omega) h.2⟩
theorem allEs_of_wt:∀ l:List Tm,Tm.wts l ≤ 10000 → allNs l = true → allEs l = true
 | [],_,_=>rfl
 | x :: l,hw,h=>by
  simp only [allNs,Bool.and_eq_true] at h
  simp only [Tm.wts] at hw
  simp only [allEs,Bool.and_eq_true]
  exact ⟨allE_of_wt x (by omega) h.1,allEs_of_wt l (by omega) h.2⟩
end
theorem zero_i:exI .zero = true:=by decide +kernel
theorem an_ite {c:Prop} [Decidable c] {x y:Pr} (h1:allN (lowP vsL ssL dsL x) = true) (h2:allN (lowP vsL ssL dsL y) = true):allN (lowP vsL ssL dsL (if c then x else y)) = true:=by split <;> assumption
theorem an_prOf (k a b:Int) (e:List Rw2) (p q:Pr) (hp:allN (lowP vsL ssL dsL p) = true) (hq:allN (lowP vsL ssL dsL q) = true):allN (lowP vsL ssL dsL (prOf k a b e p q)) = true:=by
 have h5:=one_i e
 unfold prOf
 repeat' apply an_ite
 all_goals
  rw [lowP_eq,allN_eq]
  simp [Pr.of,Pr.skip,lowP0,zero_i,h5,hp,hq]
theorem pr_an (x:Rw3) (d:Nat):allN (lowP vsL ssL dsL (x.pr d)) = true:=by
 have ih:∀ y ∈ x.l,∀ d,allN (lowP vsL ssL dsL (y.pr d)) = true:=fun y hy d=>pr_an y d
 have hs:allN (lowP vsL ssL dsL .skip) = true:=by decide +kernel
 have hp:∀ i,allN (lowP vsL ssL dsL (x.part i d)) = true:=fun i=>by
  unfold Rw3.part
  split
  ·cases h:x.l[i]? with
   | none=>exact hs
   | some y=>exact ih y (List.mem_of_getElem? h) _
  ·exact hs
 rw [x.pr_eq]
 exact an_prOf _ _ _ _ _ _ (hp 0) (hp 1)
termination_by SizeOf.sizeOf x
decreasing_by exact Rw3.lt_of_mem hy
def bnd:Nat → Int
 | 0=>3
 | k + 1=>1 + 2 * bnd k
theorem bnd_ge:∀ k,1 ≤ bnd k
 | 0=>by decide
 | k + 1=>by have:=bnd_ge k; simp only [bnd]; omega
theorem sz_ite {c:Prop} [Decidable c] {x y:Pr} {n:Int} (h1:(lowP vsL ssL dsL x).size ≤ n) (h2:(lowP vsL ssL dsL y).size ≤ n):(lowP vsL ssL dsL (if c then x else y)).size ≤ n:=by split <;> assumption
theorem sz_prOf (k a b:Int) (e:List Rw2) (p q:Pr):(lowP vsL ssL dsL (prOf k a b e p q)).size ≤ 1 + (lowP vsL ssL dsL p).size + (lowP vsL ssL dsL q).size:=by
 have hp:=(lowP vsL ssL dsL p).size_pos
 have hq:=(lowP vsL ssL dsL q).size_pos
 unfold prOf
 repeat' apply sz_ite
 all_goals
  rw [lowP_eq,Tm.size_eq]
  simp [Pr.of,Pr.skip,lowP0,Tm.sizes]
  omega
theorem pr_sz:∀ (k:Nat) (x:Rw3) (d:Nat),6 - d = k → (lowP vsL ssL dsL (x.pr d)).size ≤ bnd k
 | k,x,d,e=>by
  have hs:(lowP vsL ssL dsL .skip).size = 1:=by decide +kernel
  have h:=sz_prOf x.k x.a x.b x.e (x.part 0 d) (x.part 1 d)
  rw [← x.pr_eq] at h
  cases k with
  | zero=>
   have hp:∀ i,x.part i d = .skip:=fun i=>by unfold Rw3.part; rw [if_neg (by omega)]
   rw [hp,hp,hs] at h
   simpa [bnd] using h
  | succ k=>
   have hb:=bnd_ge k
   have hp:∀ i,(lowP vsL ssL dsL (x.part i d)).size ≤ bnd k:=fun i=>by
    unfold Rw3.part
    rw [if_pos (by omega)]
    cases hx:x.l[i]? with
    | none=>simp only [Option.map_none,Option.getD_none]; omega
    | some y=>exact pr_sz k y (d + 1) (by omega)
   have h0:=hp 0
   have h1:=hp 1
   simp only [bnd]
   omega
theorem pr_sz0 (x:Rw3):(lowP vsL ssL dsL (x.pr 0)).size ≤ 255:=pr_sz 6 x 0 rfl
theorem pr_all (x:Rw3) (h:x.sz 0 ≤ 40):allE (lowP vsL ssL dsL (x.pr 0)) = true:=by
 refine allE_of_wt _ ?_ (pr_an x 0)
 have h1:=lowP_wt vsL ssL dsL (x.pr 0)
 have h2:=x.pr_wt 0
 have h3:=bulk_of x h
 omega
end Go.Proofs.YtnngddgaobhkiaaGreat
