import Derived.Test.YtnngddgaobhkiaaGreatGC10
import Derived.Test.YtnngddgaobhkiaaGreatGQ11
set_option linter.unusedVariables false
set_option linter.unusedSimpArgs false
namespace Go.Proofs.YtnngddgaobhkiaaGreat
open Go Go.Am Go.RowKit
attribute [local simp] W35 W35_rs W35_b2 W35_b3 W35_b5 W35_b6 W35_b7 W35_b13 W35_b14 W35_b15 W35_b17 W35_b18 W35_b19 W35_b20
mutual
def okN:Tm → Bool
 | ⟨k,_,_,_,_,l⟩=>(!(decide (k = 12) || decide (k = 11)) || decide (l.length = 2)) && ((!decide (k = 7) || decide (l.length = 1)) && okNs l)
def okNs:List Tm → Bool
 | []=>true
 | x :: l=>okN x && okNs l
end
theorem okN_eq (t:Tm):okN t = ((!(decide (t.kind = 12) || decide (t.kind = 11)) || decide (t.l.length = 2)) && ((!decide (t.kind = 7) || decide (t.l.length = 1)) && okNs t.l)):=by cases t; rfl
theorem okNs_mem:∀ {l:List Tm},okNs l = true → ∀ x ∈ l,okN x = true
 | y :: l,h,x,hx=>by
  simp only [okNs,Bool.and_eq_true] at h
  rcases List.mem_cons.1 hx with rfl | hx
  ·exact h.1
  ·exact okNs_mem h.2 x hx
theorem okN_two {t:Tm} (h:okN t = true) (hk:t.kind = 12 ∨ t.kind = 11):∃ x y,t.l = [x,y] ∧ okN x = true ∧ okN y = true:=by
 rw [okN_eq] at h
 have hl:t.l.length = 2:=by rcases hk with hk | hk <;> simp [hk] at h <;> exact h.1
 have hm:okNs t.l = true:=by simp at h; exact h.2.2
 rcases hh:t.l with _ | ⟨x,_ | ⟨y,_ | ⟨z,l⟩⟩⟩ <;> simp [hh] at hl
 rw [hh] at hm
 exact ⟨x,y,rfl,okNs_mem hm x (by simp),okNs_mem hm y (by simp)⟩
theorem okN_one {t:Tm} (h:okN t = true) (hk:t.kind = 7):∃ x,t.l = [x] ∧ okN x = true:=by
 rw [okN_eq] at h
 have hl:t.l.length = 1:=by simp [hk] at h; exact h.1
 have hm:okNs t.l = true:=by simp at h; exact h.2.2
 rcases hh:t.l with _ | ⟨x,_ | ⟨y,l⟩⟩ <;> simp [hh] at hl
 rw [hh] at hm
 exact ⟨x,rfl,okNs_mem hm x (by simp)⟩
theorem norm_leaf {t:Tm} (h:okN t = true) (h1:t.kind ≠ 12) (h2:t.kind ≠ 11) (h3:t.kind ≠ 7):t.norm = t:=by
 rcases hh:t.l with _ | ⟨x,_ | ⟨y,_ | ⟨z,l⟩⟩⟩
 ·exact Tm.norm_else (by simp [hh]) (by simp [hh])
 ·rw [Tm.norm_one hh,if_neg h3]
 ·rw [Tm.norm_two hh,if_neg h1,if_neg h2]
 ·exact Tm.norm_else (by simp [hh]) (by simp [hh])
theorem sp_n5 (t:Tm) (h:okN t = true):Am.Spec Tryz.prog 35 [.agg (encT t)] (.agg (encT t.norm)):=by
 by_cases k12:t.kind = 12
 ·obtain ⟨x,y,hl,hx,hy⟩:=okN_two h (.inl k12)
  have ix:=sp_n5 x hx
  have iy:=sp_n5 y hy
  rw [Tm.norm_two hl,if_pos k12]
  by_cases h0:x.norm.kind = 0
  ·rw [if_pos h0]
   refine W35_S (by simp) ?_
   intro vs
   simp [k12,hl]
   refine scall_pure ix (by simp) (by simp) ?_
   simp [h0,hl]
   refine scall_pure iy (by simp) (by simp) ?_
   simp [retW_eq]
  ·rw [if_neg h0]
   refine W35_S (by simp) ?_
   intro vs
   simp [k12,hl]
   refine scall_pure ix (by simp) (by simp) ?_
   simp [h0,hl,retW_eq,encT_of]
 ·by_cases k11:t.kind = 11
  ·obtain ⟨x,y,hl,hx,hy⟩:=okN_two h (.inr k11)
   have ix:=sp_n5 x hx
   have iy:=sp_n5 y hy
   rw [Tm.norm_two hl,if_neg k12,if_pos k11]
   by_cases h0:x.norm.kind = 0
   ·by_cases h1:y.norm.kind = 0
    ·rw [if_pos ⟨h0,h1⟩]
     refine W35_S (by simp) ?_
     intro vs
     simp [k11,hl]
     refine scall0_pure ix (by simp) (by simp) ?_
     simp [hl]
     refine scall0_pure iy (by simp) (by simp) ?_
     simp [h0,h1,hl,retW_eq,encT_skip]
    ·rw [if_neg fun e=>h1 e.2]
     refine W35_S (by simp) ?_
     intro vs
     simp [k11,hl]
     refine scall0_pure ix (by simp) (by simp) ?_
     simp [hl]
     refine scall0_pure iy (by simp) (by simp) ?_
     simp [h0,h1,hl,retW_eq,encT_of]
   ·rw [if_neg fun e=>h0 e.1]
    refine W35_S (by simp) ?_
    intro vs
    simp [k11,hl]
    refine scall0_pure ix (by simp) (by simp) ?_
    simp [hl]
    refine scall0_pure iy (by simp) (by simp) ?_
    simp [h0,hl,retW_eq,encT_of]
  ·by_cases k7:t.kind = 7
   ·obtain ⟨x,hl,hx⟩:=okN_one h k7
    have ix:=sp_n5 x hx
    rw [Tm.norm_one hl,if_pos k7]
    by_cases h0:x.norm.kind = 0
    ·rw [if_pos h0]
     refine W35_S (by simp) ?_
     intro vs
     simp [k7,hl]
     refine scall_pure ix (by simp) (by simp) ?_
     simp [h0,hl,retW_eq,encT_skip]
    ·rw [if_neg h0]
     refine W35_S (by simp) ?_
     intro vs
     simp [k7,hl]
     refine scall_pure ix (by simp) (by simp) ?_
     simp [h0,hl,retW_eq,encT_of]
   ·rw [norm_leaf h k12 k11 k7]
    refine W35_S (by simp) ?_
    intro vs
    simp [k12,k11,k7,retW_eq]
termination_by SizeOf.sizeOf t
decreasing_by all_goals exact Tm.lt_of_mem (by simp [hl])
end Go.Proofs.YtnngddgaobhkiaaGreat
namespace Go.Proofs.YtnngddgaobhkiaaGreat
open Go Go.Am Go.RowKit
theorem of_ok2 (k:Int) (x y:Tm) (hx:okN x = true) (hy:okN y = true) (hk:k ≠ 7):okN (Tm.of k [x,y]) = true:=by simp [Tm.of,okN,okNs,hx,hy,hk]
theorem of_ok1 (x:Tm) (hx:okN x = true):okN (Tm.of 7 [x]) = true:=by simp [Tm.of,okN,okNs,hx]
theorem okN_norm (t:Tm) (h:okN t = true):okN t.norm = true:=by
 by_cases k12:t.kind = 12
 ·obtain ⟨x,y,hl,hx,hy⟩:=okN_two h (.inl k12)
  have ix:=okN_norm x hx
  have iy:=okN_norm y hy
  rw [Tm.norm_two hl,if_pos k12]
  split
  ·exact iy
  ·exact of_ok2 12 _ _ ix hy (by omega)
 ·by_cases k11:t.kind = 11
  ·obtain ⟨x,y,hl,hx,hy⟩:=okN_two h (.inr k11)
   have ix:=okN_norm x hx
   have iy:=okN_norm y hy
   rw [Tm.norm_two hl,if_neg k12,if_pos k11]
   split
   ·rfl
   ·exact of_ok2 11 _ _ ix iy (by omega)
  ·by_cases k7:t.kind = 7
   ·obtain ⟨x,hl,hx⟩:=okN_one h k7
    have ix:=okN_norm x hx
    rw [Tm.norm_one hl,if_pos k7]
    split
    ·rfl
    ·exact of_ok1 _ ix
   ·rw [norm_leaf h k12 k11 k7]; exact h
termination_by SizeOf.sizeOf t
decreasing_by all_goals exact Tm.lt_of_mem (by simp [hl])
theorem norm_norm (t:Tm) (h:okN t = true):t.norm.norm = t.norm:=by
 by_cases k12:t.kind = 12
 ·obtain ⟨x,y,hl,hx,hy⟩:=okN_two h (.inl k12)
  have ix:=norm_norm x hx
  have iy:=norm_norm y hy
  rw [Tm.norm_two hl,if_pos k12]
  by_cases hx0:x.norm.kind = 0
  ·rw [if_pos hx0]; exact iy
  ·rw [if_neg hx0,Tm.norm_two (x:=x.norm) (y:=y) rfl,if_pos (show (Tm.of 12 [x.norm,y]).kind = 12 from rfl),ix,if_neg hx0]
 ·by_cases k11:t.kind = 11
  ·obtain ⟨x,y,hl,hx,hy⟩:=okN_two h (.inr k11)
   have ix:=norm_norm x hx
   have iy:=norm_norm y hy
   rw [Tm.norm_two hl,if_neg k12,if_pos k11]
   by_cases h0:x.norm.kind = 0 ∧ y.norm.kind = 0
   ·rw [if_pos h0]; exact Tm.norm_else (by simp [Tm.skip,Tm.of]) (by simp [Tm.skip,Tm.of])
   ·rw [if_neg h0,Tm.norm_two (x:=x.norm) (y:=y.norm) rfl,if_neg (show (Tm.of 11 [x.norm,y.norm]).kind ≠ 12 by simp [Tm.of]),if_pos (show (Tm.of 11 [x.norm,y.norm]).kind = 11 from rfl),ix,iy,if_neg h0]
  ·by_cases k7:t.kind = 7
   ·obtain ⟨x,hl,hx⟩:=okN_one h k7
    have ix:=norm_norm x hx
    rw [Tm.norm_one hl,if_pos k7]
    by_cases h0:x.norm.kind = 0
    ·rw [if_pos h0]; exact Tm.norm_else (by simp [Tm.skip,Tm.of]) (by simp [Tm.skip,Tm.of])
    ·rw [if_neg h0,Tm.norm_one (x:=x.norm) rfl,if_pos (show (Tm.of 7 [x.norm]).kind = 7 from rfl),ix,if_neg h0]
   ·rw [norm_leaf h k12 k11 k7,norm_leaf h k12 k11 k7]
termination_by SizeOf.sizeOf t
decreasing_by all_goals exact Tm.lt_of_mem (by simp [hl])
theorem norm_size (t:Tm) (ho:okN t = true):t.norm.size ≤ t.size:=by
 by_cases k12:t.kind = 12
 ·obtain ⟨x,y,hl,hx,hy⟩:=okN_two ho (.inl k12)
  have ix:=norm_size x hx
  have iy:=norm_size y hy
  have px:=x.size_pos
  have py:=y.size_pos
  rw [Tm.norm_two hl,if_pos k12,t.size_eq,hl]
  simp only [Tm.sizes]
  split
  ·omega
  ·simp only [Tm.of,Tm.size,Tm.sizes]; omega
 ·by_cases k11:t.kind = 11
  ·obtain ⟨x,y,hl,hx,hy⟩:=okN_two ho (.inr k11)
   have ix:=norm_size x hx
   have iy:=norm_size y hy
   have px:=x.size_pos
   have py:=y.size_pos
   rw [Tm.norm_two hl,if_neg k12,if_pos k11,t.size_eq,hl]
   simp only [Tm.sizes]
   split
   ·simp only [Tm.skip,Tm.of,Tm.size,Tm.sizes]; omega
   ·simp only [Tm.of,Tm.size,Tm.sizes]; omega
  ·by_cases k7:t.kind = 7
   ·obtain ⟨x,hl,hx⟩:=okN_one ho k7
    have ix:=norm_size x hx
    have px:=x.size_pos
    rw [Tm.norm_one hl,if_pos k7,t.size_eq,hl]
    simp only [Tm.sizes]
    split
    ·simp only [Tm.skip,Tm.of,Tm.size,Tm.sizes]; omega
    ·simp only [Tm.of,Tm.size,Tm.sizes]; omega
   ·rw [norm_leaf ho k12 k11 k7]; omega
termination_by SizeOf.sizeOf t
decreasing_by all_goals (apply Tm.lt_of_mem; simp [hl])
end Go.Proofs.YtnngddgaobhkiaaGreat
namespace Go.Proofs.YtnngddgaobhkiaaGreat
open Go Go.Am Go.RowKit
attribute [local simp] W57 W57_rs W57_k1 W57_b3 W57_l4
theorem sp_r5z (t:Tm) (hs:t.size < 9223372036854775808):Am.Spec Tryz.prog 57 [.agg (encT t)] (.int .i64 t.size):=by
 refine W57_S (by simp) ?_
 intro vs
 simp [-W57_l4]
 refine sLoop_intro (fun i=>i ≤ t.l.length) (fun i=>t.l.length - i)
  (fun i=>[(1,.ref 1 (vs 1 + 1) (.p 0)),(3,.int .i64 (1 + Tm.sizes (t.l.take i))),(4,.int .i64 (i:Nat))]) (fun _=>[(1,.box (vs 1 + 1) 35 (encT t))]) 0 (by simp) (by simp [Tm.sizes]) (by simp) ?_
 intro L i vs hi hL
 by_cases h:i < t.l.length
 ·have hsz:t.size = 1 + (Tm.sizes (t.l.take i) + (t.l[i].size + Tm.sizes (t.l.drop (i + 1)))):=by
   rw [Tm.size_eq,Tm.sizes_split t.l (i + 1),Tm.sizes_take _ _ h]; omega
  have h1:=Tm.sizes_nonneg (t.l.take i)
  have h2:=Tm.sizes_nonneg (t.l.drop (i + 1))
  have h3:=t.l[i].size_pos
  have h4:=Tm.sizes_length t.l
  have h5:=t.size_eq
  simp [h]
  refine scall_pure (sp_r5z t.l[i] (by omega)) (by simp) (by simp) ?_
  simp
  rw [wrap64 (by omega) (by omega),wrap64 (by omega) (by omega)]
  refine hL _ _ _ (i + 1) h (by omega) ?_ (by simp)
  simp [Tm.sizes_take _ _ h]
  omega
 ·simp [h,retW_eq]
  rw [Tm.size_eq,List.take_of_length_le (by omega)]
termination_by SizeOf.sizeOf t
decreasing_by exact Tm.lt_of_mem (List.getElem_mem h)
end Go.Proofs.YtnngddgaobhkiaaGreat
