import Derived.Test.YtkagfenchknjjaaCi
set_option linter.unusedVariables false
set_option linter.unusedSimpArgs false
namespace Go.Proofs.Ytkagfenchknjjaa
open Go Go.Am Go.RowKit

def tX : Tm := .of 8 []
def tWt (a : Int) : Tm := ⟨14, a, -1, ⟨#[112, 97, 121]⟩, .zero, []⟩
def nest (ins : Bool) : Nat → Tm
  | 0 => if ins then .of 11 [tX, tWt 0] else tX
  | i + 1 => .of 12 [nest ins i, tX]
def rawT (k a b : Int) (s : ByteArray) (l : AV) : List AV := [.int .i64 k, .int .i64 a, .int .i64 b, .str s, .int .i64 0, .int .i64 0, .str ⟨#[]⟩, .nils, l]
def nestR (ins : Bool) : Nat → List AV
  | 0 => if ins then rawT 11 0 0 ⟨#[]⟩ (.slt [encT tX, encT (tWt 0)]) else rawT 8 0 0 ⟨#[]⟩ .nils
  | i + 1 => rawT 12 0 0 ⟨#[]⟩ (.slt [encT (nest ins i), encT tX])
theorem nestR_pur (H : Heap) (ins : Bool) (i : Nat) : (nestR ins i).map (pur0 H) = encT (nest ins i) := by
  cases i with
  | zero => cases ins <;> simp [nestR, nest, rawT, encT_of, tX]
  | succ i => simp [nestR, nest, rawT, encT_of]
@[simp] theorem nestR_len (ins : Bool) (i : Nat) : (nestR ins i).length = 9 := by
  cases i with
  | zero => cases ins <;> rfl
  | succ i => rfl
@[simp] theorem nestR_rd (ins : Bool) (i : Nat) : readA (nestR ins i) 0 9 true = some (.agg (nestR ins i)) := by
  cases i with
  | zero => cases ins <;> rfl
  | succ i => rfl
@[simp] theorem nestR_frz (H : Heap) (ins : Bool) (i : Nat) : (nestR ins i).foldl frz0 H = H := by
  cases i with
  | zero => cases ins <;> rfl
  | succ i => rfl
def finT (ins out : Bool) (d : Nat) : Tm := if out then .of 11 [tWt 1, .of 7 [nest ins d]] else .of 7 [nest ins d]
theorem finT_en (ins out : Bool) (d : Nat) (h : d < 4) : (finT ins out d).enabled.length = (if ins then 0 else 1) ∧ (finT ins out d).status = if ins then 1 else 0 := by
  rcases d with _ | _ | _ | _ | d
  · cases ins <;> cases out <;> simp [finT, nest, tX, tWt, Tm.status, Tm.enabled, Tm.norm, Tm.of, Tm.skip, Tm.enabledN, Tm.pls, Tm.pls1, Tm.plsL, kidW, stepsAt, stpN, stp, Tm.waits, Tm.act, Tm.acts, Tm.act1, List.range_succ]
  · cases ins <;> cases out <;> simp [finT, nest, tX, tWt, Tm.status, Tm.enabled, Tm.norm, Tm.of, Tm.skip, Tm.enabledN, Tm.pls, Tm.pls1, Tm.plsL, kidW, stepsAt, stpN, stp, Tm.waits, Tm.act, Tm.acts, Tm.act1, List.range_succ]
  · cases ins <;> cases out <;> simp [finT, nest, tX, tWt, Tm.status, Tm.enabled, Tm.norm, Tm.of, Tm.skip, Tm.enabledN, Tm.pls, Tm.pls1, Tm.plsL, kidW, stepsAt, stpN, stp, Tm.waits, Tm.act, Tm.acts, Tm.act1, List.range_succ]
  · cases ins <;> cases out <;> simp [finT, nest, tX, tWt, Tm.status, Tm.enabled, Tm.norm, Tm.of, Tm.skip, Tm.enabledN, Tm.pls, Tm.pls1, Tm.plsL, kidW, stepsAt, stpN, stp, Tm.waits, Tm.act, Tm.acts, Tm.act1, List.range_succ]
  · omega
theorem finT_wt (ins out : Bool) (d : Nat) (h : d < 4) : (finT ins out d).wt ≤ 68719476736 := by
  rcases d with _ | _ | _ | _ | d
  · cases ins <;> cases out <;> simp [finT, nest, tX, tWt, Tm.of, Tm.wt, Tm.wts, Ex.zero, Ex.wt, Ex.wts]
  · cases ins <;> cases out <;> simp [finT, nest, tX, tWt, Tm.of, Tm.wt, Tm.wts, Ex.zero, Ex.wt, Ex.wts]
  · cases ins <;> cases out <;> simp [finT, nest, tX, tWt, Tm.of, Tm.wt, Tm.wts, Ex.zero, Ex.wt, Ex.wts]
  · cases ins <;> cases out <;> simp [finT, nest, tX, tWt, Tm.of, Tm.wt, Tm.wts, Ex.zero, Ex.wt, Ex.wts]
  · omega
theorem encT_tWt (a : Int) : encT (tWt a) = [.int .i64 14, .int .i64 a, .int .i64 (-1), .str ⟨#[112, 97, 121]⟩, .int .i64 0, .int .i64 0, .str ⟨#[]⟩, .sl [], .sl []] := by rw [encT_eq]; rfl
theorem sp_ext (ins out : Bool) (deep : Int) : Am.Spec Try.prog 5 [.bool ins, .bool out, .int .i64 deep] (.bool true) := by
  have hd1 := within_ge deep 4 (by omega)
  have hd2 := within_lt deep 4 (by omega)
  refine Am.Spec.of_W (W := W5) Try.func5 (by kernel_rfl) (by kernel_rfl) (by kernel_rfl) Try.ntmps5 W5_eq (rs := [.tmp 6]) (by kernel_rfl) (by simp) ?_
  intro vs
  simp [W5, W5_rs, W5_b1, W5_b10, W5_b13, W5_b15, W5_b19, W5_b20, W5_c2, W5_c3, W5_c4, W5_c5, W5_c6, W5_c7, W5_c8, W5_c11, W5_c16, W5_c21, W5_k9, W5_k12, W5_k14, W5_k18, W5_l17]
  refine scall_flat sp_kno (by simp) (by simp) rfl ?_
  simp [W5, W5_rs, W5_b1, W5_b10, W5_b13, W5_b15, W5_b19, W5_b20, W5_c2, W5_c3, W5_c4, W5_c5, W5_c6, W5_c7, W5_c8, W5_c11, W5_c16, W5_c21, W5_k9, W5_k12, W5_k14, W5_k18, W5_l17]
  have body : ∀ (v7 v8 : Nat) (d : Nat), within deep 4 = d → d < 4 → ∀ (K : St → Prop) (i : Nat) (vu : Nat → Nat), i ≤ d →
      (∀ l' h' vs' (x' : Nat), x' ≤ d → d - x' < d - i → Am.subT l' [(0, .bool ins), (1, .bool out), (2, .int .i64 deep), (7, .ref 7 v7 (.p 0)), (8, .ref 8 v8 (.p 0)), (9, .int .i64 (x' : Nat))] →
        subA h' [(7, .box v7 34 (rawT 14 0 (-1) ⟨#[112, 97, 121]⟩ .nils)), (8, .box v8 34 (nestR ins x'))] → K ⟨Am.look l', hls h' vs', noG⟩) →
      W5_l17 Try.prog (retK Try.prog [.tmp 6] (.bool true)) K ⟨Am.look [(0, .bool ins), (1, .bool out), (2, .int .i64 deep), (7, .ref 7 v7 (.p 0)), (8, .ref 8 v8 (.p 0)), (9, .int .i64 (i : Nat))], hls [(7, .box v7 34 (rawT 14 0 (-1) ⟨#[112, 97, 121]⟩ .nils)), (8, .box v8 34 (nestR ins i))] vu, noG⟩ := by
    intro v7 v8 d hd hd4 K i vu hi hK
    simp [W5, W5_rs, W5_b1, W5_b10, W5_b13, W5_b15, W5_b19, W5_b20, W5_c2, W5_c3, W5_c4, W5_c5, W5_c6, W5_c7, W5_c8, W5_c11, W5_c16, W5_c21, W5_k9, W5_k12, W5_k14, W5_k18, W5_l17]
    refine scall_flat (sp_wit deep 4 (by omega) (by omega)) (by simp) (by simp) rfl ?_
    rw [hd]
    simp [W5, W5_rs, W5_b1, W5_b10, W5_b13, W5_b15, W5_b19, W5_b20, W5_c2, W5_c3, W5_c4, W5_c5, W5_c6, W5_c7, W5_c8, W5_c11, W5_c16, W5_c21, W5_k9, W5_k12, W5_k14, W5_k18, W5_l17]
    refine sIf_dec (fun h => ?_) (fun h => ?_)
    · simp [W5, W5_rs, W5_b1, W5_b10, W5_b13, W5_b15, W5_b19, W5_b20, W5_c2, W5_c3, W5_c4, W5_c5, W5_c6, W5_c7, W5_c8, W5_c11, W5_c16, W5_c21, W5_k9, W5_k12, W5_k14, W5_k18, W5_l17, nestR_pur]
      rw [wrap64 (by omega) (by omega)]
      exact hK _ _ _ (i + 1) h (by omega) (by simp) (by simp [nestR, rawT, encT_of, tX])
    · have e : i = d := by omega
      subst e
      obtain ⟨he, hs⟩ := finT_en ins out i hd4
      have hsp1 := sp_enb (finT ins out i) (finT_wt ins out i hd4)
      have hsp2 := sp_sts (finT ins out i) (finT_wt ins out i hd4)
      rw [hs] at hsp2
      generalize hgl : (finT ins out i).enabled = l at he hsp1
      clear hK hgl hs
      cases ins <;> cases out
      all_goals
        simp at he
        simp [W5, W5_rs, W5_b1, W5_b10, W5_b13, W5_b15, W5_b19, W5_b20, W5_c2, W5_c3, W5_c4, W5_c5, W5_c6, W5_c7, W5_c8, W5_c11, W5_c16, W5_c21, W5_k9, W5_k12, W5_k14, W5_k18, W5_l17, nestR_pur, rawT]
        refine scall_nrm hsp1 (by simp [nrmL, nrm, nrmLL, finT, encT_of, encT_tWt, nestR_pur]) (by simp [closedL, closedLL]) ?_
        simp [W5, W5_rs, W5_b1, W5_b10, W5_b13, W5_b15, W5_b19, W5_b20, W5_c2, W5_c3, W5_c4, W5_c5, W5_c6, W5_c7, W5_c8, W5_c11, W5_c16, W5_c21, W5_k9, W5_k12, W5_k14, W5_k18, W5_l17, he]
        refine scall_nrm hsp2 (by simp [nrmL, nrm, nrmLL, finT, encT_of, encT_tWt, nestR_pur]) (by simp [closedL, closedLL]) ?_
        simp [W5, W5_rs, W5_b1, W5_b10, W5_b13, W5_b15, W5_b19, W5_b20, W5_c2, W5_c3, W5_c4, W5_c5, W5_c6, W5_c7, W5_c8, W5_c11, W5_c16, W5_c21, W5_k9, W5_k12, W5_k14, W5_k18, W5_l17, retW_eq, he]
  obtain ⟨d, hd⟩ : ∃ d : Nat, within deep 4 = d := ⟨(within deep 4).toNat, by omega⟩
  have hd4 : d < 4 := by omega
  cases ins
  · simp [W5, W5_rs, W5_b1, W5_b10, W5_b13, W5_b15, W5_b19, W5_b20, W5_c2, W5_c3, W5_c4, W5_c5, W5_c6, W5_c7, W5_c8, W5_c11, W5_c16, W5_c21, W5_k9, W5_k12, W5_k14, W5_k18, W5_l17]
    exact sLoop_intro (fun i => i ≤ d) (fun i => d - i) _ _ 0 (by simp) (by simp) (by simp [nestR, rawT]) (body (vs 7 + 1) (vs 8 + 1) d hd hd4)
  · simp [W5, W5_rs, W5_b1, W5_b10, W5_b13, W5_b15, W5_b19, W5_b20, W5_c2, W5_c3, W5_c4, W5_c5, W5_c6, W5_c7, W5_c8, W5_c11, W5_c16, W5_c21, W5_k9, W5_k12, W5_k14, W5_k18, W5_l17]
    exact sLoop_intro (fun i => i ≤ d) (fun i => d - i) _ _ 0 (by simp) (by simp) (by simp [nestR, rawT, encT_of, encT_tWt, tX]) (body (vs 7 + 1) (vs 8 + 1) d hd hd4)
end Go.Proofs.Ytkagfenchknjjaa
