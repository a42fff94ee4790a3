import Derived.Test.YtkagfenchknjjaaCh
set_option linter.unusedVariables false
set_option linter.unusedSimpArgs false
namespace Go.Proofs.Ytkagfenchknjjaa
open Go Go.Am Go.RowKit

def kT (k : Int) : Tm := ⟨k, 0, 0, if k = 1 ∨ k = 14 then ⟨#[112, 97, 121]⟩ else ⟨#[]⟩, if k = 2 ∨ k = 9 then ⟨1, 1, ⟨#[]⟩, []⟩ else .zero, if k = 9 ∨ k = 10 ∨ k = 11 ∨ k = 12 then [.skip, .skip] else if k = 3 ∨ k = 7 then [.skip] else []⟩
def kW (k : Int) : Nat := if k = 0 ∨ k = 14 ∨ k = 12 ∨ k = 11 ∨ k = 7 then 0 else if k = 10 then 2 else 1
theorem skip_norm : Tm.skip.norm = Tm.skip := Tm.norm_else (by simp [Tm.skip, Tm.of]) (by simp [Tm.skip, Tm.of])
theorem skip_kind : Tm.skip.kind = 0 := rfl
theorem kT_en (k : Int) (h : 0 ≤ k) (h2 : k < 15) : (kT k).enabled = stp k [] (kW k) := by
  have : k = 0 ∨ k = 1 ∨ k = 2 ∨ k = 3 ∨ k = 4 ∨ k = 5 ∨ k = 6 ∨ k = 7 ∨ k = 8 ∨ k = 9 ∨ k = 10 ∨ k = 11 ∨ k = 12 ∨ k = 13 ∨ k = 14 := by omega
  rcases this with rfl | rfl | rfl | rfl | rfl | rfl | rfl | rfl | rfl | rfl | rfl | rfl | rfl | rfl | rfl <;>
    simp [kT, kW, Tm.enabled, Tm.norm, Tm.enabledN, skip_norm, skip_kind, Tm.pls, Tm.skip, Tm.of, stepsAt, stpN, stp, Tm.waits, Tm.act, List.range_succ]
theorem within_ge (a n : Int) (hn : 0 < n) : 0 ≤ within a n := by
  have h1 := Int.tmod_lt_of_pos a hn
  have h3 := Int.lt_tmod_of_pos a hn
  unfold within
  split <;> omega
theorem within_lt (a n : Int) (hn : 0 < n) : within a n < n := by
  have h1 := Int.tmod_lt_of_pos a hn
  unfold within
  split <;> omega
theorem slcV_one (n : Nat) (a : List AV) (l : List (List AV)) (k : IntKind) : slcV n (a :: l) none (some (k, 1)) = if ∀ r ∈ a :: l, r.length = n then some (.sl [a]) else none := by
  by_cases h : ∀ r ∈ a :: l, r.length = n
  · rw [if_pos h, slcV_to n _ _ 1 1 rfl (by simp) h]
    simp
  · rw [if_neg h]
    have : ((a :: l).all fun r => r.length == n) = false := by
      cases e : ((a :: l).all fun r => r.length == n) with
      | false => rfl
      | true => exact absurd (fun r hr => by simpa using List.all_eq_true.1 e r hr) h
    unfold slcV
    rw [this]
    simp
    cases decide ((1 : Int) ≤ ↑l.length + 1) <;> rfl
theorem sp_kin (a : Int) : Am.Spec Try.prog 7 [.int .i64 a] (.bool true) := by
  have hk1 := within_ge a 15 (by omega)
  have hk2 := within_lt a 15 (by omega)
  refine Am.Spec.of_W (W := W7) Try.func7 (by kernel_rfl) (by kernel_rfl) (by kernel_rfl) Try.ntmps7 W7_eq (rs := [.tmp 2]) (by kernel_rfl) (by simp) ?_
  intro vs
  simp [W7, W7_rs, W7_b1, W7_b3, W7_b4, W7_b19, W7_b23, W7_b24, W7_b30, W7_b31, W7_b32, W7_b34, W7_b35, W7_b36, W7_b37, W7_b39, W7_b41, W7_b45, W7_b49, W7_b53, W7_k2, W7_k22, W7_k29, W7_k33, W7_k38, W7_k40, W7_k44, W7_k48, W7_c5, W7_c6, W7_c7, W7_c8, W7_c9, W7_c10, W7_c11, W7_c12, W7_c13, W7_c14, W7_c15, W7_c16, W7_c17, W7_c18, W7_c21, W7_c25, W7_c26, W7_c27, W7_c28, W7_c42, W7_c43, W7_c46, W7_c47, W7_c50, W7_c51, W7_c52, W7_c54, W7_l20]
  refine scall_flat sp_kno (by simp) (by simp) rfl ?_
  simp [W7, W7_rs, W7_b1, W7_b3, W7_b4, W7_b19, W7_b23, W7_b24, W7_b30, W7_b31, W7_b32, W7_b34, W7_b35, W7_b36, W7_b37, W7_b39, W7_b41, W7_b45, W7_b49, W7_b53, W7_k2, W7_k22, W7_k29, W7_k33, W7_k38, W7_k40, W7_k44, W7_k48, W7_c5, W7_c6, W7_c7, W7_c8, W7_c9, W7_c10, W7_c11, W7_c12, W7_c13, W7_c14, W7_c15, W7_c16, W7_c17, W7_c18, W7_c21, W7_c25, W7_c26, W7_c27, W7_c28, W7_c42, W7_c43, W7_c46, W7_c47, W7_c50, W7_c51, W7_c52, W7_c54, W7_l20]
  refine scall_flat (sp_wit a 15 (by omega) (by omega)) (by simp) (by simp) rfl ?_
  generalize within a 15 = k at *
  have body : ∀ (K : St → Prop) (i : Nat) (vu : Nat → Nat), i ≤ kW k →
      (∀ l' h' vs' (x' : Nat), x' ≤ kW k → kW k - x' < kW k - i → Am.subT l' [(3, .int .i64 k), (5, .int .i64 (kW k)), (6, .sl ((stp k [] (kW k)).map encS)), (7, .int .i64 (x' : Nat))] → subA h' [] → K ⟨Am.look l', hls h' vs', noG⟩) →
      W7_l20 Try.prog (retK Try.prog [.tmp 2] (.bool true)) K ⟨Am.look [(3, .int .i64 k), (5, .int .i64 (kW k)), (6, .sl ((stp k [] (kW k)).map encS)), (7, .int .i64 (i : Nat))], hls [] vu, noG⟩ := by
    intro K i vu hi hK
    have hle : kW k ≤ 2 := by unfold kW; split; omega; split <;> omega
    simp [W7, W7_rs, W7_b1, W7_b3, W7_b4, W7_b19, W7_b23, W7_b24, W7_b30, W7_b31, W7_b32, W7_b34, W7_b35, W7_b36, W7_b37, W7_b39, W7_b41, W7_b45, W7_b49, W7_b53, W7_k2, W7_k22, W7_k29, W7_k33, W7_k38, W7_k40, W7_k44, W7_k48, W7_c5, W7_c6, W7_c7, W7_c8, W7_c9, W7_c10, W7_c11, W7_c12, W7_c13, W7_c14, W7_c15, W7_c16, W7_c17, W7_c18, W7_c21, W7_c25, W7_c26, W7_c27, W7_c28, W7_c42, W7_c43, W7_c46, W7_c47, W7_c50, W7_c51, W7_c52, W7_c54, W7_l20]
    refine sIf_dec (fun h => ?_) (fun h => ?_)
    · simp [W7, W7_rs, W7_b1, W7_b3, W7_b4, W7_b19, W7_b23, W7_b24, W7_b30, W7_b31, W7_b32, W7_b34, W7_b35, W7_b36, W7_b37, W7_b39, W7_b41, W7_b45, W7_b49, W7_b53, W7_k2, W7_k22, W7_k29, W7_k33, W7_k38, W7_k40, W7_k44, W7_k48, W7_c5, W7_c6, W7_c7, W7_c8, W7_c9, W7_c10, W7_c11, W7_c12, W7_c13, W7_c14, W7_c15, W7_c16, W7_c17, W7_c18, W7_c21, W7_c25, W7_c26, W7_c27, W7_c28, W7_c42, W7_c43, W7_c46, W7_c47, W7_c50, W7_c51, W7_c52, W7_c54, W7_l20, h, stp, encS, encI]
      rw [wrap64 (by omega) (by omega)]
      exact hK _ _ _ (i + 1) h (by omega) (by simp [stp, encS, encI]) (by simp)
    · simp [W7, W7_rs, W7_b1, W7_b3, W7_b4, W7_b19, W7_b23, W7_b24, W7_b30, W7_b31, W7_b32, W7_b34, W7_b35, W7_b36, W7_b37, W7_b39, W7_b41, W7_b45, W7_b49, W7_b53, W7_k2, W7_k22, W7_k29, W7_k33, W7_k38, W7_k40, W7_k44, W7_k48, W7_c5, W7_c6, W7_c7, W7_c8, W7_c9, W7_c10, W7_c11, W7_c12, W7_c13, W7_c14, W7_c15, W7_c16, W7_c17, W7_c18, W7_c21, W7_c25, W7_c26, W7_c27, W7_c28, W7_c42, W7_c43, W7_c46, W7_c47, W7_c50, W7_c51, W7_c52, W7_c54, W7_l20, retW_eq]
      try omega
  have go : ∀ (L : List (Nat × AV)) (H : List (Nat × Blk)) (vu : Nat → Nat), Am.subT L [(3, .int .i64 k), (5, .int .i64 (kW k)), (6, .sl ((stp k [] (kW k)).map encS)), (7, .int .i64 0)] →
      @sLoop ⟨Am.look L, hls H vu, noG⟩ ⟨fun L0 s => W7_l20 Try.prog (retK Try.prog [.tmp 2] (.bool true)) L0 s⟩ := fun L H vu hL =>
    sLoop_intro (fun i => i ≤ kW k) (fun i => kW k - i) _ (fun _ => []) 0 (by simp) (by simpa using hL) (by simp) body
  have hen := kT_en k hk1 hk2
  have hwt : (kT k).wt ≤ 68719476736 := by
    unfold kT
    simp only [Tm.wt]
    have e1 : (if k = 2 ∨ k = 9 then (⟨1, 1, ⟨#[]⟩, []⟩ : Ex) else Ex.zero).wt = 1 := by split <;> simp [Ex.zero, Ex.wt, Ex.wts]
    rw [e1]
    split
    · simp [Tm.wts, Tm.skip, Tm.wt_of]
    · split <;> simp [Tm.wts, Tm.skip, Tm.wt_of]
  have hcs : k = 0 ∨ k = 1 ∨ k = 2 ∨ k = 3 ∨ k = 4 ∨ k = 5 ∨ k = 6 ∨ k = 7 ∨ k = 8 ∨ k = 9 ∨ k = 10 ∨ k = 11 ∨ k = 12 ∨ k = 13 ∨ k = 14 := by omega
  have hsp := sp_enb (kT k) hwt
  rw [hen] at hsp
  clear body hen hwt
  rcases hcs with rfl | rfl | rfl | rfl | rfl | rfl | rfl | rfl | rfl | rfl | rfl | rfl | rfl | rfl | rfl
  all_goals
    simp [W7, W7_rs, W7_b1, W7_b3, W7_b4, W7_b19, W7_b23, W7_b24, W7_b30, W7_b31, W7_b32, W7_b34, W7_b35, W7_b36, W7_b37, W7_b39, W7_b41, W7_b45, W7_b49, W7_b53, W7_k2, W7_k22, W7_k29, W7_k33, W7_k38, W7_k40, W7_k44, W7_k48, W7_c5, W7_c6, W7_c7, W7_c8, W7_c9, W7_c10, W7_c11, W7_c12, W7_c13, W7_c14, W7_c15, W7_c16, W7_c17, W7_c18, W7_c21, W7_c25, W7_c26, W7_c27, W7_c28, W7_c42, W7_c43, W7_c46, W7_c47, W7_c50, W7_c51, W7_c52, W7_c54, W7_l20, slcV_one]
    refine scall_nrm hsp (by simp [nrmL, nrm, nrmLL, kT, encT_eq, encE_eq, Ex.zero, Tm.skip, Tm.of]) (by simp [closedL, closedLL]) ?_
    simp [W7, W7_rs, W7_b1, W7_b3, W7_b4, W7_b19, W7_b23, W7_b24, W7_b30, W7_b31, W7_b32, W7_b34, W7_b35, W7_b36, W7_b37, W7_b39, W7_b41, W7_b45, W7_b49, W7_b53, W7_k2, W7_k22, W7_k29, W7_k33, W7_k38, W7_k40, W7_k44, W7_k48, W7_c5, W7_c6, W7_c7, W7_c8, W7_c9, W7_c10, W7_c11, W7_c12, W7_c13, W7_c14, W7_c15, W7_c16, W7_c17, W7_c18, W7_c21, W7_c25, W7_c26, W7_c27, W7_c28, W7_c42, W7_c43, W7_c46, W7_c47, W7_c50, W7_c51, W7_c52, W7_c54, W7_l20, -W7_l20]
    refine go _ _ _ (by simp [kW])
end Go.Proofs.Ytkagfenchknjjaa
