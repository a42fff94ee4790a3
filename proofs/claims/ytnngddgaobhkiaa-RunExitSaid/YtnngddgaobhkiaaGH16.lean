import Derived.Test.YtnngddgaobhkiaaGF11
import Derived.Test.YtnngddgaobhkiaaGH15
import Derived.Test.YtnngddgaobhkiaaGQ10
import Derived.Test.YtnngddgaobhkiaaGE14
import Derived.Test.YtnngddgaobhkiaaGJ13
set_option linter.unusedVariables false
set_option linter.unusedSimpArgs false
namespace Go.Proofs.Ytnngddgaobhkiaa
open Go Go.Am Go.RowKit
attribute [local simp] W48 W48_rs W48_b1 W48_b2 W64 W64_rs W64_b1 W64_b2 W49 W49_rs W49_b1 W49_b2 W49_b3 W49_b6 W49_b7 W49_b8 W49_b9 W49_b12 W50 W50_rs W50_b2 W50_b4 W50_b5 W50_b6 W50_b7 W50_b9 W50_b10 W50_b11 W50_b12 W50_b14 W50_b15 W50_b16 W50_b17 W50_b18 W50_b21 W50_b22 W50_b24 W50_b26 W50_b28 W50_b30 W50_b32 W50_b34 W50_b35 W50_b36 W50_b37 W50_b38 W50_b39 W50_b41 W50_b42 W50_b43 W50_b44 W50_k40 W25 W25_rs W25_b1 W25_b2 W25_b3 W25_b9 W25_b10 W25_b11 W25_b13 W25_b15 W25_b16 W25_b17 W25_b18 W25_b19 W25_b21 W25_b23 W25_b27 W25_b29 W25_b30 W25_b33 W25_b36 W25_b37 W25_b38 W25_b40 W25_b41 W25_b42

/-! ### Numbers that are reckoned -/
def encR (x : Int × Int) : AV := .tup [.int .i64 x.1, .int .i64 x.2]
theorem fit_in {n : Int} (h : isI64 n = true) : fit n = (n, 0) := by rw [fit, if_pos h]
theorem fit_out {n : Int} (h : ¬ isI64 n = true) : fit n = (0, 8) := by rw [fit, if_neg h]
theorem sp_tru (b : Bool) : Am.Spec Try.prog 48 [.bool b] (.int .i64 (truthN b)) := by
  cases b
  · refine W48_S (by simp) ?_
    intro vs
    simp [truthN, retW_eq]
  · refine W48_S (by simp) ?_
    intro vs
    simp [truthN, retW_eq]
theorem sp_sum (a b : Int) (ha : isI64 a = true) (hb : isI64 b = true) : Am.Spec Try.prog 64 [.int .i64 a, .int .i64 b] (encR (fit (a + b))) := by
  rw [isI64_iff] at ha hb
  have key : ∀ c, fit (a + b) = c → Am.Spec Try.prog 64 [.int .i64 a, .int .i64 b] (encR c) := fun c hc => by
    by_cases hf : isI64 (a + b) = true
    · rw [fit_in hf] at hc
      subst hc
      rw [isI64_iff] at hf
      have w0 : IntKind.wrap .i64 (a + b) = a + b := wrap64 hf.1 hf.2
      by_cases h1 : 0 < b
      · have w1 : IntKind.wrap .i64 (9223372036854775807 - b) = 9223372036854775807 - b := wrap64 (by omega) (by omega)
        have h2 : ¬ 9223372036854775807 - b < a := by omega
        have h3 : ¬ b < 0 := by omega
        refine W64_S (by simp) ?_
        intro vs
        simp [h1, w0, w1, h2, h3, encR, retW_eq]
      · by_cases h3 : b < 0
        · have w1 : IntKind.wrap .i64 (-9223372036854775808 - b) = -9223372036854775808 - b := wrap64 (by omega) (by omega)
          have h2 : ¬ a < -9223372036854775808 - b := by omega
          refine W64_S (by simp) ?_
          intro vs
          simp [h1, w0, w1, h2, h3, encR, retW_eq]
        · refine W64_S (by simp) ?_
          intro vs
          simp [h1, w0, h3, encR, retW_eq]
    · rw [fit_out hf] at hc
      subst hc
      rw [isI64_iff] at hf
      by_cases h1 : 0 < b
      · have w1 : IntKind.wrap .i64 (9223372036854775807 - b) = 9223372036854775807 - b := wrap64 (by omega) (by omega)
        have h2 : 9223372036854775807 - b < a := by omega
        have h3 : ¬ b < 0 := by omega
        refine W64_S (by simp) ?_
        intro vs
        simp [h1, w1, h2, h3, encR, retW_eq]
      · have h3 : b < 0 := by omega
        have w1 : IntKind.wrap .i64 (-9223372036854775808 - b) = -9223372036854775808 - b := wrap64 (by omega) (by omega)
        have h2 : a < -9223372036854775808 - b := by omega
        refine W64_S (by simp) ?_
        intro vs
        simp [h1, w1, h2, h3, encR, retW_eq]
  exact key _ rfl
theorem sp_tms (a b : Int) (ha : isI64 a = true) (hb : isI64 b = true) : Am.Spec Try.prog 49 [.int .i64 a, .int .i64 b] (encR (fit (a * b))) := by
  have hm := mul_wrap a b ha hb
  have ha' := (isI64_iff a).1 ha
  have hb' := (isI64_iff b).1 hb
  by_cases h0 : a = 0
  · subst h0
    rw [Int.zero_mul, fit_in (by rfl)]
    refine W49_S (by simp) ?_
    intro vs
    simp [encR, retW_eq]
  by_cases h1 : b = 0
  · subst h1
    rw [Int.mul_zero, fit_in (by rfl)]
    refine W49_S (by simp) ?_
    intro vs
    simp [h0, encR, retW_eq]
  by_cases h2 : a = -1
  · subst h2
    by_cases h3 : b = -9223372036854775808
    · subst h3
      rw [fit_out (by decide)]
      refine W49_S (by simp) ?_
      intro vs
      simp [encR, retW_eq]
    · have e : (-1 : Int) * b = -b := by omega
      have w : IntKind.wrap .i64 (-b) = -b := wrap64 (by omega) (by omega)
      rw [e, fit_in ((isI64_iff _).2 (by omega))]
      refine W49_S (by simp) ?_
      intro vs
      simp [h1, h3, e, w, encR, retW_eq]
  by_cases h4 : b = -1
  · subst h4
    by_cases h3 : a = -9223372036854775808
    · subst h3
      rw [fit_out (by decide)]
      refine W49_S (by simp) ?_
      intro vs
      simp [encR, retW_eq]
    · have e : a * (-1 : Int) = -a := by omega
      have w : IntKind.wrap .i64 (-a) = -a := wrap64 (by omega) (by omega)
      rw [e, fit_in ((isI64_iff _).2 (by omega))]
      refine W49_S (by simp) ?_
      intro vs
      simp [h0, h2, h3, e, w, encR, retW_eq]
  have hm := hm h1
  obtain ⟨c, hc⟩ : ∃ c, a * b = c := ⟨_, rfl⟩
  rw [hc] at hm ⊢
  have hq : IntKind.wrap .i64 ((IntKind.wrap .i64 c).tdiv b) = (IntKind.wrap .i64 c).tdiv b := by
    have hw : -9223372036854775808 ≤ IntKind.wrap .i64 c ∧ IntKind.wrap .i64 c < 9223372036854775808 := by
      rw [IntKind.wrap_i64]; omega
    clear hm
    generalize IntKind.wrap .i64 c = w at hw ⊢
    have h8 : (w.tdiv b).natAbs ≤ w.natAbs := Int.natAbs_tdiv_le_natAbs w b
    by_cases hb1 : b = 1
    · rw [hb1, Int.tdiv_one]; exact wrap64 hw.1 hw.2
    obtain ⟨d, hd⟩ : ∃ d, w.tdiv b = d := ⟨_, rfl⟩
    by_cases hw0 : w = -9223372036854775808
    · have h5 : 2 ≤ b.natAbs := by omega
      have h6 : (w.tdiv b).natAbs = w.natAbs / b.natAbs := Int.natAbs_tdiv ..
      have h7 : w.natAbs / b.natAbs ≤ w.natAbs / 2 := Nat.div_le_div_left h5 (by omega)
      rw [hd] at h6 ⊢
      have h9 : w.natAbs / 2 = 4611686018427387904 := by subst hw0; rfl
      have h10 : d.natAbs ≤ 4611686018427387904 := by rw [h6, ← h9]; exact h7
      exact wrap64 (by omega) (by omega)
    · rw [hd] at h8 ⊢
      exact wrap64 (by omega) (by omega)
  by_cases hf : isI64 c = true
  · rw [fit_in hf]
    have hd := hm.2 hf
    have w := (isI64_iff c).1 hf
    have w := wrap64 w.1 w.2
    rw [w] at hd hq
    refine W49_S (by simp) ?_
    intro vs
    have wa : IntKind.wrap .i64 a = a := wrap64 (by omega) (by omega)
    simp [h0, h1, h2, h4, hc, w, hd, wa, encR, retW_eq]
  · rw [fit_out hf]
    have hd : ¬ _ := fun h => hf (hm.1 h)
    refine W49_S (by simp) ?_
    intro vs
    simp [h0, h1, h2, h4, hc, hq, hd, encR, retW_eq]
theorem sp_two (k a b : Int) (hk : 5 ≤ k ∧ k ≤ 15) (ha : isI64 a = true) (hb : isI64 b = true) : Am.Spec Try.prog 50 [.int .i64 k, .int .i64 a, .int .i64 b] (encR (ev2 k a b)) := by
  have ha' := (isI64_iff a).1 ha
  have hb' := (isI64_iff b).1 hb
  have hT := sp_tms a b ha hb
  have hS := sp_sum a b ha hb
  obtain ⟨h1, h2⟩ := hk
  rcases (by omega : k = 5 ∨ k = 6 ∨ k = 7 ∨ k = 8 ∨ k = 9 ∨ k = 10 ∨ k = 11 ∨ k = 12 ∨ k = 13 ∨ k = 14 ∨ k = 15) with rfl | rfl | rfl | rfl | rfl | rfl | rfl | rfl | rfl | rfl | rfl
  · have e : ev2 5 a b = fit (a * b) := rfl
    rw [e]
    refine W50_S (by simp) ?_
    intro vs
    simp
    refine scall_pure hT (by simp [encR]) (by simp [encR]) ?_
    simp [encR, retW_eq]
  · have e : ev2 6 a b = if b = 0 then (0, 9) else fit (a.tdiv b) := rfl
    rw [e]
    by_cases h0 : b = 0
    · subst h0
      refine W50_S (by simp) ?_
      intro vs
      simp [encR, retW_eq]
    · rw [if_neg h0]
      by_cases h5 : b = -1
      · subst h5
        have e : a.tdiv (-1) = a * -1 := by rw [Int.tdiv_neg, Int.tdiv_one]; omega
        rw [e]
        refine W50_S (by simp) ?_
        intro vs
        simp
        refine scall_pure hT (by simp [encR]) (by simp [encR]) ?_
        simp [encR, retW_eq]
      · have h8 : (a.tdiv b).natAbs ≤ a.natAbs := Int.natAbs_tdiv_le_natAbs a b
        have h9 : isI64 (a.tdiv b) = true := by
          rw [isI64_iff]
          by_cases hw0 : a = -9223372036854775808
          · have h5 : 2 ≤ b.natAbs ∨ b = 1 := by omega
            rcases h5 with h5 | rfl
            · have h6 : (a.tdiv b).natAbs = a.natAbs / b.natAbs := Int.natAbs_tdiv ..
              have h7 : a.natAbs / b.natAbs ≤ a.natAbs / 2 := Nat.div_le_div_left h5 (by omega)
              have h9 : a.natAbs / 2 = 4611686018427387904 := by subst hw0; rfl
              have h10 : (a.tdiv b).natAbs ≤ 4611686018427387904 := by rw [h6, ← h9]; exact h7
              omega
            · rw [Int.tdiv_one]; exact ha'
          · omega
        rw [fit_in h9]
        have w := (isI64_iff _).1 h9
        have w := wrap64 w.1 w.2
        refine W50_S (by simp) ?_
        intro vs
        simp [h0, h5, w, encR, retW_eq]
  · have e : ev2 7 a b = if b = 0 then (0, 9) else (a.tmod b, 0) := rfl
    rw [e]
    by_cases h0 : b = 0
    · subst h0
      refine W50_S (by simp) ?_
      intro vs
      simp [encR, retW_eq]
    · rw [if_neg h0]
      by_cases h5 : b = -1
      · subst h5
        have e : a.tmod (-1) = 0 := by rw [Int.tmod_neg, Int.tmod_one]
        rw [e]
        refine W50_S (by simp) ?_
        intro vs
        simp [encR, retW_eq]
      · refine W50_S (by simp) ?_
        intro vs
        simp [h0, h5, encR, retW_eq]
  · have e : ev2 8 a b = fit (a + b) := rfl
    rw [e]
    refine W50_S (by simp) ?_
    intro vs
    simp
    refine scall_pure hS (by simp [encR]) (by simp [encR]) ?_
    simp [encR, retW_eq]
  · have e : ev2 9 a b = fit (a - b) := rfl
    rw [e]
    by_cases h0 : b = -9223372036854775808
    · subst h0
      by_cases h1 : 0 ≤ a
      · rw [fit_out (by rw [isI64_iff]; omega)]
        refine W50_S (by simp) ?_
        intro vs
        simp [h1, encR, retW_eq]
      · have h9 : isI64 (a - -9223372036854775808) = true := by rw [isI64_iff]; omega
        rw [fit_in h9]
        have w := (isI64_iff _).1 h9
        have w := wrap64 w.1 w.2
        refine W50_S (by simp) ?_
        intro vs
        simp [h1, encR, retW_eq]
        simpa using w
    · have hn : isI64 (-b) = true := by rw [isI64_iff]; omega
      have hS := sp_sum a (-b) ha hn
      have e : a - b = a + -b := by omega
      rw [e]
      have w : IntKind.wrap .i64 (-b) = -b := wrap64 (by omega) (by omega)
      refine W50_S (by simp) ?_
      intro vs
      simp [h0, w]
      refine scall_pure hS (by simp [encR]) (by simp [encR]) ?_
      simp [encR, retW_eq]
  · have e : ev2 10 a b = (truthN (decide (a = b)), 0) := rfl
    rw [e]
    refine W50_S (by simp) ?_
    intro vs
    simp
    refine scall_pure (sp_tru (decide (a = b))) (by simp) (by simp) ?_
    simp [encR, retW_eq]
  · have e : ev2 11 a b = (truthN (decide (a ≠ b)), 0) := rfl
    rw [e]
    refine W50_S (by simp) ?_
    intro vs
    simp
    refine scall_pure (sp_tru (decide (a ≠ b))) (by simp) (by simp) ?_
    simp [encR, retW_eq]
  · have e : ev2 12 a b = (truthN (decide (a < b)), 0) := rfl
    rw [e]
    refine W50_S (by simp) ?_
    intro vs
    simp
    refine scall_pure (sp_tru (decide (a < b))) (by simp) (by simp) ?_
    simp [encR, retW_eq]
  · have e : ev2 13 a b = (truthN (decide (a ≤ b)), 0) := rfl
    rw [e]
    refine W50_S (by simp) ?_
    intro vs
    simp
    refine scall_pure (sp_tru (decide (a ≤ b))) (by simp) (by simp) ?_
    simp [encR, retW_eq]
  · have e : ev2 14 a b = (truthN (decide (b < a)), 0) := rfl
    rw [e]
    refine W50_S (by simp) ?_
    intro vs
    simp
    refine scall_pure (sp_tru (decide (b < a))) (by simp) (by simp) ?_
    simp [encR, retW_eq]
  · have e : ev2 15 a b = (truthN (decide (b ≤ a)), 0) := rfl
    rw [e]
    refine W50_S (by simp) ?_
    intro vs
    simp
    refine scall_pure (sp_tru (decide (b ≤ a))) (by simp) (by simp) ?_
    simp [encR, retW_eq]
theorem Ex.pre_kid {x y z : Ex} (h : y ∈ x.l) (hz : z ∈ Ex.pre y) : z ∈ Ex.pre x := by
  rw [Ex.pre_eq]
  refine List.mem_cons_of_mem _ ?_
  generalize x.l = l at h
  induction l with
  | nil => simp at h
  | cons w l ih =>
    simp only [Ex.pres, List.mem_append]
    rcases List.mem_cons.1 h with rfl | h
    · exact .inl hz
    · exact .inr (ih h)
theorem evE_num {v : List Int} {x : Ex} (h : x.kind = 1) : evE v x = (x.n, 0) := by
  obtain ⟨k, n, s, _ | ⟨y, _ | ⟨z, l⟩⟩⟩ := x <;> (simp only at h; subst h; simp [evE])
theorem evE_var {v : List Int} {x : Ex} (h : x.kind = 2) : evE v x = (v.getD x.n.toNat 0, 0) := by
  obtain ⟨k, n, s, _ | ⟨y, _ | ⟨z, l⟩⟩⟩ := x <;> (simp only at h; subst h; simp [evE])
theorem sp_eev (v : List Int) (hv : ∀ n ∈ v, isI64 n = true) (hvl : v.length ≤ 1000) (x : Ex) (hr : exRight v.length x = true) (hx : ∀ y ∈ Ex.pre x, isI64 y.n = true) :
    Am.Spec Try.prog 25 [.agg (encE x), .sl (encI v)] (encR (evE v x)) := by
  rw [exRight_eq] at hr
  simp only [Bool.and_eq_true, exOk, decide_eq_true_eq] at hr
  obtain ⟨⟨h1, h2, h3, h4, h5⟩, h6⟩ := hr
  have h6 := List.all_eq_true.1 h6
  have ih : ∀ y ∈ x.l, Am.Spec Try.prog 25 [.agg (encE y), .sl (encI v)] (encR (evE v y)) := fun y hy => sp_eev v hv hvl y (h6 y hy) fun z hz => hx z (Ex.pre_kid hy hz)
  have hle : ∀ y ∈ x.l, isI64 (evE v y).1 = true := fun y hy => evE_le v hv y fun z hz => hx z (Ex.pre_kid hy hz)
  by_cases k1 : x.kind = 1
  · rw [evE_num k1]
    refine W25_S (by simp) ?_
    intro vs
    simp [k1, encR, retW_eq]
  by_cases k2 : x.kind = 2
  · rw [if_neg k1, if_pos k2] at h5
    simp only [Bool.and_eq_true, decide_eq_true_eq] at h5
    obtain ⟨i, hi⟩ : ∃ i : Nat, x.n = i := ⟨x.n.toNat, by omega⟩
    have hil : i < v.length := by omega
    have hx0 : ixRows (encI v) (i : Int) 1 = some (.elt [.int .i64 v[i]] 0) := encI_at _ i hil _ rfl
    have e : v.getD x.n.toNat 0 = v[i] := by rw [hi]; simp [List.getD_eq_getElem?_getD, hil]
    have hl : (i : Int) < v.length := by omega
    have hl' : ¬ (v.length : Int) ≤ i := by omega
    have hn : ¬ (i : Int) < 0 := by omega
    rw [evE_var k2, e]
    refine W25_S (by simp) ?_
    intro vs
    simp [k2, hi, hn, hl, hl', hx0, encR, retW_eq]
  by_cases k3 : x.kind = 3 ∨ x.kind = 4
  · obtain ⟨y, hy⟩ : ∃ y, x.l = [y] := by
      rcases hL : x.l with _ | ⟨y, _ | ⟨z, l⟩⟩
      · rw [hL] at h4; rcases k3 with k | k <;> simp [kids, k] at h4
      · exact ⟨y, rfl⟩
      · rw [hL] at h4; rcases k3 with k | k <;> simp [kids, k] at h4 <;> omega
    have hey := ih y (by simp [hy])
    have hly := hle y (by simp [hy])
    rw [evE_one k1 k2 hy]
    generalize evE v y = c at *
    obtain ⟨a, e⟩ := c
    by_cases he : e = 0
    · subst he
      have hA : evA x.kind (a, 0) = if x.kind = 3 then (truthN (decide (a = 0)), 0) else fit (-a) := by simp [evA]
      rw [hA]
      rcases k3 with k | k
      · rw [if_pos k]
        refine W25_S (by simp) ?_
        intro vs
        simp [k, hy]
        refine scall_pure hey (by simp [encR]) (by simp [encR]) ?_
        simp [k, encR]
        refine scall_pure (sp_tru (decide (a = 0))) (by simp) (by simp) ?_
        simp [retW_eq, encR]
      · rw [if_neg (by omega)]
        have ht := sp_tms a (-1) hly (by rfl)
        rw [show a * -1 = -a by omega] at ht
        refine W25_S (by simp) ?_
        intro vs
        simp [k, hy]
        refine scall_pure hey (by simp [encR]) (by simp [encR]) ?_
        simp [k, encR]
        refine scall_pure ht (by simp [encR]) (by simp [encR]) ?_
        simp [retW_eq, encR]
    · have hA : evA x.kind (a, e) = (0, e) := by simp [evA, he]
      rw [hA]
      refine W25_S (by simp) ?_
      intro vs
      simp [k1, k2, hy]
      refine scall_pure hey (by simp [encR]) (by simp [encR]) ?_
      simp [he, retW_eq, encR]
  · obtain ⟨y, z, hy⟩ : ∃ y z, x.l = [y, z] := by
      have hk : kids x.kind = 2 := by unfold kids; rw [if_neg (by omega), if_neg k3]
      rw [hk] at h4
      rcases hL : x.l with _ | ⟨y, _ | ⟨z, _ | ⟨w, l⟩⟩⟩
      · rw [hL] at h4; simp at h4
      · rw [hL] at h4; simp at h4
      · exact ⟨y, z, rfl⟩
      · rw [hL] at h4; simp at h4; omega
    have hey := ih y (by simp [hy])
    have hly := hle y (by simp [hy])
    have hez := ih z (by simp [hy])
    have hlz := hle z (by simp [hy])
    rw [evE_two k1 k2 hy]
    generalize evE v y = c at *
    generalize evE v z = d at *
    obtain ⟨a, e⟩ := c
    obtain ⟨b, f⟩ := d
    have k3' : ¬ x.kind = 3 := by omega
    have k4' : ¬ x.kind = 4 := by omega
    by_cases he : e = 0
    · subst he
      have hB : evB x.kind (a, 0) (b, f) = if x.kind = 16 ∧ a = 0 then (0, 0) else if x.kind = 17 ∧ a ≠ 0 then (1, 0) else if f ≠ 0 then (0, f) else if x.kind = 16 ∨ x.kind = 17 then (truthN (decide (b ≠ 0)), 0) else ev2 x.kind a b := by simp [evB]
      rw [hB]
      by_cases k6 : x.kind = 16 ∧ a = 0
      · rw [if_pos k6]
        obtain ⟨k, rfl⟩ := k6
        refine W25_S (by simp) ?_
        intro vs
        simp [k, hy]
        refine scall_pure hey (by simp [encR]) (by simp [encR]) ?_
        simp [k, retW_eq, encR]
      by_cases k7 : x.kind = 17 ∧ a ≠ 0
      · rw [if_neg k6, if_pos k7]
        obtain ⟨k, ha⟩ := k7
        refine W25_S (by simp) ?_
        intro vs
        simp [k, hy]
        refine scall_pure hey (by simp [encR]) (by simp [encR]) ?_
        simp [k, ha, retW_eq, encR]
      rw [if_neg k6, if_neg k7]
      by_cases k : x.kind = 16
      · have ha : ¬ a = 0 := fun h => k6 ⟨k, h⟩
        by_cases hf : f = 0
        · subst hf
          rw [if_neg (by simp), if_pos (.inl k)]
          refine W25_S (by simp) ?_
          intro vs
          simp [k, hy]
          refine scall_pure hey (by simp [encR]) (by simp [encR]) ?_
          simp [k, ha, hy, encR]
          refine scall_pure hez (by simp [encR]) (by simp [encR]) ?_
          simp [k, encR]
          refine scall_pure (sp_tru (decide (b ≠ 0))) (by simp) (by simp) ?_
          simp [retW_eq, encR]
        · rw [if_pos hf]
          refine W25_S (by simp) ?_
          intro vs
          simp [k, hy]
          refine scall_pure hey (by simp [encR]) (by simp [encR]) ?_
          simp [k, ha, hy, encR]
          refine scall_pure hez (by simp [encR]) (by simp [encR]) ?_
          simp [hf, retW_eq, encR]
      by_cases k' : x.kind = 17
      · have ha : a = 0 := by
          by_cases h : a = 0
          · exact h
          · exact absurd ⟨k', h⟩ k7
        by_cases hf : f = 0
        · subst hf
          rw [if_neg (by simp), if_pos (.inr k')]
          refine W25_S (by simp) ?_
          intro vs
          simp [k', hy]
          refine scall_pure hey (by simp [encR]) (by simp [encR]) ?_
          simp [k', ha, hy, encR]
          refine scall_pure hez (by simp [encR]) (by simp [encR]) ?_
          simp [k', encR]
          refine scall_pure (sp_tru (decide (b ≠ 0))) (by simp) (by simp) ?_
          simp [retW_eq, encR]
        · rw [if_pos hf]
          refine W25_S (by simp) ?_
          intro vs
          simp [k', hy]
          refine scall_pure hey (by simp [encR]) (by simp [encR]) ?_
          simp [k', ha, hy, encR]
          refine scall_pure hez (by simp [encR]) (by simp [encR]) ?_
          simp [hf, retW_eq, encR]
      · by_cases hf : f = 0
        · subst hf
          have h2 := sp_two x.kind a b ⟨by omega, by omega⟩ hly hlz
          rw [if_neg (by simp), if_neg (by simp [k, k'])]
          generalize ev2 x.kind a b = c at *
          refine W25_S (by simp) ?_
          intro vs
          simp [k1, k2, hy]
          refine scall_pure hey (by simp [encR]) (by simp [encR]) ?_
          simp [k, k', k3', k4', hy, encR]
          refine scall_pure hez (by simp [encR]) (by simp [encR]) ?_
          simp [k, k', encR]
          refine scall_pure h2 (by simp [encR]) (by simp [encR]) ?_
          simp [retW_eq, encR]
        · rw [if_pos hf]
          refine W25_S (by simp) ?_
          intro vs
          simp [k1, k2, hy]
          refine scall_pure hey (by simp [encR]) (by simp [encR]) ?_
          simp [k, k', k3', k4', hy, encR]
          refine scall_pure hez (by simp [encR]) (by simp [encR]) ?_
          simp [hf, retW_eq, encR]
    · have hA : evB x.kind (a, e) (b, f) = (0, e) := by simp [evB, he]
      rw [hA]
      refine W25_S (by simp) ?_
      intro vs
      simp [k1, k2, hy]
      refine scall_pure hey (by simp [encR]) (by simp [encR]) ?_
      simp [he, retW_eq, encR]
termination_by SizeOf.sizeOf x
decreasing_by exact Ex.lt_of_mem hy
end Go.Proofs.Ytnngddgaobhkiaa
set_option linter.unusedVariables false
set_option linter.unusedSimpArgs false
namespace Go.Proofs.Ytnngddgaobhkiaa
open Go Go.Am Go.RowKit
attribute [local simp] W10 W10_rs W10_b1 W10_b2 W10_b3 W10_b4 W10_b10 W10_b11 W10_b13 W10_b15 W10_b17 W10_b19 W10_b20 W10_b21 W10_b22 W10_b23 W10_b25 W10_b26 W10_b27 W10_b28 W10_b29 W10_b30 W10_b31 W10_b32 W10_b33 W10_b34 W10_b37 W10_b43 W10_b44 W10_k9 W10_k35 W10_s50 W10_g51

/-! ### A step that is done -/
/-- A scope that is left by one jump at most. -/
theorem sScope_out {s : St} {B g : (Nat → St → Prop) → St → Prop} (I : St → Prop) (hB : ∀ J : Nat → St → Prop, (∀ s, I s → J 0 s) → B J s) (hg : ∀ J s, I s → g J s) : @sScope s ⟨B⟩ ⟨[(0, g)]⟩ := by
  unfold sScope
  refine ⟨fun l m s => l = 0 ∧ I s, hB _ fun s h => ⟨0, s, .refl s, rfl, h⟩, fun l m s h => ?_⟩
  obtain ⟨rfl, h⟩ := h
  exact hg _ s h
theorem no_f (e : Int) : (Did.no e).f = .zero := rfl
theorem no_ev (e : Int) : (Did.no e).ev = .zero := rfl
theorem no_is (e : Int) : (Did.no e).is = false := rfl
theorem no_e (e : Int) : (Did.no e).e = e := rfl
theorem encF_zero : encF .zero = [.int .i64 0, .int .i64 0, .int .i64 0, .str ⟨#[]⟩, .int .i64 0, .int .i64 0, .str ⟨#[]⟩, .sl [], .sl [], .sl [], .sl [], .int .i64 0, .int .i64 0] := by rw [encF_eq]; rfl
theorem encEv_zero : encEv .zero = [.str ⟨#[]⟩, .int .i64 0, .int .i64 0] := rfl
theorem onP_len {t : Tm} {p : List Int} (h : OnPath t p) : p.length ≤ t.wt := by
  induction h with
  | nil t => simp
  | cons t i h p hp ih =>
    have h1 := Tm.wt_eq t
    have h2 := Tm.wts_mem (List.getElem_mem h)
    simp only [List.length_cons]
    omega
def didR (d : Did) : AV := .tup [.agg (encF d.f), .agg (encEv d.ev), .bool d.is, .int .i64 d.e]
def doH (c : Cor) (f g : Cfg) (vars : List Int) (ev : Ev) (B11 : List AV) (x : Tm) (cs : List AV) (v3 v4 v6 v7 v60 v11 v12 v14 : Nat) : List (Nat × Blk) :=
  [(3, .box v3 33 (encC c)), (4, .box v4 36 (encF f)), (6, .box v6 36 (encFL g 60 v60)), (7, .box v7 39 (encEv ev)), (60, .row v60 3 1 (encI vars)),
    (11, .box v11 53 B11), (12, .box v12 29 (encT x)), (14, .box v14 29 cs)]
/-- Where a fault is told. -/
def doI (r : AV) (s : St) : Prop := ∃ (T : List (Nat × AV)) (VS : Nat → Nat) (e : Int) (c : Cor) (f g : Cfg) (vars : List Int) (ev : Ev) (B11 : List AV) (x : Tm) (cs : List AV) (v3 v4 v6 v7 v60 v11 v12 v14 : Nat),
  s = ⟨Am.look T, hls (doH c f g vars ev B11 x cs v3 v4 v6 v7 v60 v11 v12 v14) VS, noG⟩ ∧ Am.look T 6 = .ref 6 v6 (.p 0) ∧ Am.look T 7 = .ref 7 v7 (.p 0) ∧ Am.look T 9 = .int .i64 e ∧ r = didR (.no e)
@[simp] theorem encEv_len (ev : Ev) : (encEv ev).length = 3 := rfl
@[simp] theorem encEv_ok (ev : Ev) : (encEv ev).all AV.cell = true := rfl
@[simp] theorem encEv_cell (ev : Ev) : ∀ c ∈ encEv ev, c.cell = true := by simp [encEv]
theorem do_g51 (r : AV) (J : Nat → St → Prop) (s : St) (h : doI r s) : W10_g51 (retK Try.prog [.cell 6 36, .cell 7 39, .tmp 8, .tmp 9] r) J s := by
  obtain ⟨T, VS, e, c, f, g, vars, ev, B11, x, cs, v3, v4, v6, v7, v60, v11, v12, v14, rfl, h6, h7, h9, rfl⟩ := h
  simp only [didR, no_f, no_ev, no_is, no_e, encF_zero, encEv_zero, doH]
  simp [h6, h7, h9, retW_eq, encEv]
theorem do_k9 (c : Cor) (f g : Cfg) (vars : List Int) (ev : Ev) (is : Bool) (B11 : List AV) (x y : Tm) (cs : List AV) (p : List Int) (v3 v4 v6 v7 v60 v11 v12 v14 : Nat) (hT : TellsT cs y)
    (hon : OnPath g.t p) (hpl : p.length ≤ 137438953472) (hlok : g.t.lok) (hwt : (putT g.t p y).wt ≤ 137438953472) (hwn : (putT g.t p y).norm.wt ≤ 137438953472) (hsn : (putT g.t p y).norm.size ≤ 1000000) (hss : stSize g.st ≤ 1000000)
    (hsl : g.st.length ≤ 137438953472) (hsk : ∀ l ∈ g.st, l.length ≤ 137438953472) (hst : 0 ≤ g.steps ∧ g.steps ≤ 5000)
    (J : Nat → St → Prop) (r : AV) (hJ : ∀ s, doI r s → J 0 s)
    (hr : r = didR (if 2000 < (putT g.t p y).norm.size + stSize g.st then .no 11 else ⟨⟨(putT g.t p y).norm, vars, g.st, g.steps + 1, g.key⟩, ev, is, 0⟩))
    (T : List (Nat × AV)) (VS : Nat → Nat) (h6 : Am.look T 6 = .ref 6 v6 (.p 0)) (h7 : Am.look T 7 = .ref 7 v7 (.p 0)) (h8 : Am.look T 8 = .bool is) (h13 : Am.look T 13 = .sl (encI p)) (h14 : Am.look T 14 = .ref 14 v14 (.p 0)) :
    W10_k9 (retK Try.prog [.cell 6 36, .cell 7 39, .tmp 8, .tmp 9] r) J ⟨Am.look T, hls (doH c f g vars ev B11 x cs v3 v4 v6 v7 v60 v11 v12 v14) VS, noG⟩ := by
  have h1 := sp_put p g.t y hon hpl hlok
  have h2 := sp_nrm (putT g.t p y) hwt
  have h3 := sp_sz (putT g.t p y).norm (by omega)
  have h4 := sp_ssz g.st hss hsl hsk
  have hrd := readA_whole hT.len
  have hpu := hT.pur
  have hfz := hT.frz
  have hnn := stSize_nn g.st
  have hpos := (putT g.t p y).norm.size_pos
  have e1 := setFL_t g 60 v60 (putT g.t p y).norm
  generalize (putT g.t p y).norm = n at *
  generalize putT g.t p y = m at *
  have e2 : setL (encFL { g with t := n } 60 v60) 11 [.int .i64 (g.steps + 1)] = encFL { g with t := n, steps := g.steps + 1 } 60 v60 := by rw [encFL_eq, encFL_eq]; rfl
  have w1 : IntKind.wrap .i64 (g.steps + 1) = g.steps + 1 := wrap64 (by omega) (by omega)
  have w2 : IntKind.wrap .i64 (n.size + stSize g.st) = n.size + stSize g.st := wrap64 (by omega) (by omega)
  by_cases h : 2000 < n.size + stSize g.st
  · rw [if_pos h] at hr
    simp only [doH]
    simp [h6, h7, h8, h13, h14, hrd, hpu, hfz]
    refine scall_pure h1 (by simp [hpu, hfz]) (by simp [hpu, hfz]) ?_
    simp [hfz]
    refine scall_pure h2 (by simp) (by simp) ?_
    simp [h6, e1, e2, w1]
    refine scall0_pure h3 (by simp) (by simp) ?_
    simp [h6]
    refine scall0_pure h4 (by simp) (by simp) ?_
    simp [h6, w2, h]
    refine hJ _ ⟨_, VS, 11, c, f, { g with t := n, steps := g.steps + 1 }, vars, ev, B11, x, cs, v3, v4, v6, v7, v60, v11, v12, v14, rfl, ?_, ?_, ?_, hr⟩
    · simp [h6]
    · simp [h7]
    · simp
  · rw [if_neg h] at hr
    subst hr
    have h' : ¬ 2000 < n.size + stSize g.st := h
    simp only [doH]
    simp [h6, h7, h8, h13, h14, hrd, hpu, hfz]
    refine scall_pure h1 (by simp [hpu, hfz]) (by simp [hpu, hfz]) ?_
    simp [hfz]
    refine scall_pure h2 (by simp) (by simp) ?_
    simp [h6, e1, e2, w1]
    refine scall0_pure h3 (by simp) (by simp) ?_
    simp [h6]
    refine scall0_pure h4 (by simp) (by simp) ?_
    simp [h6, h7, h8, w2, h', encEv]
    simp [retW_eq, h6, h7, didR, encEv]
    rw [fl_ret _ _ 60 v60 3 vars (by simp)]
    exact ⟨by simp, rfl⟩
theorem do_fin (c : Cor) (f : Cfg) {vn sn : Int} (he : Env8 vn sn c.procs) (hf : OkF vn sn c.procs f) (hvn : vn ≤ 1000) (hsn : sn ≤ 1000) (st : Stp3) (hs : st ∈ f.t.enabled) (t : Tm) (vars : List Int) (sts : List (List Tm)) (key : Int) (ev : Ev) (is : Bool)
    (hd : deed c.procs f (atT f.t st.2.1) st.2.2 = ⟨t, vars, sts, key, ev, is, 0⟩) (B11 : List AV) (x : Tm) (cs : List AV) (v3 v4 v6 v7 v60 v11 v12 v14 : Nat) (hT : TellsT cs t)
    (J : Nat → St → Prop) (r : AV) (hJ : ∀ s, doI r s → J 0 s)
    (hr : r = didR (if (deed c.procs f (atT f.t st.2.1) st.2.2).e ≠ 0 then .no (deed c.procs f (atT f.t st.2.1) st.2.2).e
      else if 2000 < (putT f.t (toP f.t st) (deed c.procs f (atT f.t st.2.1) st.2.2).t).norm.size + stSize (deed c.procs f (atT f.t st.2.1) st.2.2).st then .no 11
      else ⟨⟨(putT f.t (toP f.t st) (deed c.procs f (atT f.t st.2.1) st.2.2).t).norm, (deed c.procs f (atT f.t st.2.1) st.2.2).vars, (deed c.procs f (atT f.t st.2.1) st.2.2).st, f.steps + 1, (deed c.procs f (atT f.t st.2.1) st.2.2).key⟩, (deed c.procs f (atT f.t st.2.1) st.2.2).ev, (deed c.procs f (atT f.t st.2.1) st.2.2).is, 0⟩))
    (T : List (Nat × AV)) (VS : Nat → Nat) (h6 : Am.look T 6 = .ref 6 v6 (.p 0)) (h7 : Am.look T 7 = .ref 7 v7 (.p 0)) (h8 : Am.look T 8 = .bool is) (h13 : Am.look T 13 = .sl (encI (toP f.t st))) (h14 : Am.look T 14 = .ref 14 v14 (.p 0)) :
    W10_k9 (retK Try.prog [.cell 6 36, .cell 7 39, .tmp 8, .tmp 9] r) J ⟨Am.look T, hls (doH c f ⟨f.t, f.vars, sts, f.steps, key⟩ vars ev B11 x cs v3 v4 v6 v7 v60 v11 v12 v14) VS, noG⟩ := by
  have hdo := step_deed he hf hs
  have hpo := put_ok he hf hs
  have hso := step_ok f.t st (by rw [← enabled_eq hf.norm]; exact hs)
  have hact := toP_act hso.act
  have hon := actP_on hact
  rw [hd] at hr hdo hpo
  have hwt := hf.wt
  have hok := right_okN _ _ _ _ _ hpo.t
  have hnw := Tm.norm_wt (putT f.t (toP f.t st) t)
  have hpw := hpo.wt
  have hns := norm_size _ hok
  have hps := hpo.size
  have hlen := onP_len hon
  have h1 := hdo.stsz
  have h2 := hdo.st
  simp only at hr h1 h2 hpw hps hns
  refine do_k9 c f ⟨f.t, f.vars, sts, f.steps, key⟩ vars ev is B11 x t cs (toP f.t st) v3 v4 v6 v7 v60 v11 v12 v14 hT hon ?_ (Tm.lok_of_wt _ ?_) hpw ?_ ?_ ?_ ?_ ?_ ?_ J r hJ ?_ T VS h6 h7 h8 h13 h14
  · try simp only
    omega
  · try simp only
    omega
  · try simp only
    omega
  · try simp only
    omega
  · try simp only
    omega
  · try simp only
    omega
  · intro l hl
    have hl : l ∈ sts := hl
    have := stSize_mem hl
    have := sizes_len l
    omega
  · have := hf.steps; simp only; omega
  · rw [hr, if_neg (by simp)]
theorem tells_wait (k a : Int) (n : ByteArray) : TellsT [.int .i64 14, .int .i64 k, .int .i64 a, .str n, .int .i64 0, .int .i64 0, .str ⟨#[]⟩, .nils, .nils] ⟨14, k, a, n, .zero, []⟩ where
  len := rfl
  ok := rfl
  pur := fun H => by rw [encT_eq]; rfl
  frz := fun H => rfl
theorem len_two {l : List Tm} (h : l.length = 2) : ∃ y z, l = [y, z] := by
  rcases l with _ | ⟨y, _ | ⟨z, _ | ⟨w, l⟩⟩⟩
  · simp at h
  · simp at h
  · exact ⟨y, z, rfl⟩
  · simp at h
theorem stAt_nat {s : List (List Tm)} {a : Nat} (h : a < s.length) : stAt s a = s[a] := by rw [stAt, List.getD_eq_getElem?_getD, Int.toNat_natCast, List.getElem?_eq_getElem h]; rfl
theorem setFL_12 (f : Cfg) (j v : Nat) (k : Int) : setL (encFL f j v) 12 [.int .i64 k] = encFL { f with key := k } j v := by rw [encFL_eq, encFL_eq]; rfl
theorem do_k35 (c : Cor) (f : Cfg) {vn sn : Int} (he : Env8 vn sn c.procs) (hf : OkF vn sn c.procs f) (hvn : vn ≤ 1000) (hsn : sn ≤ 1000) (st : Stp3) (hs : st ∈ f.t.enabled) (val : Int)
    (hval : (atT f.t st.2.1).kind = 2 ∨ (atT f.t st.2.1).kind = 9 → evE f.vars (atT f.t st.2.1).e = (val, 0)) (v3 v4 v6 v7 v60 v11 v12 v14 : Nat)
    (J : Nat → St → Prop) (r : AV) (hJ : ∀ s, doI r s → J 0 s) (hr : r = didR (if (deed c.procs f (atT f.t st.2.1) st.2.2).e ≠ 0 then .no (deed c.procs f (atT f.t st.2.1) st.2.2).e
      else if 2000 < (putT f.t (toP f.t st) (deed c.procs f (atT f.t st.2.1) st.2.2).t).norm.size + stSize (deed c.procs f (atT f.t st.2.1) st.2.2).st then .no 11
      else ⟨⟨(putT f.t (toP f.t st) (deed c.procs f (atT f.t st.2.1) st.2.2).t).norm, (deed c.procs f (atT f.t st.2.1) st.2.2).vars, (deed c.procs f (atT f.t st.2.1) st.2.2).st, f.steps + 1, (deed c.procs f (atT f.t st.2.1) st.2.2).key⟩, (deed c.procs f (atT f.t st.2.1) st.2.2).ev, (deed c.procs f (atT f.t st.2.1) st.2.2).is, 0⟩))
    (T : List (Nat × AV)) (VS : Nat → Nat) (h3 : Am.look T 3 = .ref 3 v3 (.p 0)) (h6 : Am.look T 6 = .ref 6 v6 (.p 0)) (h7 : Am.look T 7 = .ref 7 v7 (.p 0)) (h8 : Am.look T 8 = .bool false) (h11 : Am.look T 11 = .ref 11 v11 (.p 0))
    (h12 : Am.look T 12 = .ref 12 v12 (.p 0)) (h13 : Am.look T 13 = .sl (encI st.2.1)) (h14 : Am.look T 14 = .ref 14 v14 (.p 0)) (h15 : Am.look T 15 = .int .i64 val) :
    W10_k35 (retK Try.prog [.cell 6 36, .cell 7 39, .tmp 8, .tmp 9] r) J
      ⟨Am.look T, hls [(3, .box v3 33 (encC c)), (4, .box v4 36 (encF f)), (6, .box v6 36 (encFL f 60 v60)), (7, .box v7 39 [.str ⟨#[]⟩, .int .i64 0, .int .i64 0]), (60, .row v60 3 1 (encI f.vars)),
    (11, .box v11 53 [.int .i64 st.1, .sl (encI st.2.1), .int .i64 st.2.2]), (12, .box v12 29 (encT (atT f.t st.2.1))), (14, .box v14 29 [.int .i64 0, .int .i64 0, .int .i64 0, .str ⟨#[]⟩, .int .i64 0, .int .i64 0, .str ⟨#[]⟩, .nils, .nils])] VS, noG⟩ := by
  have hfin := fun t vars sts key ev is hd B11 x cs => do_fin c f he hf hvn hsn st hs t vars sts key ev is hd B11 x cs v3 v4 v6 v7 v60 v11 v12 v14
  have hso := step_ok f.t st (by rw [← enabled_eq hf.norm]; exact hs)
  have hxr := at_right _ _ _ hso.act _ hf.t
  have hon := actP_on hso.act
  have hpl := onP_len hon
  have hwt := hf.wt
  have hblk := sp_blk f.t st.2.1 hon (by omega)
  obtain ⟨hok, ⟨hk0, hk1⟩, -⟩ := right_ok hxr
  have hks := hso.some
  rw [hso.kind] at hks
  have halt := hso.alt
  rw [hso.kind] at halt
  have hto : toP f.t st = if (atT f.t st.2.1).kind = 8 then st.2.1.take (outT f.t st.2.1 0 0) else st.2.1 := rfl
  have hslen := hf.slen hsn
  have hrow := hf.srow
  have hkey := hf.key
  have hsteps := hf.steps
  have hst := hf.st
  have hvars := hf.vars
  have hxe := allE_at hon hf.ex
  have hxw := allE_wt _ hxe
  have hxs := size_at hon
  have hfs := hf.size
  have hfn := stSize_nn f.st
  have wkey : IntKind.wrap .i64 (f.key + 1) = f.key + 1 := wrap64 (by omega) (by omega)
  have s10 := fun sts => setFL_10 f 60 v60 sts
  have s12 := fun k => setFL_12 f 60 v60 k
  have hkids : ∀ y ∈ (atT f.t st.2.1).l, y.lok := fun y hy => Tm.lok_of_wt y (by have := allE_wt y (allE_kid hxe y hy); have := size_kid hy; omega)
  have hdeed : deed c.procs f (atT f.t st.2.1) st.2.2 = deed c.procs f (atT f.t st.2.1) st.2.2 := rfl
  generalize hx : atT f.t st.2.1 = x at *
  have cases : x.kind = 1 ∨ x.kind = 2 ∨ x.kind = 3 ∨ x.kind = 4 ∨ x.kind = 5 ∨ x.kind = 6 ∨ x.kind = 8 ∨ x.kind = 9 ∨ x.kind = 10 ∨ x.kind = 13 := by omega
  rcases cases with k | k | k | k | k | k | k | k | k | k
  · -- TDo
    rw [k, if_neg (by omega)] at hto
    simp [-W10_k9, k, h3, h6, h7, h8, h11, h12, h13, h14, h15, wkey, s12]
    refine hfin ⟨14, f.key, x.a, x.name, .zero, []⟩ f.vars f.st (f.key + 1) ⟨x.name, f.key, 0⟩ true (by unfold deed; rw [if_pos k]) _ x _ (tells_wait _ _ _) J r hJ hr _ VS ?_ ?_ ?_ ?_ ?_
    · simp [h6]
    · simp [h7]
    · simp
    · simp [h13, hto]
    · simp [h14]
  · -- TSet
    rw [k, if_neg (by omega)] at hto
    have ha := ok_a hok; rw [k] at ha
    have ha := num1 (s := sn) (p := c.procs.length) ha
    have ha0 := ha.1
    have ha1 : x.a < f.vars.length := by omega
    have hlt : x.a.toNat < f.vars.length := by omega
    have eset : (encI f.vars).set x.a.toNat [.int .i64 val] = encI (f.vars.set x.a.toNat val) := by simp [encI, List.map_set]
    simp [-W10_k9, k, h3, h6, h7, h8, h11, h12, h13, h14, h15, ha0, ha1, eset]
    refine hfin .skip (f.vars.set x.a.toNat val) f.st f.key .zero false (by unfold deed; rw [if_neg (by omega), if_pos k]; rw [hval (.inl k), if_pos rfl]) _ x _ tells_zero J r hJ hr _ VS ?_ ?_ ?_ ?_ ?_
    · simp [h6]
    · simp [h7]
    · simp [h8]
    · simp [h13, hto]
    · simp [h14]
  · -- TPush
    rw [k, if_neg (by omega)] at hto
    have ha := ok_a hok; rw [k] at ha
    have ha := num3 (v := vn) (p := c.procs.length) ha
    obtain ⟨a, hxa⟩ : ∃ a : Nat, x.a = a := ⟨x.a.toNat, by omega⟩
    have hl := ok_l hok; rw [k] at hl
    have hl : (x.l.length : Int) = 1 := hl
    obtain ⟨y, hy⟩ : ∃ y, x.l = [y] := List.length_eq_one_iff.1 (by omega)
    have hp := sp_psh f.st a y (by omega) (by omega) (fun l hl => by have := hrow l hl; exact ⟨by omega, this.2⟩) (hkids y (by rw [hy]; simp))
    simp [-W10_k9, k, h3, h6, h7, h8, h11, h12, h13, h14, h15, hxa, hy]
    refine scall0_pure hp (by simp) (by simp) ?_
    simp [-W10_k9, k, h3, h6, h7, h8, h11, h12, h13, h14, h15, s10]
    refine hfin .skip f.vars (stPush f.st a y) f.key .zero false (by unfold deed; rw [if_neg (by omega), if_neg (by omega), if_pos k]; rw [hxa, hy]; rfl) _ x _ tells_zero J r hJ hr _ VS ?_ ?_ ?_ ?_ ?_
    · simp [h6]
    · simp [h7]
    · simp [h8]
    · simp [h13, hto]
    · simp [h14]
  · -- TReverse
    rw [k, if_neg (by omega)] at hto
    have ha := ok_a hok; rw [k] at ha
    have ha := num3 (v := vn) (p := c.procs.length) ha
    obtain ⟨a, hxa⟩ : ∃ a : Nat, x.a = a := ⟨x.a.toNat, by omega⟩
    have hal : a < f.st.length := by omega
    have hp := sp_rev f.st a hal (by omega) (fun l hl => by have := hrow l hl; exact ⟨by omega, this.2⟩)
    simp [-W10_k9, k, h3, h6, h7, h8, h11, h12, h13, h14, h15, hxa]
    refine scall_pure hp (by simp) (by simp) ?_
    simp [-W10_k9, k, h3, h6, h7, h8, h11, h12, h13, h14, h15, s10]
    refine hfin (stRev f.st[a]) f.vars (stAccept f.st a) f.key .zero false (by unfold deed; rw [if_neg (by omega), if_neg (by omega), if_neg (by omega), if_pos k]; rw [hxa, stAt_nat hal]) _ x _ (tells_enc _) J r hJ hr _ VS ?_ ?_ ?_ ?_ ?_
    · simp [h6]
    · simp [h7]
    · simp [h8]
    · simp [h13, hto]
    · simp [h14]
  · -- TAccept
    rw [k, if_neg (by omega)] at hto
    have ha := ok_a hok; rw [k] at ha
    have ha := num3 (v := vn) (p := c.procs.length) ha
    have hp := sp_acc f.st x.a (by omega) (by omega) (fun l hl => by have := hrow l hl; exact ⟨by omega, this.2⟩)
    simp [-W10_k9, k, h3, h6, h7, h8, h11, h12, h13, h14, h15]
    refine scall_pure hp (by simp) (by simp) ?_
    simp [-W10_k9, k, h3, h6, h7, h8, h11, h12, h13, h14, h15, s10]
    refine hfin .skip f.vars (stAccept f.st x.a) f.key .zero false (by unfold deed; rw [if_neg (by omega), if_neg (by omega), if_neg (by omega), if_neg (by omega), if_pos k]) _ x _ tells_zero J r hJ hr _ VS ?_ ?_ ?_ ?_ ?_
    · simp [h6]
    · simp [h7]
    · simp [h8]
    · simp [h13, hto]
    · simp [h14]
  · -- TMerge
    rw [k, if_neg (by omega)] at hto
    have ha := ok_a hok; rw [k] at ha
    have ha := num3 (v := vn) (p := c.procs.length) ha
    have hb := ok_b hok; rw [k] at hb
    have hb := num3 (v := vn) (p := c.procs.length) hb
    obtain ⟨a, hxa⟩ : ∃ a : Nat, x.a = a := ⟨x.a.toNat, by omega⟩
    obtain ⟨b, hxb⟩ : ∃ b : Nat, x.b = b := ⟨x.b.toNat, by omega⟩
    have hp : Am.Spec Try.prog 21 [.sl (encSt f.st), .int .i64 a, .int .i64 b] (.sl (encSt (stMerge f.st a b))) := by
      by_cases hab : a = b
      · subst hab
        have := sp_mrg0 f.st a (by omega) (fun l hl => by have := hrow l hl; exact ⟨by omega, this.2⟩)
        rw [show stMerge f.st a a = f.st from by rw [stMerge, if_pos rfl]]
        exact this
      · exact sp_mrg f.st a b hab (by omega) (by omega) (by omega) (fun l hl => by have := hrow l hl; exact ⟨by omega, this.2⟩)
    simp [-W10_k9, k, h3, h6, h7, h8, h11, h12, h13, h14, h15, hxa, hxb]
    refine scall_pure hp (by simp) (by simp) ?_
    simp [-W10_k9, k, h3, h6, h7, h8, h11, h12, h13, h14, h15, s10]
    refine hfin .skip f.vars (stMerge f.st a b) f.key .zero false (by unfold deed; rw [if_neg (by omega), if_neg (by omega), if_neg (by omega), if_neg (by omega), if_neg (by omega), if_pos k]; rw [hxa, hxb]) _ x _ tells_zero J r hJ hr _ VS ?_ ?_ ?_ ?_ ?_
    · simp [h6]
    · simp [h7]
    · simp [h8]
    · simp [h13, hto]
    · simp [h14]
  · -- TExit
    rw [k, if_pos rfl] at hto
    simp [-W10_k9, k, h3, h6, h7, h8, h11, h12, h13, h14, h15]
    refine scall_pure hblk (by simp) (by simp) ?_
    simp [-W10_k9, k, h3, h6, h7, h8, h11, h12, h13, h14, h15]
    refine hfin .skip f.vars f.st f.key .zero false (by unfold deed; rw [if_neg (by omega), if_neg (by omega), if_neg (by omega), if_neg (by omega), if_neg (by omega), if_neg (by omega), if_neg (by omega), if_neg (by omega), if_neg (by omega)]) _ x _ tells_zero J r hJ hr _ VS ?_ ?_ ?_ ?_ ?_
    · simp [h6]
    · simp [h7]
    · simp [h8]
    · simp [h13, hto]
    · simp [h14]
  · -- TIf
    rw [k, if_neg (by omega)] at hto
    have hl := ok_l hok; rw [k] at hl
    have hl : (x.l.length : Int) = 2 := hl
    obtain ⟨y, z, hy⟩ : ∃ y z, x.l = [y, z] := len_two (by omega)
    by_cases hv : val = 0
    · simp [-W10_k9, k, h3, h6, h7, h8, h11, h12, h13, h14, h15, hy, hv]
      refine hfin z f.vars f.st f.key .zero false (by unfold deed; rw [if_neg (by omega), if_neg (by omega), if_neg (by omega), if_neg (by omega), if_neg (by omega), if_neg (by omega), if_pos k]; rw [hval (.inr k), hy, if_neg (by simp [hv])]; rfl) _ x _ (tells_enc _) J r hJ hr _ VS ?_ ?_ ?_ ?_ ?_
      · simp [h6]
      · simp [h7]
      · simp [h8]
      · simp [h13, hto]
      · simp [h14]
    · simp [-W10_k9, k, h3, h6, h7, h8, h11, h12, h13, h14, h15, hy, hv]
      refine hfin y f.vars f.st f.key .zero false (by unfold deed; rw [if_neg (by omega), if_neg (by omega), if_neg (by omega), if_neg (by omega), if_neg (by omega), if_neg (by omega), if_pos k]; rw [hval (.inr k), hy, if_pos (by simpa using hv)]; rfl) _ x _ (tells_enc _) J r hJ hr _ VS ?_ ?_ ?_ ?_ ?_
      · simp [h6]
      · simp [h7]
      · simp [h8]
      · simp [h13, hto]
      · simp [h14]
  · -- TChoose
    rw [k, if_neg (by omega)] at hto
    have hl := ok_l hok; rw [k] at hl
    have hl : (x.l.length : Int) = 2 := hl
    obtain ⟨y, z, hy⟩ : ∃ y z, x.l = [y, z] := len_two (by omega)
    rw [if_pos k] at halt
    have h01 : st.2.2 = 0 ∨ st.2.2 = 1 := by omega
    rcases h01 with hv | hv
    · simp [-W10_k9, k, h3, h6, h7, h8, h11, h12, h13, h14, h15, hy, hv]
      refine hfin y f.vars f.st f.key .zero false (by unfold deed; rw [if_neg (by omega), if_neg (by omega), if_neg (by omega), if_neg (by omega), if_neg (by omega), if_neg (by omega), if_neg (by omega), if_pos k]; rw [hv, hy]; rfl) _ x _ (tells_enc _) J r hJ hr _ VS ?_ ?_ ?_ ?_ ?_
      · simp [h6]
      · simp [h7]
      · simp [h8]
      · simp [h13, hto]
      · simp [h14]
    · simp [-W10_k9, k, h3, h6, h7, h8, h11, h12, h13, h14, h15, hy, hv]
      refine hfin z f.vars f.st f.key .zero false (by unfold deed; rw [if_neg (by omega), if_neg (by omega), if_neg (by omega), if_neg (by omega), if_neg (by omega), if_neg (by omega), if_neg (by omega), if_pos k]; rw [hv, hy]; rfl) _ x _ (tells_enc _) J r hJ hr _ VS ?_ ?_ ?_ ?_ ?_
      · simp [h6]
      · simp [h7]
      · simp [h8]
      · simp [h13, hto]
      · simp [h14]
  · -- TCall
    rw [k, if_neg (by omega)] at hto
    have ha := ok_a hok; rw [k] at ha
    have ha := num4 (v := vn) (s := sn) ha
    obtain ⟨a, hxa⟩ : ∃ a : Nat, x.a = a := ⟨x.a.toNat, by omega⟩
    have hal : a < c.procs.length := by omega
    have hix : ixRows (c.procs.map encT) (a : Int) 9 = some (.elt (encT c.procs[a]) 0) := by rw [ixRows_nat]; simp [List.getElem?_eq_getElem hal]
    simp [-W10_k9, k, h3, h6, h7, h8, h11, h12, h13, h14, h15, hxa, hix]
    refine hfin c.procs[a] f.vars f.st f.key .zero false (by unfold deed; rw [if_neg (by omega), if_neg (by omega), if_neg (by omega), if_neg (by omega), if_neg (by omega), if_neg (by omega), if_neg (by omega), if_neg (by omega), if_pos k]; rw [hxa, Int.toNat_natCast, List.getElem?_eq_getElem hal]; rfl) _ x _ (tells_enc _) J r hJ hr _ VS ?_ ?_ ?_ ?_ ?_
    · simp [h6]
    · simp [h7]
    · simp [h8]
    · simp [h13, hto]
    · simp [h14]
theorem sp_do (c : Cor) (f : Cfg) (pick : Int) {vn sn : Int} (he : Env8 vn sn c.procs) (hf : OkF vn sn c.procs f) (hvn : vn ≤ 1000) (hsn : sn ≤ 1000) :
    Am.Spec Try.prog 10 [.agg (encC c), .agg (encF f), .int .i64 pick] (.tup [.agg (encF (doM c.procs f pick).f), .agg (encEv (doM c.procs f pick).ev), .bool (doM c.procs f pick).is, .int .i64 (doM c.procs f pick).e]) := by
  have hwt := hf.wt
  have henb := sp_enb f.t (by omega)
  have ho := hs_rown f (by omega) (by have := hf.vlen hvn; omega) (by have := hf.slen hsn; omega) (fun l hl => by have := hf.srow l hl; exact ⟨by omega, this.2⟩)
  rw [hf.norm] at ho
  rw [doM_eq hf.norm]
  by_cases h0 : pick < 0
  · rw [if_pos h0]
    simp only [no_f, no_ev, no_is, no_e, encF_zero, encEv_zero]
    refine W10_S (by simp) ?_
    intro vs
    simp
    refine sScope_straight fun J => ?_
    simp
    refine scall_pure henb (by simp) (by simp) ?_
    simp [h0, retW_eq]
  rw [if_neg h0]
  by_cases h1 : (f.t.enabled.length : Int) ≤ pick
  · rw [List.getElem?_eq_none (by omega)]
    simp only [no_f, no_ev, no_is, no_e, encF_zero, encEv_zero]
    refine W10_S (by simp) ?_
    intro vs
    simp
    refine sScope_straight fun J => ?_
    simp
    refine scall_pure henb (by simp) (by simp) ?_
    simp [h0, h1, retW_eq]
  have hlt : pick.toNat < f.t.enabled.length := by omega
  rw [List.getElem?_eq_getElem hlt]
  simp only
  by_cases h2 : 5000 ≤ f.steps
  · rw [if_pos h2]
    simp only [no_f, no_ev, no_is, no_e, encF_zero, encEv_zero]
    refine W10_S (by simp) ?_
    intro vs
    simp
    refine sScope_straight fun J => ?_
    simp
    refine scall_pure henb (by simp) (by simp) ?_
    simp [h0, h1, h2, retW_eq]
  rw [if_neg h2]
  have hs := List.getElem_mem hlt
  obtain ⟨i, hi⟩ : ∃ i : Nat, pick = i := ⟨pick.toNat, by omega⟩
  subst hi
  have hlt' : i < f.t.enabled.length := hlt
  generalize hst : f.t.enabled[(i : Int).toNat] = st at *
  have hix : ixRows (f.t.enabled.map encS) (i : Int) 3 = some (.elt (encS st) 0) := by
    rw [ixRows_nat]; simp [List.getElem?_eq_getElem hlt', ← hst]
  have hso := step_ok f.t st (by rw [← enabled_eq hf.norm]; exact hs)
  have hon := actP_on hso.act
  have hpl := onP_len hon
  have hat := sp_rat f.t st.2.1 hon (by omega)
  have hxr := at_right _ _ _ hso.act _ hf.t
  have hxe := allE_at hon hf.ex
  obtain ⟨hok, -, -⟩ := right_ok hxr
  have hev : (atT f.t st.2.1).kind = 2 ∨ (atT f.t st.2.1).kind = 9 → Am.Spec Try.prog 25 [.agg (encE (atT f.t st.2.1).e), .sl (encI f.vars)] (encR (evE f.vars (atT f.t st.2.1).e)) := fun hk => by
    have h := ok_e hok
    have ke : kE (atT f.t st.2.1).kind = true := decide_eq_true hk
    rw [if_pos ke, ← hf.vars] at h
    refine sp_eev f.vars hf.nums (hf.vlen hvn) _ h fun y hy => ?_
    rw [allE_eq, Bool.and_eq_true, exN, Bool.and_eq_true] at hxe
    exact List.all_eq_true.1 hxe.1.2 y hy
  have hK := fun val hval v3 v4 v6 v7 v60 v11 v12 v14 => do_k35 c f he hf hvn hsn st hs val hval v3 v4 v6 v7 v60 v11 v12 v14
  have ho : Am.HSpecL Try.prog 23 [.agg (encF f)] [] fun r l' => ∃ v, r = .agg (encFL f 8 v) ∧ l' = [(8, .row v 3 1 (encI f.vars))] := ho
  obtain ⟨r, hr⟩ : ∃ r, r = didR (if (deed c.procs f (atT f.t st.2.1) st.2.2).e ≠ 0 then .no (deed c.procs f (atT f.t st.2.1) st.2.2).e
      else if 2000 < (putT f.t (toP f.t st) (deed c.procs f (atT f.t st.2.1) st.2.2).t).norm.size + stSize (deed c.procs f (atT f.t st.2.1) st.2.2).st then .no 11
      else ⟨⟨(putT f.t (toP f.t st) (deed c.procs f (atT f.t st.2.1) st.2.2).t).norm, (deed c.procs f (atT f.t st.2.1) st.2.2).vars, (deed c.procs f (atT f.t st.2.1) st.2.2).st, f.steps + 1, (deed c.procs f (atT f.t st.2.1) st.2.2).key⟩, (deed c.procs f (atT f.t st.2.1) st.2.2).ev, (deed c.procs f (atT f.t st.2.1) st.2.2).is, 0⟩) := ⟨_, rfl⟩
  show Am.Spec Try.prog 10 [.agg (encC c), .agg (encF f), .int .i64 (i : Nat)] (didR (if (deed c.procs f (atT f.t st.2.1) st.2.2).e ≠ 0 then .no (deed c.procs f (atT f.t st.2.1) st.2.2).e
      else if 2000 < (putT f.t (toP f.t st) (deed c.procs f (atT f.t st.2.1) st.2.2).t).norm.size + stSize (deed c.procs f (atT f.t st.2.1) st.2.2).st then .no 11
      else ⟨⟨(putT f.t (toP f.t st) (deed c.procs f (atT f.t st.2.1) st.2.2).t).norm, (deed c.procs f (atT f.t st.2.1) st.2.2).vars, (deed c.procs f (atT f.t st.2.1) st.2.2).st, f.steps + 1, (deed c.procs f (atT f.t st.2.1) st.2.2).key⟩, (deed c.procs f (atT f.t st.2.1) st.2.2).ev, (deed c.procs f (atT f.t st.2.1) st.2.2).is, 0⟩))
  rw [← hr]
  by_cases hk : (atT f.t st.2.1).kind = 2 ∨ (atT f.t st.2.1).kind = 9
  · have hev := hev hk
    have hd : (deed c.procs f (atT f.t st.2.1) st.2.2).e = (evE f.vars (atT f.t st.2.1).e).2 := by
      rcases hk with k | k
      · unfold deed
        rw [if_neg (by omega), if_pos k]
        split
        · rename_i h; exact h.symm
        · rfl
      · unfold deed
        rw [if_neg (by omega), if_neg (by omega), if_neg (by omega), if_neg (by omega), if_neg (by omega), if_neg (by omega), if_pos k]
    have hm : (decide ((atT f.t st.2.1).kind = 2) || decide ((atT f.t st.2.1).kind = 9)) = true := by simpa using hk
    by_cases hz : (evE f.vars (atT f.t st.2.1).e).2 = 0
    · have hK := hK (evE f.vars (atT f.t st.2.1).e).1 (fun _ => by rw [← hz])
      generalize atT f.t st.2.1 = x at *
      generalize evE f.vars x.e = ev at *
      simp only [encR] at hev
      rcases hk with k | k
      · refine W10_S (by simp) ?_
        intro vs
        simp
        refine sScope_out (doI r) (fun J hJ => ?_) (fun J s h => do_g51 _ J s h)
        simp
        refine scall_pure henb (by simp) (by simp) ?_
        simp [h0, h1, h2]
        refine scall_heap [] [(60, 8)] ho (by simp) (by simp) (by simp) ?_
        intro r' l' VS' hrl
        obtain ⟨v, rfl, rfl⟩ := hrl
        refine ⟨by simp [encFL_okk], ?_⟩
        simp [encFL_ren, hix, encS]
        refine scall_pure hat (by simp) (by simp) ?_
        simp [-W10_k35, -W10_k9, k]
        refine scall_flat hev (by simp) (by simp) rfl ?_
        simp [-W10_k35, -W10_k9, k, hz]
        refine hK _ _ _ _ _ _ _ _ J r hJ hr _ VS' ?_ ?_ ?_ ?_ ?_ ?_ ?_ ?_ ?_
        all_goals simp
      · refine W10_S (by simp) ?_
        intro vs
        simp
        refine sScope_out (doI r) (fun J hJ => ?_) (fun J s h => do_g51 _ J s h)
        simp
        refine scall_pure henb (by simp) (by simp) ?_
        simp [h0, h1, h2]
        refine scall_heap [] [(60, 8)] ho (by simp) (by simp) (by simp) ?_
        intro r' l' VS' hrl
        obtain ⟨v, rfl, rfl⟩ := hrl
        refine ⟨by simp [encFL_okk], ?_⟩
        simp [encFL_ren, hix, encS]
        refine scall_pure hat (by simp) (by simp) ?_
        simp [-W10_k35, -W10_k9, k]
        refine scall_flat hev (by simp) (by simp) rfl ?_
        simp [-W10_k35, -W10_k9, k, hz]
        refine hK _ _ _ _ _ _ _ _ J r hJ hr _ VS' ?_ ?_ ?_ ?_ ?_ ?_ ?_ ?_ ?_
        all_goals simp
    · generalize atT f.t st.2.1 = x at *
      generalize evE f.vars x.e = ev at *
      simp only [encR] at hev
      rcases hk with k | k
      · refine W10_S (by simp) ?_
        intro vs
        simp
        refine sScope_out (doI r) (fun J hJ => ?_) (fun J s h => do_g51 _ J s h)
        simp
        refine scall_pure henb (by simp) (by simp) ?_
        simp [h0, h1, h2]
        refine scall_heap [] [(60, 8)] ho (by simp) (by simp) (by simp) ?_
        intro r' l' VS' hrl
        obtain ⟨v, rfl, rfl⟩ := hrl
        refine ⟨by simp [encFL_okk], ?_⟩
        simp [encFL_ren, hix, encS]
        refine scall_pure hat (by simp) (by simp) ?_
        simp [-W10_k35, -W10_k9, k]
        refine scall_flat hev (by simp) (by simp) rfl ?_
        simp [-W10_k35, -W10_k9, k, hz]
        refine hJ _ ⟨_, VS', ev.2, c, f, f, f.vars, .zero, [.int .i64 st.1, .sl (encI st.2.1), .int .i64 st.2.2], x, [.int .i64 0, .int .i64 0, .int .i64 0, .str ⟨#[]⟩, .int .i64 0, .int .i64 0, .str ⟨#[]⟩, .nils, .nils], _, _, _, _, _, _, _, _, rfl, ?_, ?_, ?_, ?_⟩
        · simp
        · simp
        · simp
        · rw [hr, hd, if_pos hz]
      · refine W10_S (by simp) ?_
        intro vs
        simp
        refine sScope_out (doI r) (fun J hJ => ?_) (fun J s h => do_g51 _ J s h)
        simp
        refine scall_pure henb (by simp) (by simp) ?_
        simp [h0, h1, h2]
        refine scall_heap [] [(60, 8)] ho (by simp) (by simp) (by simp) ?_
        intro r' l' VS' hrl
        obtain ⟨v, rfl, rfl⟩ := hrl
        refine ⟨by simp [encFL_okk], ?_⟩
        simp [encFL_ren, hix, encS]
        refine scall_pure hat (by simp) (by simp) ?_
        simp [-W10_k35, -W10_k9, k]
        refine scall_flat hev (by simp) (by simp) rfl ?_
        simp [-W10_k35, -W10_k9, k, hz]
        refine hJ _ ⟨_, VS', ev.2, c, f, f, f.vars, .zero, [.int .i64 st.1, .sl (encI st.2.1), .int .i64 st.2.2], x, [.int .i64 0, .int .i64 0, .int .i64 0, .str ⟨#[]⟩, .int .i64 0, .int .i64 0, .str ⟨#[]⟩, .nils, .nils], _, _, _, _, _, _, _, _, rfl, ?_, ?_, ?_, ?_⟩
        · simp
        · simp
        · simp
        · rw [hr, hd, if_pos hz]
  · have hK := hK 0 (fun h => absurd h hk)
    have n2 : ¬ (atT f.t st.2.1).kind = 2 := fun h => hk (.inl h)
    have n9 : ¬ (atT f.t st.2.1).kind = 9 := fun h => hk (.inr h)
    generalize atT f.t st.2.1 = x at *
    refine W10_S (by simp) ?_
    intro vs
    simp
    refine sScope_out (doI r) (fun J hJ => ?_) (fun J s h => do_g51 _ J s h)
    simp
    refine scall_pure henb (by simp) (by simp) ?_
    simp [h0, h1, h2]
    refine scall_heap [] [(60, 8)] ho (by simp) (by simp) (by simp) ?_
    intro r' l' VS' hrl
    obtain ⟨v, rfl, rfl⟩ := hrl
    refine ⟨by simp [encFL_okk], ?_⟩
    simp [encFL_ren, hix, encS]
    refine scall_pure hat (by simp) (by simp) ?_
    simp [-W10_k35, -W10_k9, n2, n9]
    refine hK _ _ _ _ _ _ _ _ J r hJ hr _ VS' ?_ ?_ ?_ ?_ ?_ ?_ ?_ ?_ ?_
    all_goals simp
end Go.Proofs.Ytnngddgaobhkiaa
set_option linter.unusedVariables false
set_option linter.unusedSimpArgs false
namespace Go.Proofs.Ytnngddgaobhkiaa
open Go Go.Am Go.RowKit
attribute [local simp] W7 W7_rs

/-! ### A program that may be, and where it begins -/
structure CorOk (c : Cor) : Prop where
  chk : chkM c = true
  ex : ∀ t ∈ c.procs, allE t = true
  nums : ∀ n ∈ c.vars, isI64 n = true
abbrev OkC (c : Cor) (f : Cfg) : Prop := OkF c.vars.length c.stacks c.procs f
def begM (c : Cor) : Cfg := ⟨((c.procs[c.main.toNat]?).getD .skip).norm, c.vars, List.replicate c.stacks.toNat [], 0, 0⟩
structure ChkOk (c : Cor) : Prop where
  vars : (c.vars.length : Int) ≤ 20
  st : 0 ≤ c.stacks ∧ c.stacks ≤ 10
  procs : 1 ≤ (c.procs.length : Int) ∧ (c.procs.length : Int) ≤ 20
  main : 0 ≤ c.main ∧ c.main < c.procs.length
  all : ∀ t ∈ c.procs, t.size ≤ 2000 ∧ tmAny t = false ∧ tmRight c.vars.length c.stacks c.procs.length t false = true
theorem chk_ok {c : Cor} (h : chkM c = true) : ChkOk c := by
  unfold chkM at h
  simp only [Bool.and_eq_true, decide_eq_true_eq, List.all_eq_true] at h
  obtain ⟨h1, h2, h3, h4, h5, h6, h7, h8⟩ := h
  refine ⟨h1, ⟨h2, h3⟩, ⟨h4, h5⟩, ⟨h6, h7⟩, fun t ht => ?_⟩
  have := h8 t ht
  unfold chkT at this
  simp only [Bool.and_eq_true, decide_eq_true_eq, Bool.not_eq_true'] at this
  exact this
theorem CorOk.env {c : Cor} (h : CorOk c) : Env8 c.vars.length c.stacks c.procs where
  right := fun t ht => by
    have := (chk_ok h.chk).all t ht
    rw [tmRight_pushed, this.2.2, this.2.1]; rfl
  small := h.ex
  size := fun t ht => ((chk_ok h.chk).all t ht).1
theorem main_get {c : Cor} (h : CorOk c) : ∃ (m : Nat) (hm : m < c.procs.length), c.main = m ∧ (c.procs[c.main.toNat]?).getD .skip = c.procs[m] := by
  have := (chk_ok h.chk).main
  refine ⟨c.main.toNat, by omega, by omega, ?_⟩
  rw [List.getElem?_eq_getElem (by omega)]; rfl
theorem CorOk.wt {c : Cor} (h : CorOk c) : ∀ t ∈ c.procs, t.lok ∧ t.wt ≤ 20010000 := fun t ht => by
  have h1 := allE_wt t (h.ex t ht)
  have h2 := ((chk_ok h.chk).all t ht).1
  exact ⟨Tm.lok_of_wt t (by omega), by omega⟩
theorem stSize_rep (n : Nat) : stSize (List.replicate n []) = 0 := by
  induction n with
  | zero => rfl
  | succ n ih => simp only [stSize, List.replicate_succ, List.map_cons, List.sum_cons, Tm.sizes] at *; omega
theorem beg_ok {c : Cor} (h : CorOk c) : OkC c (begM c) := by
  obtain ⟨m, hm, e, eg⟩ := main_get h
  have hk := chk_ok h.chk
  have hin := List.getElem_mem hm
  have ha := hk.all _ hin
  have hx := h.ex _ hin
  have ho := right_okN _ _ _ _ _ ha.2.2
  have hn := norm_size _ ho
  unfold OkC begM
  rw [eg]
  refine ⟨right_norm _ _ _ _ _ ha.2.2, allE_norm _ ho hx, norm_norm _ ho, rfl, h.nums, ?_, ?_, ?_, by simp only; omega, by simp only; omega⟩
  · have := hk.st; simp only [List.length_replicate]; omega
  · intro l hl t ht
    rw [(List.mem_replicate.1 hl).2] at ht
    simp at ht
  · simp only [stSize_rep]; omega
theorem sp_begC {c : Cor} (h : CorOk c) : Am.Spec Try.prog 9 [.agg (encC c)] (.agg (encF (begM c))) := by
  obtain ⟨m, hm, e, eg⟩ := main_get h
  have hk := chk_ok h.chk
  have := (h.wt _ (List.getElem_mem hm)).2
  have := sp_beg c m c.stacks.toNat e hm (by have := hk.st; omega) (by have := hk.st; omega) (by omega) (by have := hk.vars; omega)
  unfold begM
  rw [eg]
  exact this
theorem sp_doC {c : Cor} (h : CorOk c) {f : Cfg} (hf : OkC c f) (pick : Int) : Am.Spec Try.prog 10 [.agg (encC c), .agg (encF f), .int .i64 pick] (didR (doM c.procs f pick)) :=
  sp_do c f pick h.env hf (by have := (chk_ok h.chk).vars; omega) (by have := (chk_ok h.chk).st; omega)
def toldR (d : Told) : AV := .tup [.agg (encF d.f), .agg (encEv d.ev), .bool d.is]
theorem sp_tellC {c : Cor} (h : CorOk c) {f : Cfg} (hf : OkC c f) (key value : Int) : Am.Spec Try.prog 11 [.agg (encC c), .agg (encF f), .int .i64 key, .int .i64 value] (toldR (tellM f key value)) := by
  have hk := chk_ok h.chk
  have hwt := hf.wt
  have hv := hf.vlen (by have := hk.vars; omega)
  have hs := hf.slen (by have := hk.st; omega)
  have hn := hf.norm
  refine sp_tell c f key value (by omega) ?_ ?_ (by omega) (by omega) (fun l hl => by have := hf.srow l hl; exact ⟨by omega, this.2⟩) ?_
  · rw [hn]; omega
  · rw [hn]; exact Tm.lok_of_wt _ (by omega)
  · rw [hn]
    intro p hp
    have h1 := tell_put hf hp
    refine ⟨(tell_b hf hp).1, ?_⟩
    have := allE_wt _ h1.2.1
    have := hf.size
    have := stSize_nn f.st
    omega
theorem sp_chkC {c : Cor} (h : CorOk c) : Am.Spec Try.prog 18 [.agg (encC c)] (.bool true) := by
  rw [← h.chk]
  exact sp_chk c fun t ht => ⟨(h.wt t ht).1, by have := (h.wt t ht).2; omega⟩

@[simp] theorem nrmL_encF (f : Cfg) : nrmL (encF f) = encF f := by rw [encF_eq, encSt_Q]; simp [nrmL, nrm, nrmLL_map, encI]
@[simp] theorem nrmL_encEv (ev : Ev) : nrmL (encEv ev) = encEv ev := rfl
@[simp] theorem nrmL_encC (c : Cor) : nrmL (encC c) = encC c := by simp [encC, nrmL, nrm, nrmLL_map, encI]
/-! ### The chapter's example -/
def tPay : Tm := ⟨1, -1, 0, ⟨#[112, 97, 121]⟩, .zero, []⟩
def cPay : Cor := ⟨[], 0, [tPay], 0⟩
theorem pay_ok : CorOk cPay where
  chk := by decide +kernel
  ex := by decide +kernel
  nums := by decide +kernel
theorem encC_pay : encC cPay = [.sl [], .int .i64 0, .sl [encT tPay], .int .i64 0] := rfl
theorem encT_pay : encT tPay = [.int .i64 1, .int .i64 (-1), .int .i64 0, .str ⟨#[112, 97, 121]⟩, .int .i64 0, .int .i64 0, .str ⟨#[]⟩, .sl [], .sl []] := by rw [encT_eq]; rfl
structure KnoT (g : Cfg) (ev : Ev) (is : Bool) (e e1 : Int) (h : Told) : Prop where
  e : e = 0
  is : is = true
  name : ev.name = ⟨#[112, 97, 121]⟩
  key : g.key = 1
  e1 : e1 = 12
  has : h.is = true
  val : h.ev.value = 7
  kind : h.f.t.kind = 0
theorem kno_t : KnoT (doM [tPay] (begM cPay) 0).f (doM [tPay] (begM cPay) 0).ev (doM [tPay] (begM cPay) 0).is (doM [tPay] (begM cPay) 0).e (doM [tPay] (begM cPay) 1).e (tellM (doM [tPay] (begM cPay) 0).f 0 7) := by
  constructor <;> decide +kernel
theorem sp_kno8 : Am.Spec Try.prog 7 [] (.bool true) := by
  have ht := kno_t
  have hb := beg_ok pay_ok
  have h1 := sp_begC pay_ok
  have h2 := sp_doC pay_ok hb 0
  have h3 := sp_doC pay_ok hb 1
  have h4 := sp_tellC pay_ok (doM_ok pay_ok.env hb 0 ht.e) 0 7
  have h5 := sp_chkC pay_ok
  rw [show cPay.procs = [tPay] from rfl] at h2 h3 h4
  generalize doM [tPay] (begM cPay) 0 = d at *
  generalize doM [tPay] (begM cPay) 1 = d1 at *
  generalize begM cPay = f at *
  generalize tellM d.f 0 7 = t at *
  obtain ⟨a1, a2, a3, a4, a5, a6, a7, a8⟩ := ht
  simp only [didR, toldR, encC_pay, encT_pay] at h1 h2 h3 h4 h5
  refine W7_S (by simp) ?_
  intro vs
  simp
  refine scall_nrm h1 (by simp [nrmL, nrm, nrmLL]) (by simp [closedL, closedLL]) ?_
  simp
  refine scall_nrm h2 (by simp [nrmL, nrm, nrmLL]) (by simp [closedL, closedLL]) ?_
  simp
  refine scall_nrm h3 (by simp [nrmL, nrm, nrmLL]) (by simp [closedL, closedLL]) ?_
  simp
  refine scall_nrm h4 (by simp [nrmL, nrm, nrmLL]) (by simp [closedL, closedLL]) ?_
  simp
  refine scall_nrm h5 (by simp [nrmL, nrm, nrmLL]) (by simp [closedL, closedLL]) ?_
  simp [a1, a2, a3, a4, a5, a6, a7, a8, encEv, retW_eq]
end Go.Proofs.Ytnngddgaobhkiaa
set_option linter.unusedVariables false
set_option linter.unusedSimpArgs false
namespace Go.Proofs.Ytnngddgaobhkiaa
open Go Go.Am Go.RowKit
attribute [local simp] W35 W35_rs W35_b1 W35_b4 W35_b7 W35_b10 W35_b11 W35_b12 W35_b13 W35_b14 W35_b16 W35_b17 W35_b18 W35_b19 W35_b21 W35_k2 W35_k9 W35_k20 W35_l6 W15 W15_rs

/-! ### What may be done, as the document says -/
def enS (t : Tm) (p : List Int) (w : Bool) : List Stp3 := (t.pls p w).flatMap stepsAt
def enK (t : Tm) (p : List Int) (w : Bool) (n : Nat) : List Stp3 := (Tm.plsL t.kind (t.l.take n) p w 0).flatMap stepsAt
theorem plsL_app (k : Int) : ∀ (l m : List Tm) (p : List Int) (w : Bool) (i : Nat), Tm.plsL k (l ++ m) p w i = Tm.plsL k l p w i ++ Tm.plsL k m p w (i + l.length)
  | [], m, p, w, i => by simp [Tm.plsL]
  | x :: l, m, p, w, i => by
    simp only [List.cons_append, Tm.plsL, plsL_app k l m p w (i + 1), List.append_assoc, List.length_cons]
    rw [show i + 1 + l.length = i + (l.length + 1) by omega]
theorem enK_succ (t : Tm) (p : List Int) (w : Bool) (i : Nat) (h : i < t.l.length) : enK t p w (i + 1) = enK t p w i ++ enS t.l[i] (p ++ [(i : Int)]) (kidW t.kind t.l[i] w) := by
  unfold enK enS
  rw [List.take_succ_eq_append_getElem h, plsL_app, List.flatMap_append]
  simp only [Tm.plsL, List.append_nil, List.length_take, Nat.min_eq_left (Nat.le_of_lt h), Nat.zero_add]
theorem enS_kids (t : Tm) (p : List Int) (w : Bool) (h : okN t = true) : enS t p w = stepsAt (t, p, w) ++ enK t p w (aN t) := by
  unfold enS enK
  rw [Tm.pls_eq, List.flatMap_cons]
  have : t.kidsP = aN t := by
    unfold Tm.kidsP aN
    by_cases k12 : t.kind = 12
    · obtain ⟨x, y, hl, -⟩ := okN_two h (.inl k12)
      rw [if_pos (.inl k12), if_pos (.inl k12), hl]; rfl
    · by_cases k7 : t.kind = 7
      · obtain ⟨x, hl, -⟩ := okN_one h k7
        rw [if_pos (.inr k7), if_pos (.inr k7), hl]; rfl
      · by_cases k11 : t.kind = 11
        · obtain ⟨x, y, hl, -⟩ := okN_two h (.inr k11)
          rw [if_neg (by omega), if_pos k11, if_neg (by omega), if_pos k11, hl]; rfl
        · rw [if_neg (by omega), if_neg k11, if_neg (by omega), if_neg k11]
  rw [this]
theorem steps_le : ∀ l : List (Tm × List Int × Bool), (l.flatMap stepsAt).length ≤ 2 * l.length
  | [] => by simp
  | x :: l => by
    have := steps_le l
    have := stpN_le x
    simp only [List.flatMap_cons, List.length_append, List.length_cons, stepsAt, stp_len] at *
    omega
theorem enS_len (t : Tm) (p : List Int) (w : Bool) : (enS t p w).length ≤ 2 * t.wt := by
  have := steps_le (t.pls p w)
  have := t.pls_len p w
  unfold enS; omega
theorem wts_take (l : List Tm) (n : Nat) : Tm.wts (l.take n) ≤ Tm.wts l := by
  induction l generalizing n with
  | nil => simp
  | cons x l ih => cases n with
    | zero => simp [Tm.wts]
    | succ n => have := ih n; simp only [List.take_succ_cons, Tm.wts]; omega
theorem enK_len (t : Tm) (p : List Int) (w : Bool) (n : Nat) : (enK t p w n).length ≤ 2 * t.wt := by
  have := steps_le (Tm.plsL t.kind (t.l.take n) p w 0)
  have := Tm.plsL_len t.kind (t.l.take n) p w 0
  have := wts_take t.l n
  have := t.wt_eq
  unfold enK; omega
theorem encSs_row : ∀ l : List Stp3, ((l.map encS).all fun r => r.length == 3 && okCells r) = true
  | [] => rfl
  | x :: l => by
    have h : ((encS x).length == 3 && okCells (encS x)) = true := rfl
    simp only [List.map_cons, List.all_cons, h, encSs_row l, Bool.and_self]
theorem sp_en7 (t : Tm) (p : List Int) (w : Bool) (h : okN t = true) (hw : p.length + t.wt ≤ 100000000) : Am.Spec Try.prog 35 [.agg (encT t), .sl (encI p), .bool !w] (.sl ((enS t p w).map encS)) := by
  have ih : ∀ (i : Nat) (hi : i < t.l.length) (w' : Bool), Am.Spec Try.prog 35 [.agg (encT t.l[i]), .sl (encI (p ++ [(i : Int)])), .bool !w'] (.sl ((enS t.l[i] (p ++ [(i : Int)]) w').map encS)) := fun i hi w' =>
    sp_en7 t.l[i] (p ++ [(i : Int)]) w' (okN_mem h _ (List.getElem_mem hi)) (by
      have := Tm.wts_mem (List.getElem_mem hi)
      have := t.wt_eq
      simp only [List.length_append, List.length_cons, List.length_nil]; omega)
  rw [enS_kids t p w h]
  by_cases k0 : t.kind = 0
  · have e : stepsAt (t, p, w) ++ enK t p w (aN t) = [] := by
      simp [stepsAt, stpN, k0, stp_zero, aN, enK, Tm.plsL]
    rw [e]
    refine W35_S (by simp) ?_
    intro vs
    simp
    rw [decide_eq_true (by omega)]
    simp [k0, retW_eq]
  by_cases k14 : t.kind = 14
  · have e : stepsAt (t, p, w) ++ enK t p w (aN t) = [] := by
      simp [stepsAt, stpN, k14, stp_zero, aN, enK, Tm.plsL]
    rw [e]
    refine W35_S (by simp) ?_
    intro vs
    simp
    rw [decide_eq_true (by omega)]
    simp [k14, retW_eq]
  by_cases k10 : t.kind = 10
  · have e : stepsAt (t, p, w) ++ enK t p w (aN t) = [(10, p, 0), (10, p, 1)] := by
      simp [stepsAt, stpN, k10, aN, enK, Tm.plsL, stp, List.range_succ]
    rw [e]
    refine W35_S (by simp) ?_
    intro vs
    simp
    rw [decide_eq_true (by omega)]
    simp [k10]
    rw [decide_eq_true (by omega)]
    simp [k10, retW_eq]
    exact ⟨rfl, rfl⟩
  by_cases k8 : t.kind = 8
  · cases w with
    | true =>
      have e : stepsAt (t, p, true) ++ enK t p true (aN t) = [] := by
        simp [stepsAt, stpN, k8, stp_zero, aN, enK, Tm.plsL]
      rw [e]
      refine W35_S (by simp) ?_
      intro vs
      simp
      rw [decide_eq_true (by omega)]
      simp [k8, retW_eq]
    | false =>
      have e : stepsAt (t, p, false) ++ enK t p false (aN t) = [(8, p, 0)] := by
        simp [stepsAt, stpN, k8, stp, aN, enK, Tm.plsL, List.range_succ]
      rw [e]
      refine W35_S (by simp) ?_
      intro vs
      simp
      rw [decide_eq_true (by omega)]
      simp [k8, retW_eq]
      rfl
  have hac := sp_a5 t
  have hale := aN_le t h
  by_cases ha : aN t = 0
  · have k7 : ¬ t.kind = 7 := fun k => by simp [aN, k] at ha
    have k12 : ¬ t.kind = 12 := fun k => by simp [aN, k] at ha
    have k11 : ¬ t.kind = 11 := fun k => by simp [aN, k] at ha
    have e : stepsAt (t, p, w) ++ enK t p w (aN t) = [(t.kind, p, 0)] := by
      rw [ha]
      simp [stepsAt, stpN, k0, k14, k10, k8, k7, k12, k11, stp, enK, Tm.plsL, List.range_succ]
    rw [e]
    rw [ha] at hac
    refine W35_S (by simp) ?_
    intro vs
    simp
    rw [decide_eq_true (by omega)]
    simp [k0, k14, k10, k8, k7]
    refine scall_pure hac (by simp) (by simp) ?_
    simp [retW_eq]
    rfl
  have hk3 : t.kind = 12 ∨ t.kind = 7 ∨ t.kind = 11 := by
    unfold aN at ha
    split at ha
    · omega
    · split at ha
      · omega
      · exact absurd rfl ha
  have e0 : stepsAt (t, p, w) = [] := by
    rcases hk3 with k | k | k <;> simp [stepsAt, stpN, k, stp_zero]
  rw [e0, List.nil_append]
  have body : ∀ (we : Bool) (hwe : ∀ i (hi : i < t.l.length), i < aN t → kidW t.kind t.l[i] w = we) (v3 : Nat) (L : St → Prop) (i w73 : Nat) (vt : Nat → Nat), i ≤ aN t →
      (∀ l' h' vs' (x' : Nat × Nat), x'.1 ≤ aN t → aN t - x'.1 < aN t - i → Am.subT l' [(1, .sl (encI p)), (2, .bool !we), (3, .ref 3 v3 (.p 0)), (9, if x'.1 = 0 then .nils else .ref 73 x'.2 .o), (10, .int .i64 (x'.1 : Nat))] →
        subA h' ((3, .box v3 29 (encT t)) :: if x'.1 = 0 then [] else [(73, .row x'.2 53 3 ((enK t p w x'.1).map encS))]) → L ⟨Am.look l', hls h' vs', noG⟩) →
      W35_l6 (retK Try.prog [.tmp 6] (.sl ((enK t p w (aN t)).map encS))) L ⟨Am.look [(1, .sl (encI p)), (2, .bool !we), (3, .ref 3 v3 (.p 0)), (9, if i = 0 then .nils else .ref 73 w73 .o), (10, .int .i64 (i : Nat))],
        hls ((3, .box v3 29 (encT t)) :: if i = 0 then [] else [(73, .row w73 53 3 ((enK t p w i).map encS))]) vt, noG⟩ := by
    intro we hwe v3 L i w73 vt hi hL
    by_cases hc : i < aN t
    · have hc' : (i : Int) < aN t := by omega
      have hil : i < t.l.length := by omega
      have hil' : (i : Int) < t.l.length := by omega
      have hx := ih i hil we
      have hs := enK_succ t p w i hil
      rw [hwe i hil hc] at hs
      have hlen := enK_len t p w i
      have hlen2 := enS_len t.l[i] (p ++ [(i : Int)]) we
      have hmem := Tm.wts_mem (List.getElem_mem hil)
      have hwt := t.wt_eq
      have epi : encI p ++ [[.int .i64 (i : Int)]] = encI (p ++ [(i : Int)]) := by simp [encI]
      by_cases h0 : i = 0
      · subst h0
        rw [show ((0 : Nat) : Int) = 0 from rfl] at hx hs epi hlen2
        simp
        refine scall_pure hac (by simp) (by simp) ?_
        simp [hc, hil]
        rw [decide_eq_true (by omega)]
        simp
        rw [decide_eq_true (by omega)]
        simp [epi]
        refine scall0_pure hx (by simp) (by simp) ?_
        simp
        rw [encSs_row]
        simp
        rw [decide_eq_true (by omega)]
        simp
        rw [wrap64 (by omega) (by omega)]
        refine hL _ _ _ (1, vt 73 + 1) (by simp only; omega) (by simp only; omega) (by simp) ?_
        have e1 : enK t p w 1 = enS t.l[0] (p ++ [0]) we := by rw [hs]; simp [enK, Tm.plsL]
        simp [e1]
      · simp [h0]
        refine scall_pure hac (by simp) (by simp) ?_
        simp [hc, hil, hil']
        rw [decide_eq_true (by omega)]
        simp
        rw [decide_eq_true (by omega)]
        simp [epi]
        refine scall0_pure hx (by simp) (by simp) ?_
        simp
        rw [encSs_row]
        simp
        rw [decide_eq_true (by omega)]
        simp
        rw [wrap64 (by omega) (by omega)]
        refine hL _ _ _ (i + 1, w73 + 1) (by simp only; omega) (by simp only; omega) (by simp) ?_
        simp [hs]
    · obtain rfl : i = aN t := by omega
      simp [ha]
      refine scall_pure hac (by simp) (by simp) ?_
      simp [ha, retW_eq]
  have hane : ¬ ((aN t : Nat) : Int) = 0 := by omega
  by_cases k7 : t.kind = 7
  · obtain ⟨y, hl, hy⟩ := okN_one h k7
    have hw5 := sp_w5 y hy (by have := t.wt_eq; rw [hl] at this; simp only [Tm.wts] at this; omega)
    have hwe : ∀ i (hi : i < t.l.length), i < aN t → kidW t.kind t.l[i] w = decide (0 < y.waits.length) := fun i hi _ => by
      have : t.l[i] = y := by
        have : i = 0 := by rw [hl] at hi; simpa using hi
        subst this
        simp [hl]
      rw [this, kidW, if_pos k7]
    have ed : decide (y.waits = []) = !decide (0 < y.waits.length) := by
      cases y.waits <;> simp
    refine W35_S (by simp) ?_
    intro vs
    simp
    rw [decide_eq_true (by omega)]
    simp [k0, k14, k10, k8, k7, hl]
    refine scall_pure hw5 (by simp) (by simp) ?_
    simp [-W35_l6]
    refine scall_pure hac (by simp) (by simp) ?_
    simp [-W35_l6, ha]
    refine sLoop_intro (fun x : Nat × Nat => x.1 ≤ aN t) (fun x => aN t - x.1) (fun x => [(1, .sl (encI p)), (2, .bool !decide (0 < y.waits.length)), (3, .ref 3 (vs 3 + 1) (.p 0)), (9, if x.1 = 0 then .nils else .ref 73 x.2 .o), (10, .int .i64 (x.1 : Nat))])
      (fun x => (3, .box (vs 3 + 1) 29 (encT t)) :: if x.1 = 0 then [] else [(73, .row x.2 53 3 ((enK t p w x.1).map encS))]) (0, 0) (by simp) (by simp [ed]) (by simp) ?_
    rintro L ⟨i, w73⟩ vt hi hL
    exact body _ hwe _ L i w73 vt hi hL
  · have hwe : ∀ i (hi : i < t.l.length), i < aN t → kidW t.kind t.l[i] w = w := fun i hi _ => by rw [kidW, if_neg k7]
    refine W35_S (by simp) ?_
    intro vs
    simp
    rw [decide_eq_true (by omega)]
    simp [-W35_l6, k0, k14, k10, k8, k7]
    refine scall_pure hac (by simp) (by simp) ?_
    simp [-W35_l6, ha]
    refine sLoop_intro (fun x : Nat × Nat => x.1 ≤ aN t) (fun x => aN t - x.1) (fun x => [(1, .sl (encI p)), (2, .bool !w), (3, .ref 3 (vs 3 + 1) (.p 0)), (9, if x.1 = 0 then .nils else .ref 73 x.2 .o), (10, .int .i64 (x.1 : Nat))])
      (fun x => (3, .box (vs 3 + 1) 29 (encT t)) :: if x.1 = 0 then [] else [(73, .row x.2 53 3 ((enK t p w x.1).map encS))]) (0, 0) (by simp) (by simp) (by simp) ?_
    rintro L ⟨i, w73⟩ vt hi hL
    exact body _ hwe _ L i w73 vt hi hL
termination_by SizeOf.sizeOf t
decreasing_by exact Tm.lt_of_mem (List.getElem_mem hi)
theorem sp_Enb7 (t : Tm) (h : okN t = true) (hw : t.wt ≤ 100000000) : Am.Spec Try.prog 15 [.agg (encT t)] (.sl (t.enabled.map encS)) := by
  have h1 := sp_n5 t h
  have hok := okN_norm t h
  have hnw := t.norm_wt
  have h2 := sp_w5 t.norm hok (by omega)
  have h3 := sp_en7 t.norm [] (decide (0 < t.norm.waits.length)) hok (by simp only [List.length_nil]; omega)
  have ed : decide (t.norm.waits = []) = !decide (0 < t.norm.waits.length) := by
    cases t.norm.waits <;> simp
  have e : enS t.norm [] (decide (0 < t.norm.waits.length)) = t.enabled := rfl
  rw [e] at h3
  generalize t.enabled = en at *
  generalize t.norm = n at *
  rw [← ed] at h3
  refine W15_S (by simp) ?_
  intro vs
  simp
  refine scall_pure h1 (by simp) (by simp) ?_
  simp
  refine scall0_pure h2 (by simp) (by simp) ?_
  simp
  refine scall0_nrm h3 (by simp [nrmL, nrm, nrmL_encT, nrmLL, encI]) (by simp [closedL, closed]) ?_
  simp [retW_eq]
end Go.Proofs.Ytnngddgaobhkiaa
set_option linter.unusedVariables false
set_option linter.unusedSimpArgs false
namespace Go.Proofs.Ytnngddgaobhkiaa
open Go Go.Am Go.RowKit
attribute [local simp] W54 W54_rs W54_b1 W54_b3 W54_b4 W54_b6 W54_b8 W54_k2 W54_l7 W39 W39_rs W39_b1 W39_b3 W39_b4 W39_b6 W39_b8 W39_k2 W39_l7 W17 W17_rs

/-! ### Rows of processes, stacks, configs that are the same -/
theorem sp_rw5 (x y : List Tm) (hw : x.length ≤ 137438953472) (hk : ∀ z ∈ x, z.lok) : Am.Spec Try.prog 54 [.sl (x.map encT), .sl (y.map encT)] (.bool (eqL Tm.same x y)) := by
  by_cases c : x.length = y.length
  · have c' : (x.length : Int) = y.length := by omega
    refine W54_S (by simp) ?_
    intro vs
    simp [-W54_l7, c]
    refine sLoop_intro (fun i => i ≤ y.length ∧ eqL Tm.same x y = eqL Tm.same (x.drop i) (y.drop i)) (fun i => y.length - i) (fun i => [(0, .sl (x.map encT)), (1, .sl (y.map encT)), (5, .int .i64 (i : Nat))])
      (fun _ => []) 0 (by simp) (by simp) (by simp) ?_
    rintro L i vt ⟨hi, hj⟩ hL
    by_cases h : i < y.length
    · have hl2 : i < x.length := by omega
      have h' : (i : Int) < x.length := by omega
      have hd := eqL_drop Tm.same x y i hl2 h
      have hx := sp_s5 x[i] y[i] (hk _ (List.getElem_mem hl2))
      generalize hb : Tm.same x[i] y[i] = b at *
      cases b
      · rw [hj, hd]
        simp [h, h', hl2]
        refine scall0_pure hx (by simp) (by simp) ?_
        simp [retW_eq]
      · simp [h, h', hl2]
        refine scall0_pure hx (by simp) (by simp) ?_
        simp
        rw [wrap64 (by omega) (by omega)]
        exact hL _ _ _ (i + 1) ⟨h, by rw [hj, hd]; simp⟩ (by omega) (by simp) (by simp)
    · have e := eqL_end Tm.same x y i (by omega) c
      have h2 : ¬ i < x.length := by omega
      have h' : ¬ (i : Int) < x.length := by omega
      rw [hj, e]
      simp [h, h', h2, retW_eq]
  · have c' : ¬ (x.length : Int) = y.length := by omega
    rw [eqL_len _ _ _ c]
    refine W54_S (by simp) ?_
    intro vs
    simp [c, c', retW_eq]
def sameS (x y : List (List Tm)) : Bool := eqL (eqL Tm.same) x y
theorem sp_s6 (x y : List (List Tm)) (hw : x.length ≤ 137438953472) (hk : ∀ l ∈ x, l.length ≤ 137438953472 ∧ ∀ z ∈ l, z.lok) : Am.Spec Try.prog 39 [.sl (encSt x), .sl (encSt y)] (.bool (sameS x y)) := by
  rw [encSt_Q, encSt_Q]
  unfold sameS
  by_cases c : x.length = y.length
  · have c' : (x.length : Int) = y.length := by omega
    refine W39_S (by simp) ?_
    intro vs
    simp [-W39_l7, c]
    refine sLoop_intro (fun i => i ≤ y.length ∧ eqL (eqL Tm.same) x y = eqL (eqL Tm.same) (x.drop i) (y.drop i)) (fun i => y.length - i) (fun i => [(0, .sl (x.map encQ)), (1, .sl (y.map encQ)), (5, .int .i64 (i : Nat))])
      (fun _ => []) 0 (by simp) (by simp) (by simp) ?_
    rintro L i vt ⟨hi, hj⟩ hL
    by_cases h : i < y.length
    · have hl2 : i < x.length := by omega
      have h' : (i : Int) < x.length := by omega
      have hd := eqL_drop (eqL Tm.same) x y i hl2 h
      have hm := hk _ (List.getElem_mem hl2)
      have hx := sp_rw5 x[i] y[i] hm.1 hm.2
      generalize hb : eqL Tm.same x[i] y[i] = b at *
      cases b
      · rw [hj, hd]
        simp [h, h', hl2]
        refine scall0_pure hx (by simp) (by simp) ?_
        simp [retW_eq]
      · simp [h, h', hl2]
        refine scall0_pure hx (by simp) (by simp) ?_
        simp
        rw [wrap64 (by omega) (by omega)]
        exact hL _ _ _ (i + 1) ⟨h, by rw [hj, hd]; simp⟩ (by omega) (by simp) (by simp)
    · have e := eqL_end (eqL Tm.same) x y i (by omega) c
      have h2 : ¬ i < x.length := by omega
      have h' : ¬ (i : Int) < x.length := by omega
      rw [hj, e]
      simp [h, h', h2, retW_eq]
  · have c' : ¬ (x.length : Int) = y.length := by omega
    rw [eqL_len _ _ _ c]
    refine W39_S (by simp) ?_
    intro vs
    simp [c, c', retW_eq]
theorem sameS_iff (x y : List (List Tm)) : sameS x y = true ↔ x = y :=
  eqL_iff _ _ _ fun l _ m => eqL_iff _ _ _ fun t _ u => Tm.same_iff t u
def sameF (f g : Cfg) : Bool := Tm.same f.t g.t && (decide (f.vars = g.vars) && (sameS f.st g.st && (decide (f.steps = g.steps) && decide (f.key = g.key))))
theorem sameF_iff (f g : Cfg) : sameF f g = true ↔ f = g := by
  unfold sameF
  simp only [Bool.and_eq_true, Tm.same_iff, sameS_iff, decide_eq_true_eq]
  cases f; cases g
  simp only [Cfg.mk.injEq]
theorem sp_s8 (f g : Cfg) (ht : f.t.lok) (hv : f.vars.length ≤ 137438953472) (hw : f.st.length ≤ 137438953472) (hk : ∀ l ∈ f.st, l.length ≤ 137438953472 ∧ ∀ z ∈ l, z.lok) : Am.Spec Try.prog 17 [.agg (encF f), .agg (encF g)] (.bool (sameF f g)) := by
  have h1 := sp_s5 f.t g.t ht
  have h2 := sp_its f.vars g.vars hv
  have h3 := sp_s6 f.st g.st hw hk
  unfold sameF
  generalize Tm.same f.t g.t = b1 at *
  generalize decide (f.vars = g.vars) = b2 at *
  generalize sameS f.st g.st = b3 at *
  cases b1
  · refine W17_S (by simp) ?_
    intro vs
    simp
    refine scall_pure h1 (by simp) (by simp) ?_
    simp [retW_eq]
  cases b2
  · refine W17_S (by simp) ?_
    intro vs
    simp
    refine scall_pure h1 (by simp) (by simp) ?_
    simp
    refine scall_pure h2 (by simp) (by simp) ?_
    simp [retW_eq]
  cases b3
  · refine W17_S (by simp) ?_
    intro vs
    simp
    refine scall_pure h1 (by simp) (by simp) ?_
    simp
    refine scall_pure h2 (by simp) (by simp) ?_
    simp
    refine scall_pure h3 (by simp) (by simp) ?_
    simp [retW_eq]
  by_cases c4 : f.steps = g.steps
  · refine W17_S (by simp) ?_
    intro vs
    simp
    refine scall_pure h1 (by simp) (by simp) ?_
    simp
    refine scall_pure h2 (by simp) (by simp) ?_
    simp
    refine scall_pure h3 (by simp) (by simp) ?_
    simp [c4, retW_eq]
  · refine W17_S (by simp) ?_
    intro vs
    simp
    refine scall_pure h1 (by simp) (by simp) ?_
    simp
    refine scall_pure h2 (by simp) (by simp) ?_
    simp
    refine scall_pure h3 (by simp) (by simp) ?_
    simp [c4, retW_eq]
end Go.Proofs.Ytnngddgaobhkiaa
set_option linter.unusedVariables false
set_option linter.unusedSimpArgs false
namespace Go.Proofs.Ytnngddgaobhkiaa
open Go Go.Am Go.RowKit
attribute [local simp] W8 W8_rs W8_k1 W8_b2 W5 W5_rs W5_b1 W5_b3 W5_b11 W5_b14 W5_b15 W5_b20 W5_b22 W5_b25 W5_b26 W5_b29 W5_k2 W5_k10 W5_k19 W5_k21 W5_k23 W5_k24 W5_l16 W5_l28

/-! ### An exit -/
theorem sp_wit8 (a n : Int) (hn : 0 < n) (h2 : n < 1000) : Am.Spec Try.prog 8 [.int .i64 a, .int .i64 n] (.int .i64 (within a n)) := by
  refine W8_S (by simp) ?_
  intro vs
  simp
  rw [if_neg (by omega)]
  simp
  have h1 := Int.tmod_lt_of_pos a hn
  have h3 : -n < a.tmod n := by have := Int.lt_tmod_of_pos a hn; omega
  refine sIf_dec (fun h => ?_) (fun h => ?_)
  · simp
    rw [wrap64 (by omega) (by omega)]
    simp [retW_eq, within, h]
  · simp [retW_eq, within, h]
def rawK (k : Int) (l : AV) : List AV := [.int .i64 k, .int .i64 0, .int .i64 0, .str ⟨#[]⟩, .int .i64 0, .int .i64 0, .str ⟨#[]⟩, .nils, l]
theorem tells_rawK (k : Int) (l : List Tm) : TellsT (rawK k (.slt (l.map encT))) (.of k l) where
  len := rfl
  ok := rfl
  pur := fun H => by rw [encT_eq]; rfl
  frz := fun H => rfl
theorem tells_rawN (k : Int) : TellsT (rawK k .nils) (.of k []) where
  len := rfl
  ok := rfl
  pur := fun H => by rw [encT_eq]; rfl
  frz := fun H => rfl
def rawPay : List AV := [.int .i64 1, .int .i64 (-1), .int .i64 0, .str ⟨#[112, 97, 121]⟩, .int .i64 0, .int .i64 0, .str ⟨#[]⟩, .nils, .nils]
theorem tells_pay : TellsT rawPay tPay where
  len := rfl
  ok := rfl
  pur := fun H => by rw [encT_eq]; rfl
  frz := fun H => rfl
def exT : Nat → Tm
  | 0 => .of 8 []
  | i + 1 => if i % 2 = 1 then .of 11 [.of 12 [exT i, tPay], tPay] else .of 12 [exT i, tPay]
def exR : Nat → List AV
  | 0 => rawK 8 .nils
  | i + 1 => if i % 2 = 1 then rawK 11 (.slt [encT (.of 12 [exT i, tPay]), encT tPay]) else rawK 12 (.slt [encT (exT i), encT tPay])
theorem exR_tells (i : Nat) : TellsT (exR i) (exT i) := by
  cases i with
  | zero => exact tells_rawN 8
  | succ i =>
    rw [exR, exT]
    split
    · exact tells_rawK 11 [_, _]
    · exact tells_rawK 12 [_, _]
def exF (block behind : Bool) (d : Nat) : Tm :=
  let t := if block then .of 7 [exT d] else exT d
  if behind then .of 12 [t, tPay] else t
def cOne (t : Tm) : Cor := ⟨[], 0, [t], 0⟩
structure ExitOk (t w : Tm) : Prop where
  some : ∃ i, ∃ h : i < (begM (cOne t)).t.enabled.length, ((begM (cOne t)).t.enabled[i]).1 = 8
  all : ∀ i, ∀ h : i < (begM (cOne t)).t.enabled.length, ((begM (cOne t)).t.enabled[i]).1 = 8 → (doM [t] (begM (cOne t)) i).e = 0 ∧ (doM [t] (begM (cOne t)) i).is = false ∧ (doM [t] (begM (cOne t)) i).f.t = w
def exitB (t w : Tm) : Bool := chkM (cOne t) && (allE t && ((begM (cOne t)).t.enabled.any (fun s => decide (s.1 = 8)) &&
  (List.range (begM (cOne t)).t.enabled.length).all fun i => !(match (begM (cOne t)).t.enabled[i]? with | some s => decide (s.1 = 8) | none => false) || (decide ((doM [t] (begM (cOne t)) i).e = 0) && (!(doM [t] (begM (cOne t)) i).is && Tm.same (doM [t] (begM (cOne t)) i).f.t w))))
theorem exit_of {t w : Tm} (h : exitB t w = true) : CorOk (cOne t) ∧ ExitOk t w := by
  unfold exitB at h
  rw [Bool.and_eq_true, Bool.and_eq_true, Bool.and_eq_true] at h
  obtain ⟨h1, h2, h3, h4⟩ := h
  refine ⟨⟨h1, by simpa [cOne] using h2, by simp [cOne]⟩, ?_, ?_⟩
  · obtain ⟨s, hs, e⟩ := List.any_eq_true.1 h3
    obtain ⟨i, hi, rfl⟩ := List.getElem_of_mem hs
    exact ⟨i, hi, of_decide_eq_true e⟩
  · intro i hi e
    have := List.all_eq_true.1 h4 i (List.mem_range.2 hi)
    rw [List.getElem?_eq_getElem hi] at this
    simp only [e, decide_true, Bool.not_true, Bool.false_or, Bool.and_eq_true, decide_eq_true_eq, Bool.not_eq_true', Tm.same_iff] at this
    exact this
theorem exits_all : ∀ d < 5, ∀ b c : Bool, exitB (exF b c d) (if b && c then tPay else .skip) = true := by decide +kernel
theorem wit_ge (a n : Int) (hn : 0 < n) : 0 ≤ within a n := by
  unfold within
  have h1 := Int.lt_tmod_of_pos a hn
  split <;> omega
theorem wit_lt (a n : Int) (hn : 0 < n) : within a n < n := by
  unfold within
  have h1 := Int.tmod_lt_of_pos a hn
  split <;> omega
theorem CorOk.begWt {c : Cor} (h : CorOk c) : (begM c).t.wt ≤ 100000000 ∧ okN (begM c).t = true := by
  have hf := beg_ok h
  have := hf.wt
  exact ⟨by omega, right_okN _ _ _ _ _ hf.t⟩
theorem xit_k19 (t : Tm) (n : Int) (block behind : Bool) (cs : List AV) (hT : TellsT cs t) (hc : CorOk (cOne t)) (hx : ExitOk t (if block && behind then tPay else .skip)) (v7 v8 : Nat) (T : List (Nat × AV)) (VS : Nat → Nat)
    (h1 : Am.look T 1 = .bool block) (h2 : Am.look T 2 = .bool behind) (h7 : Am.look T 7 = .ref 7 v7 (.p 0)) (h8 : Am.look T 8 = .ref 8 v8 (.p 0)) :
    W5_k19 (retK Try.prog [.tmp 6] (.bool true)) ⟨Am.look T, hls [(7, .box v7 29 cs), (8, .box v8 29 rawPay)] VS, noG⟩ := by
  have hb := sp_begC hc
  have hf := beg_ok hc
  have hen := sp_Enb7 (begM (cOne t)).t hc.begWt.2 hc.begWt.1
  have hd := fun i : Nat => sp_doC hc hf i
  have hok := fun i : Nat => doM_ok hc.env hf i
  have hxs := hx.some
  have hxa := hx.all
  have hll : (begM (cOne t)).t.enabled.length ≤ 200000000 := by
    have h1 := enS_len (begM (cOne t)).t.norm [] (decide (0 < (begM (cOne t)).t.norm.waits.length))
    have h2 := (begM (cOne t)).t.norm_wt
    have h3 := hc.begWt.1
    unfold Tm.enabled Tm.enabledN
    unfold enS at h1
    omega
  have eC : encC (cOne t) = [.sl [], .int .i64 0, .sl [encT t], .int .i64 0] := rfl
  have eP : (cOne t).procs = [t] := rfl
  rw [eP] at hd hok
  rw [eC] at hb hd
  generalize begM (cOne t) = f at *
  generalize hl : f.t.enabled = l at *
  have hpu := hT.pur
  have hfz := hT.frz
  have hrd := readA_whole hT.len
  have hln := hT.len
  simp [-W5_l16, h1, h2, h7, h8, hrd, hpu, hfz, hln]
  refine scall_nrm hb (by simp [nrmL, nrm, nrmLL, nrmL_encT]) (by simp [closedL, closedLL]) ?_
  simp [-W5_l16, h1, h2, h7, h8]
  refine scall_pure hen (by simp) (by simp) ?_
  simp [-W5_l16, h1, h2, h7, h8]
  refine sLoop_intro (fun i : Nat => i ≤ l.length ∧ ∀ j, ∀ h : j < l.length, j < i → (l[j]).1 ≠ 8) (fun i => l.length - i)
    (fun i => [(1, .bool block), (2, .bool behind), (8, .ref 8 v8 (.p 0)), (10, .ref 10 (VS 10 + 1) (.p 0)), (11, .ref 11 (VS 11 + 1) (.p 0)), (12, .sl (l.map encS)), (13, .int .i64 (i : Nat))])
    (fun _ => [(8, .box v8 29 rawPay), (10, .box (VS 10 + 1) 33 [.nils, .int .i64 0, .slt [encT t], .int .i64 0]), (11, .box (VS 11 + 1) 36 (encF f))])
    0 ⟨by simp, fun j _ h => absurd h (by omega)⟩ (by simp [h1, h2, h8]) (by simp) ?_
  rintro L i vt ⟨hi, hj⟩ hL
  by_cases h : i < l.length
  · have h' : (i : Int) < l.length := by omega
    have hix : ixRows (l.map encS) (i : Int) 3 = some (.elt (encS l[i]) 0) := by rw [ixRows_nat]; simp [List.getElem?_eq_getElem h]
    by_cases k : (l[i]).1 = 8
    · obtain ⟨a1, a2, a3⟩ := hxa i h k
      have hd := hd i
      have hok := hok i a1
      generalize doM [t] f i = d at *
      have hs := fun w : Tm => sp_s5 d.f.t w (Tm.lok_of_wt _ (by have := hok.wt; omega))
      have e5 : Tm.same d.f.t (if block && behind then tPay else .skip) = true := (Tm.same_iff _ _).2 a3
      have h5 := hs (if block && behind then tPay else .skip)
      rw [e5] at h5
      simp only [didR] at hd
      have eskip : encT .skip = [.int .i64 0, .int .i64 0, .int .i64 0, .str ⟨#[]⟩, .int .i64 0, .int .i64 0, .str ⟨#[]⟩, .sl [], .sl []] := by rw [encT_eq]; rfl
      cases block
      · simp only [Bool.false_and, Bool.false_eq_true, if_false] at h5
        simp [h, h', hix, encS, k]
        refine scall_nrm hd (by simp [nrmL, nrm, nrmLL, nrmL_encT]) (by simp [closedL, closedLL]) ?_
        simp [a1, a2, rawPay]
        refine scall_nrm h5 (by simp [nrmL, nrm, nrmLL, nrmL_encT, eskip]) (by simp [closedL, closedLL]) ?_
        simp [retW_eq]
      · cases behind
        · simp only [Bool.true_and, Bool.false_eq_true, if_false] at h5
          simp [h, h', hix, encS, k]
          refine scall_nrm hd (by simp [nrmL, nrm, nrmLL, nrmL_encT]) (by simp [closedL, closedLL]) ?_
          simp [a1, a2, rawPay]
          refine scall_nrm h5 (by simp [nrmL, nrm, nrmLL, nrmL_encT, eskip]) (by simp [closedL, closedLL]) ?_
          simp [retW_eq]
        · simp only [Bool.true_and, if_true] at h5
          simp [h, h', hix, encS, k]
          refine scall_nrm hd (by simp [nrmL, nrm, nrmLL, nrmL_encT]) (by simp [closedL, closedLL]) ?_
          simp [a1, a2, rawPay]
          refine scall_nrm h5 (by simp [nrmL, nrm, nrmLL, nrmL_encT, encT_pay]) (by simp [closedL, closedLL]) ?_
          simp [retW_eq]
    · simp [h, h', hix, encS, k]
      rw [wrap64 (by omega) (by omega)]
      refine hL _ _ _ (i + 1) ⟨h, fun j hj1 hj2 => ?_⟩ (by omega) (by simp) (by simp)
      by_cases e : j = i
      · subst e; exact k
      · exact hj j hj1 (by omega)
  · obtain ⟨j, hj1, hj2⟩ := hxs
    exact absurd hj2 (hj j hj1 (by omega))
theorem sp_xit (n : Int) (block behind : Bool) : Am.Spec Try.prog 5 [.int .i64 n, .bool block, .bool behind] (.bool true) := by
  have hd1 := wit_ge n 5 (by omega)
  have hd2 := wit_lt n 5 (by omega)
  have hw := sp_wit8 n 5 (by omega) (by omega)
  obtain ⟨d, hd⟩ : ∃ d : Nat, within n 5 = d := ⟨(within n 5).toNat, by omega⟩
  rw [hd] at hw
  obtain ⟨hc, hx⟩ := exit_of (exits_all d (by omega) block behind)
  have hfin := fun cs hT => xit_k19 (exF block behind d) n block behind cs hT hc hx
  refine W5_S (by simp) ?_
  intro vs
  simp
  refine scall_pure sp_kno8 (by simp) (by simp) ?_
  simp [-W5_l28]
  refine sLoop_intro (fun i : Nat => i ≤ d) (fun i => d - i)
    (fun i => [(0, .int .i64 n), (1, .bool block), (2, .bool behind), (7, .ref 7 (vs 7 + 1) (.p 0)), (8, .ref 8 (vs 8 + 1) (.p 0)), (9, .int .i64 (i : Nat))])
    (fun i => [(7, .box (vs 7 + 1) 29 (exR i)), (8, .box (vs 8 + 1) 29 rawPay)]) 0 (by simp) (by simp) (by simp [exR, rawK, rawPay]) ?_
  rintro L i vt hi hL
  have hT := exR_tells i
  have hpu := hT.pur
  have hfz := hT.frz
  have hrd := readA_whole hT.len
  have hln := hT.len
  by_cases h : i < d
  · have h' : (i : Int) < d := by omega
    have hp2 := tells_pay.pur
    have hf2 := tells_pay.frz
    have hr2 := readA_whole tells_pay.len
    have km : (i : Int).tmod 2 = ((i % 2 : Nat) : Int) := rfl
    by_cases k : i % 2 = 1
    · rw [k] at km
      simp
      refine scall_pure hw (by simp) (by simp) ?_
      simp [h, h', hrd, hpu, hfz, hln, hp2, hf2, hr2, km]
      rw [wrap64 (by omega) (by omega)]
      exact hL _ _ _ (i + 1) h (by omega) (by simp) (by simp [exR, k, rawK, encT_of])
    · have km : ¬ (i : Int).tmod 2 = 1 := by rw [km]; omega
      simp
      refine scall_pure hw (by simp) (by simp) ?_
      simp [h, h', hrd, hpu, hfz, hln, hp2, hf2, hr2, km]
      rw [wrap64 (by omega) (by omega)]
      exact hL _ _ _ (i + 1) h (by omega) (by simp) (by simp [exR, k, rawK])
  · obtain rfl : i = d := by omega
    have hp2 := tells_pay.pur
    have hf2 := tells_pay.frz
    have hr2 := readA_whole tells_pay.len
    cases block
    · cases behind
      · simp [-W5_k19]
        refine scall_pure hw (by simp) (by simp) ?_
        simp [-W5_k19, h, hrd, hpu, hfz, hln, hp2, hf2, hr2]
        exact hfin _ hT _ _ _ _ (by simp) (by simp) (by simp) (by simp)
      · simp [-W5_k19]
        refine scall_pure hw (by simp) (by simp) ?_
        simp [-W5_k19, h, hrd, hpu, hfz, hln, hp2, hf2, hr2]
        exact hfin _ (tells_rawK 12 [exT i, tPay]) _ _ _ _ (by simp) (by simp) (by simp) (by simp)
    · cases behind
      · simp [-W5_k19]
        refine scall_pure hw (by simp) (by simp) ?_
        simp [-W5_k19, h, hrd, hpu, hfz, hln, hp2, hf2, hr2]
        exact hfin _ (tells_rawK 7 [exT i]) _ _ _ _ (by simp) (by simp) (by simp) (by simp)
      · simp [-W5_k19]
        refine scall_pure hw (by simp) (by simp) ?_
        simp [-W5_k19, h, hrd, hpu, hfz, hln, hp2, hf2, hr2]
        have := tells_rawK 12 [.of 7 [exT i], tPay]
        simp only [List.map_cons, List.map_nil, encT_of] at this
        exact hfin _ this _ _ _ _ (by simp) (by simp) (by simp) (by simp)
end Go.Proofs.Ytnngddgaobhkiaa
set_option linter.unusedVariables false
set_option linter.unusedSimpArgs false
namespace Go.Proofs.Ytnngddgaobhkiaa
open Go Go.Am Go.RowKit
attribute [local simp] W6 W6_rs W6_b1 W6_b4 W6_b13 W6_b32 W6_b35 W6_k30

/-! ### Two steps of two sides -/
def eOne : Ex := ⟨1, 1, ⟨#[]⟩, []⟩
def sideL (i : Nat) : Tm := if i = 0 then .of 10 [.of 8 [], .skip] else if i = 1 then .of 13 [] else if i = 2 then ⟨9, 0, 0, ⟨#[]⟩, eOne, [.of 13 [], .skip]⟩ else if i = 3 then .of 3 [.of 13 []] else ⟨5, 1, 0, ⟨#[]⟩, .zero, []⟩
def sideC (x y : Tm) : Cor := ⟨[], 2, [tPay, .of 11 [x, y]], 1⟩
structure Side (c : Cor) (x : Tm) (f : Cfg) (p q : Did) : Prop where
  ep : p.e = 0
  eq : q.e = 0
  more : p.f.t.l.length = 2 → q.f.t.l.length = 2 → ∀ (h : 0 < p.f.t.l.length), (doM c.procs p.f (p.f.t.l[0].enabled.length : Nat)).e = 0 ∧ (doM c.procs q.f 0).e = 0 ∧ (doM c.procs p.f (p.f.t.l[0].enabled.length : Nat)).f = (doM c.procs q.f 0).f
def sideB (x y : Tm) : Bool :=
  let c := sideC x y
  let f := begM c
  let p := doM c.procs f 0
  let q := doM c.procs f (x.enabled.length : Nat)
  let r := doM c.procs p.f ((p.f.t.l.headD .skip).enabled.length : Nat)
  let s := doM c.procs q.f 0
  chkM c && (c.procs.all allE && (okN x && (decide (x.wt ≤ 1000) && (decide (p.e = 0) && (decide (q.e = 0) && (!(decide (p.f.t.l.length = 2) && decide (q.f.t.l.length = 2)) || (decide (r.e = 0) && (decide (s.e = 0) && sameF r.f s.f))))))))
theorem side_of {x y : Tm} (h : sideB x y = true) : CorOk (sideC x y) ∧ okN x = true ∧ x.wt ≤ 1000 ∧ Side (sideC x y) x (begM (sideC x y)) (doM (sideC x y).procs (begM (sideC x y)) 0) (doM (sideC x y).procs (begM (sideC x y)) (x.enabled.length : Nat)) := by
  unfold sideB at h
  simp only [Bool.and_eq_true, decide_eq_true_eq, Bool.or_eq_true, Bool.not_eq_true'] at h
  obtain ⟨h1, h2, h3, h4, h5, h6, h7⟩ := h
  refine ⟨⟨h1, List.all_eq_true.1 h2, by simp [sideC]⟩, h3, h4, h5, h6, fun a b hp => ?_⟩
  rcases h7 with h7 | ⟨h7, h8, h9⟩
  · rw [decide_eq_true a, decide_eq_true b] at h7; cases h7
  · have e : (doM (sideC x y).procs (begM (sideC x y)) 0).f.t.l.headD .skip = (doM (sideC x y).procs (begM (sideC x y)) 0).f.t.l[0] := by
      generalize (doM (sideC x y).procs (begM (sideC x y)) 0).f.t.l = l at hp
      cases l with
      | nil => simp at hp
      | cons x l => rfl
    rw [e] at h7 h9
    exact ⟨h7, h8, (sameF_iff _ _).1 h9⟩
theorem sides_all : ∀ i < 4, ∀ j < 5, j ≠ 3 → sideB (sideL i) (sideL j) = true := by decide +kernel
theorem encF_ql (f : Cfg) : readA (encF f) 8 1 false = some (.sl (f.t.l.map encT)) := by rw [encF_eq]; rfl
theorem OkF.enbWt {vn sn : Int} {ps : List Tm} {f : Cfg} (hf : OkF vn sn ps f) : f.t.wt ≤ 100000000 ∧ okN f.t = true := ⟨by have := hf.wt; omega, right_okN _ _ _ _ _ hf.t⟩
theorem sid_k30 (x y : Tm) (hB : sideB x y = true) (cs ds : List AV) (hT : TellsT cs x) (hU : TellsT ds y) (v6 v7 : Nat) (T : List (Nat × AV)) (VS : Nat → Nat) (h6 : Am.look T 6 = .ref 6 v6 (.p 0)) (h7 : Am.look T 7 = .ref 7 v7 (.p 0)) :
    W6_k30 (retK Try.prog [.tmp 4] (.bool true)) ⟨Am.look T, hls [(6, .box v6 29 cs), (7, .box v7 29 ds)] VS, noG⟩ := by
  obtain ⟨hc, hox, hwx, hS⟩ := side_of hB
  have hb := sp_begC hc
  have hf := beg_ok hc
  have hen := sp_Enb7 x hox (by omega)
  have hd0 := sp_doC hc hf 0
  have hdk := sp_doC hc hf (x.enabled.length : Nat)
  obtain ⟨ep, eq, hm⟩ := hS
  have hf1 : OkC (sideC x y) _ := doM_ok hc.env hf 0 ep
  have hf2 : OkC (sideC x y) _ := doM_ok hc.env hf (x.enabled.length : Nat) eq
  have hd2 := sp_doC hc hf2 0
  have hd1 := fun k : Nat => sp_doC hc hf1 k
  have hen1 : ∀ (h : 0 < (doM (sideC x y).procs (begM (sideC x y)) 0).f.t.l.length), Am.Spec Try.prog 15 [.agg (encT ((doM (sideC x y).procs (begM (sideC x y)) 0).f.t.l[0]))] (.sl (((doM (sideC x y).procs (begM (sideC x y)) 0).f.t.l[0]).enabled.map encS)) := fun h => by
    have hw := hf1.enbWt
    refine sp_Enb7 _ (okN_mem hw.2 _ (List.getElem_mem h)) ?_
    have h1 := Tm.wts_mem (List.getElem_mem h)
    have h2 := (doM (sideC x y).procs (begM (sideC x y)) 0).f.t.wt_eq
    omega
  have eC : encC (sideC x y) = [.sl [], .int .i64 2, .sl [encT tPay, encT (.of 11 [x, y])], .int .i64 1] := rfl
  have hok1 : ∀ k : Int, (doM (sideC x y).procs (doM (sideC x y).procs (begM (sideC x y)) 0).f k).e = 0 → OkC (sideC x y) (doM (sideC x y).procs (doM (sideC x y).procs (begM (sideC x y)) 0).f k).f := fun k h => doM_ok hc.env hf1 k h
  rw [eC, encT_pay, encT_of] at hb hd0 hdk hd2 hd1
  have hcv : sideC x y = sideC x y := rfl
  generalize hps : (sideC x y).procs = ps at *
  generalize begM (sideC x y) = f at *
  generalize doM ps f 0 = p at *
  generalize doM ps f (x.enabled.length : Nat) = q at *
  simp only [didR] at hd0 hdk hd2 hd1
  have hpu := hT.pur
  have hfz := hT.frz
  have hrd := readA_whole hT.len
  have hln := hT.len
  have hpu2 := hU.pur
  have hfz2 := hU.frz
  have hrd2 := readA_whole hU.len
  have hln2 := hU.len
  have hql := encF_ql
  simp [h6, h7, hrd, hpu, hfz, hln, hrd2, hpu2, hfz2, hln2]
  refine scall_nrm hb (by simp [nrmL, nrm, nrmLL, nrmL_encT]) (by simp [closedL, closedLL]) ?_
  simp [h6, hrd]
  refine scall_pure hen (by simp [hpu, hfz]) (by simp [hpu]) ?_
  simp [h6, hrd, hfz]
  refine scall_nrm hd0 (by simp [nrmL, nrm, nrmLL, nrmL_encT]) (by simp [closedL, closedLL]) ?_
  simp
  refine scall_nrm hdk (by simp [nrmL, nrm, nrmLL, nrmL_encT]) (by simp [closedL, closedLL]) ?_
  by_cases c1 : p.f.t.l.length = 2
  · by_cases c2 : q.f.t.l.length = 2
    · have c1' : (p.f.t.l.length : Int) = 2 := by omega
      have c2' : (q.f.t.l.length : Int) = 2 := by omega
      have c0 : 0 < p.f.t.l.length := by omega
      obtain ⟨e1, e2, e3⟩ := hm c1 c2 c0
      have hen1 := hen1 c0
      have hd1 := hd1 (p.f.t.l[0]).enabled.length
      have hok1 := hok1 _ e1
      simp [ep, eq, c1, c2, hql, c0]
      refine scall0_pure hen1 (by simp) (by simp) ?_
      simp
      refine scall0_nrm hd1 (by simp [nrmL, nrm, nrmLL, nrmL_encT]) (by simp [closedL, closedLL]) ?_
      simp
      refine scall_nrm hd2 (by simp [nrmL, nrm, nrmLL, nrmL_encT]) (by simp [closedL, closedLL]) ?_
      rw [e3] at hok1 ⊢
      have hs8 := sp_s8 (doM ps q.f 0).f (doM ps q.f 0).f (Tm.lok_of_wt _ (by have := hok1.wt; omega)) (by have := hok1.vlen (by simp [sideC]); omega) (by have := hok1.slen (by simp [sideC]); omega) (fun l hl => by have := hok1.srow l hl; exact ⟨by omega, this.2⟩)
      rw [(sameF_iff _ _).2 rfl] at hs8
      simp [e1, e2]
      refine scall_pure hs8 (by simp) (by simp) ?_
      simp [retW_eq]
    · have c2' : ¬ (q.f.t.l.length : Int) = 2 := by omega
      simp [ep, eq, c1, c2, c2', hql, retW_eq]
  · have c1' : ¬ (p.f.t.l.length : Int) = 2 := by omega
    simp [ep, eq, c1, c1', hql, retW_eq]
theorem tells_of {c : List AV} {t : Tm} (h : encT t = c) : TellsT c t := h ▸ tells_enc t
theorem sp_sid (a b : Int) : Am.Spec Try.prog 6 [.int .i64 a, .int .i64 b] (.bool true) := by
  have ha := sp_wit8 a 4 (by omega) (by omega)
  have ha1 := wit_ge a 4 (by omega)
  have ha2 := wit_lt a 4 (by omega)
  have hb := sp_wit8 b 2 (by omega) (by omega)
  have hb1 := wit_ge b 2 (by omega)
  have hb2 := wit_lt b 2 (by omega)
  have hc := sp_wit8 (IntKind.wrap .i64 (b.tdiv 2)) 3 (by omega) (by omega)
  have hc1 := wit_ge (IntKind.wrap .i64 (b.tdiv 2)) 3 (by omega)
  have hc2 := wit_lt (IntKind.wrap .i64 (b.tdiv 2)) 3 (by omega)
  have hfin := fun (i j : Nat) (hi : i < 4) (hj : j < 5) (h3 : j ≠ 3) => sid_k30 (sideL i) (sideL j) (sides_all i hi j hj h3)
  generalize within a 4 = ka at *
  generalize within b 2 = kb at *
  generalize within (IntKind.wrap .i64 (b.tdiv 2)) 3 = kc at *
  have ca : ka = 0 ∨ ka = 1 ∨ ka = 2 ∨ ka = 3 := by omega
  have cb : kb = 0 ∨ kb = 1 := by omega
  have cc : kc = 0 ∨ kc = 1 ∨ kc = 2 := by omega
  rcases ca with rfl | rfl | rfl | rfl
  · rcases cb with rfl | rfl
    · rcases cc with rfl | rfl | rfl
      · refine W6_S (by simp) ?_
        intro vs
        simp [-W6_k30]
        refine scall_pure sp_kno8 (by simp) (by simp) ?_
        simp [-W6_k30]
        refine scall0_pure ha (by simp) (by simp) ?_
        simp [-W6_k30]
        refine scall_pure hb (by simp) (by simp) ?_
        simp [-W6_k30]
        refine scall_pure hc (by simp) (by simp) ?_
        simp [-W6_k30]
        exact hfin 0 0 (by omega) (by omega) (by omega) _ _ (tells_of rfl) (tells_of rfl) _ _ _ _ (by simp) (by simp)
      · refine W6_S (by simp) ?_
        intro vs
        simp [-W6_k30]
        refine scall_pure sp_kno8 (by simp) (by simp) ?_
        simp [-W6_k30]
        refine scall0_pure ha (by simp) (by simp) ?_
        simp [-W6_k30]
        refine scall_pure hb (by simp) (by simp) ?_
        simp [-W6_k30]
        refine scall_pure hc (by simp) (by simp) ?_
        simp [-W6_k30]
        exact hfin 0 1 (by omega) (by omega) (by omega) _ _ (tells_of rfl) (tells_of rfl) _ _ _ _ (by simp) (by simp)
      · refine W6_S (by simp) ?_
        intro vs
        simp [-W6_k30]
        refine scall_pure sp_kno8 (by simp) (by simp) ?_
        simp [-W6_k30]
        refine scall0_pure ha (by simp) (by simp) ?_
        simp [-W6_k30]
        refine scall_pure hb (by simp) (by simp) ?_
        simp [-W6_k30]
        refine scall_pure hc (by simp) (by simp) ?_
        simp [-W6_k30]
        exact hfin 0 2 (by omega) (by omega) (by omega) _ _ (tells_of rfl) (tells_of rfl) _ _ _ _ (by simp) (by simp)
    · refine W6_S (by simp) ?_
      intro vs
      simp [-W6_k30]
      refine scall_pure sp_kno8 (by simp) (by simp) ?_
      simp [-W6_k30]
      refine scall0_pure ha (by simp) (by simp) ?_
      simp [-W6_k30]
      refine scall_pure hb (by simp) (by simp) ?_
      simp [-W6_k30]
      exact hfin 0 4 (by omega) (by omega) (by omega) _ _ (tells_of rfl) (tells_of rfl) _ _ _ _ (by simp) (by simp)
  · rcases cb with rfl | rfl
    · rcases cc with rfl | rfl | rfl
      · refine W6_S (by simp) ?_
        intro vs
        simp [-W6_k30]
        refine scall_pure sp_kno8 (by simp) (by simp) ?_
        simp [-W6_k30]
        refine scall0_pure ha (by simp) (by simp) ?_
        simp [-W6_k30]
        refine scall_pure hb (by simp) (by simp) ?_
        simp [-W6_k30]
        refine scall_pure hc (by simp) (by simp) ?_
        simp [-W6_k30]
        exact hfin 1 0 (by omega) (by omega) (by omega) _ _ (tells_of rfl) (tells_of rfl) _ _ _ _ (by simp) (by simp)
      · refine W6_S (by simp) ?_
        intro vs
        simp [-W6_k30]
        refine scall_pure sp_kno8 (by simp) (by simp) ?_
        simp [-W6_k30]
        refine scall0_pure ha (by simp) (by simp) ?_
        simp [-W6_k30]
        refine scall_pure hb (by simp) (by simp) ?_
        simp [-W6_k30]
        refine scall_pure hc (by simp) (by simp) ?_
        simp [-W6_k30]
        exact hfin 1 1 (by omega) (by omega) (by omega) _ _ (tells_of rfl) (tells_of rfl) _ _ _ _ (by simp) (by simp)
      · refine W6_S (by simp) ?_
        intro vs
        simp [-W6_k30]
        refine scall_pure sp_kno8 (by simp) (by simp) ?_
        simp [-W6_k30]
        refine scall0_pure ha (by simp) (by simp) ?_
        simp [-W6_k30]
        refine scall_pure hb (by simp) (by simp) ?_
        simp [-W6_k30]
        refine scall_pure hc (by simp) (by simp) ?_
        simp [-W6_k30]
        exact hfin 1 2 (by omega) (by omega) (by omega) _ _ (tells_of rfl) (tells_of rfl) _ _ _ _ (by simp) (by simp)
    · refine W6_S (by simp) ?_
      intro vs
      simp [-W6_k30]
      refine scall_pure sp_kno8 (by simp) (by simp) ?_
      simp [-W6_k30]
      refine scall0_pure ha (by simp) (by simp) ?_
      simp [-W6_k30]
      refine scall_pure hb (by simp) (by simp) ?_
      simp [-W6_k30]
      exact hfin 1 4 (by omega) (by omega) (by omega) _ _ (tells_of rfl) (tells_of rfl) _ _ _ _ (by simp) (by simp)
  · rcases cb with rfl | rfl
    · rcases cc with rfl | rfl | rfl
      · refine W6_S (by simp) ?_
        intro vs
        simp [-W6_k30]
        refine scall_pure sp_kno8 (by simp) (by simp) ?_
        simp [-W6_k30]
        refine scall0_pure ha (by simp) (by simp) ?_
        simp [-W6_k30]
        refine scall_pure hb (by simp) (by simp) ?_
        simp [-W6_k30]
        refine scall_pure hc (by simp) (by simp) ?_
        simp [-W6_k30]
        exact hfin 2 0 (by omega) (by omega) (by omega) _ _ (tells_of rfl) (tells_of rfl) _ _ _ _ (by simp) (by simp)
      · refine W6_S (by simp) ?_
        intro vs
        simp [-W6_k30]
        refine scall_pure sp_kno8 (by simp) (by simp) ?_
        simp [-W6_k30]
        refine scall0_pure ha (by simp) (by simp) ?_
        simp [-W6_k30]
        refine scall_pure hb (by simp) (by simp) ?_
        simp [-W6_k30]
        refine scall_pure hc (by simp) (by simp) ?_
        simp [-W6_k30]
        exact hfin 2 1 (by omega) (by omega) (by omega) _ _ (tells_of rfl) (tells_of rfl) _ _ _ _ (by simp) (by simp)
      · refine W6_S (by simp) ?_
        intro vs
        simp [-W6_k30]
        refine scall_pure sp_kno8 (by simp) (by simp) ?_
        simp [-W6_k30]
        refine scall0_pure ha (by simp) (by simp) ?_
        simp [-W6_k30]
        refine scall_pure hb (by simp) (by simp) ?_
        simp [-W6_k30]
        refine scall_pure hc (by simp) (by simp) ?_
        simp [-W6_k30]
        exact hfin 2 2 (by omega) (by omega) (by omega) _ _ (tells_of rfl) (tells_of rfl) _ _ _ _ (by simp) (by simp)
    · refine W6_S (by simp) ?_
      intro vs
      simp [-W6_k30]
      refine scall_pure sp_kno8 (by simp) (by simp) ?_
      simp [-W6_k30]
      refine scall0_pure ha (by simp) (by simp) ?_
      simp [-W6_k30]
      refine scall_pure hb (by simp) (by simp) ?_
      simp [-W6_k30]
      exact hfin 2 4 (by omega) (by omega) (by omega) _ _ (tells_of rfl) (tells_of rfl) _ _ _ _ (by simp) (by simp)
  · rcases cb with rfl | rfl
    · rcases cc with rfl | rfl | rfl
      · refine W6_S (by simp) ?_
        intro vs
        simp [-W6_k30]
        refine scall_pure sp_kno8 (by simp) (by simp) ?_
        simp [-W6_k30]
        refine scall0_pure ha (by simp) (by simp) ?_
        simp [-W6_k30]
        refine scall_pure hb (by simp) (by simp) ?_
        simp [-W6_k30]
        refine scall_pure hc (by simp) (by simp) ?_
        simp [-W6_k30]
        exact hfin 3 0 (by omega) (by omega) (by omega) _ _ (tells_of rfl) (tells_of rfl) _ _ _ _ (by simp) (by simp)
      · refine W6_S (by simp) ?_
        intro vs
        simp [-W6_k30]
        refine scall_pure sp_kno8 (by simp) (by simp) ?_
        simp [-W6_k30]
        refine scall0_pure ha (by simp) (by simp) ?_
        simp [-W6_k30]
        refine scall_pure hb (by simp) (by simp) ?_
        simp [-W6_k30]
        refine scall_pure hc (by simp) (by simp) ?_
        simp [-W6_k30]
        exact hfin 3 1 (by omega) (by omega) (by omega) _ _ (tells_of rfl) (tells_of rfl) _ _ _ _ (by simp) (by simp)
      · refine W6_S (by simp) ?_
        intro vs
        simp [-W6_k30]
        refine scall_pure sp_kno8 (by simp) (by simp) ?_
        simp [-W6_k30]
        refine scall0_pure ha (by simp) (by simp) ?_
        simp [-W6_k30]
        refine scall_pure hb (by simp) (by simp) ?_
        simp [-W6_k30]
        refine scall_pure hc (by simp) (by simp) ?_
        simp [-W6_k30]
        exact hfin 3 2 (by omega) (by omega) (by omega) _ _ (tells_of rfl) (tells_of rfl) _ _ _ _ (by simp) (by simp)
    · refine W6_S (by simp) ?_
      intro vs
      simp [-W6_k30]
      refine scall_pure sp_kno8 (by simp) (by simp) ?_
      simp [-W6_k30]
      refine scall0_pure ha (by simp) (by simp) ?_
      simp [-W6_k30]
      refine scall_pure hb (by simp) (by simp) ?_
      simp [-W6_k30]
      exact hfin 3 4 (by omega) (by omega) (by omega) _ _ (tells_of rfl) (tells_of rfl) _ _ _ _ (by simp) (by simp)
end Go.Proofs.Ytnngddgaobhkiaa
