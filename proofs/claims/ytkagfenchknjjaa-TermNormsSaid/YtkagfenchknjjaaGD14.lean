import Derived.Test.YtkagfenchknjjaaGQ7
import Derived.Test.YtkagfenchknjjaaGW8
import Derived.Test.YtkagfenchknjjaaGW9
import Derived.Test.YtkagfenchknjjaaGD13
import Derived.Test.YtkagfenchknjjaaGC11
set_option linter.unusedVariables false
set_option linter.unusedSimpArgs false
namespace Go.Proofs.Ytkagfenchknjjaa
open Go Go.Am Go.RowKit
attribute [local simp] W110 W110_rs W110_k1 W110_b2 W67 W67_rs W67_k1 W67_b2 W43 W43_rs W43_k1 W43_b2 W86 W86_rs W86_b1 W86_b4 W86_b8 W86_k2 W86_c3 W86_c5 W86_c6 W86_l7 W64 W64_rs W64_c1 W111 W111_rs W111_c1 W111_c3 W111_b2 W111_b4 W101 W101_rs W101_c1 W101_c3 W101_c5 W101_c7 W101_c9 W101_c11 W101_c12 W101_c17 W101_c18 W101_c19 W101_c21 W101_b2 W101_b4 W101_b6 W101_b8 W101_b10 W101_b13 W101_b14 W101_b15 W101_b16 W101_b20 W88 W88_rs W88_b1 W88_b3 W88_c2 W66 W66_rs W65 W65_rs W68 W68_rs W44 W44_rs W44_b1 W44_b4 W44_b8 W44_k2 W44_c3 W44_c5 W44_c6 W44_c9 W44_c10 W44_c11 W44_c12 W44_l7 W21 W21_rs W21_c1 W21_c2 W21_c4 W21_k3 W21_b5 W21_l6

theorem sp_wi2 (a n : Int) (hn : 0 < n) (h2 : n < 1000) : Am.Spec Try.prog 110 [.int .i64 a, .int .i64 n] (.int .i64 (within a n)) := by
  refine Am.Spec.of_W (W := W110) Try.func110 (by kernel_rfl) (by kernel_rfl) (by kernel_rfl) Try.ntmps110 W110_eq (rs := [.tmp 4]) (by kernel_rfl) (by simp) ?_
  intro vs
  simp
  rw [if_neg (by omega)]
  simp
  have h1 := Int.tmod_lt_of_pos a hn
  have h3 : -n < a.tmod n := by have := Int.lt_tmod_of_pos a hn; omega
  refine sIf_dec (fun h => ?_) (fun h => ?_)
  · simp
    rw [wrap64 (by omega) (by omega)]
    simp [retW_eq, within, h]
  · simp [retW_eq, within, h]
theorem sp_wi3 (a n : Int) (hn : 0 < n) (h2 : n < 1000) : Am.Spec Try.prog 67 [.int .i64 a, .int .i64 n] (.int .i64 (within a n)) := by
  refine Am.Spec.of_W (W := W67) Try.func67 (by kernel_rfl) (by kernel_rfl) (by kernel_rfl) Try.ntmps67 W67_eq (rs := [.tmp 4]) (by kernel_rfl) (by simp) ?_
  intro vs
  simp
  rw [if_neg (by omega)]
  simp
  have h1 := Int.tmod_lt_of_pos a hn
  have h3 : -n < a.tmod n := by have := Int.lt_tmod_of_pos a hn; omega
  refine sIf_dec (fun h => ?_) (fun h => ?_)
  · simp
    rw [wrap64 (by omega) (by omega)]
    simp [retW_eq, within, h]
  · simp [retW_eq, within, h]
theorem sp_wi5 (a n : Int) (hn : 0 < n) (h2 : n < 1000) : Am.Spec Try.prog 43 [.int .i64 a, .int .i64 n] (.int .i64 (within a n)) := by
  refine Am.Spec.of_W (W := W43) Try.func43 (by kernel_rfl) (by kernel_rfl) (by kernel_rfl) Try.ntmps43 W43_eq (rs := [.tmp 4]) (by kernel_rfl) (by simp) ?_
  intro vs
  simp
  rw [if_neg (by omega)]
  simp
  have h1 := Int.tmod_lt_of_pos a hn
  have h3 : -n < a.tmod n := by have := Int.lt_tmod_of_pos a hn; omega
  refine sIf_dec (fun h => ?_) (fun h => ?_)
  · simp
    rw [wrap64 (by omega) (by omega)]
    simp [retW_eq, within, h]
  · simp [retW_eq, within, h]
theorem within_ge (a n : Int) (hn : 0 < n) : 0 ≤ within a n := by
  have h1 := Int.tmod_lt_of_pos a hn
  have h3 := Int.lt_tmod_of_pos a hn
  unfold within
  split <;> omega
theorem within_lt (a n : Int) (hn : 0 < n) : within a n < n := by
  have h1 := Int.tmod_lt_of_pos a hn
  unfold within
  split <;> omega
theorem sp_sz2 (l : List Rw2) (d : Nat) (hd : d ≤ 9) : Am.Spec Try.prog 86 [.sl (l.map encR2), .int .i64 d] (.int .i64 (sz2 l d)) := by
  refine Am.Spec.of_W (W := W86) Try.func86 (by kernel_rfl) (by kernel_rfl) (by kernel_rfl) Try.ntmps86 W86_eq (rs := [.tmp 4]) (by kernel_rfl) (by simp) ?_
  intro vs
  simp
  refine sIf_dec (fun h => ?_) (fun h => ?_)
  · have h : 8 < d := by omega
    simp [retW_eq, Am.sz2, h]
  · have h' : ¬ 8 < d := by omega
    simp
    refine sLoop_intro (fun x : Nat × Int => x.1 ≤ l.length ∧ x.1 ≤ x.2 ∧ x.2 ≤ 1300 ∧ Am.sz2 l d = Rw2.szs (l.drop x.1) d x.2) (fun x => l.length - x.1)
      (fun x => [(0, .sl (l.map encR2)), (1, .int .i64 d), (5, .int .i64 x.2), (6, .int .i64 (x.1 : Nat))]) (fun _ => []) (0, 0) (by simp [Am.sz2, h']) (by simp) (by simp) ?_
    rintro L ⟨i, n⟩ vs ⟨hi, hn0, hn1, hs⟩ hL
    simp only at hi hn0 hn1 hs hL
    simp
    refine sGrd_dec (fun h1 => ?_) (fun h1 => ?_)
    · simp
      rw [decide_eq_true h1]
      simp
      refine sIf_dec (fun h2 => ?_) (fun h2 => ?_)
      · have hsz := sz2_le l[i].l (d + 1)
        simp [h1]
        rw [wrap64 (x := (d : Int) + 1) (by omega) (by omega)]
        refine scall_flat (sp_sz2 l[i].l (d + 1) (by omega)) (by simp) (by simp) rfl ?_
        simp
        rw [wrap64 (x := n + 1) (by omega) (by omega), wrap64 (by omega) (by omega), wrap64 (by omega) (by omega)]
        exact hL _ _ _ (i + 1, n + 1 + Am.sz2 l[i].l (d + 1)) ⟨h1, by simp; omega, by simp; omega, hs.trans (Rw2.szs_drop l i d n h1 h2)⟩ (by simp; omega) (by simp) (by simp)
      · simp [retW_eq]
        rw [hs, Rw2.szs_stop _ _ _ h2]
    · simp
      rw [decide_eq_false h1]
      simp [retW_eq]
      rw [hs, List.drop_of_length_le (by omega)]
      rfl
termination_by SizeOf.sizeOf l
decreasing_by
  have h3 := List.sizeOf_lt_of_mem (List.getElem_mem h1)
  have h4 : ∀ y : Rw2, SizeOf.sizeOf y.l < SizeOf.sizeOf y := fun y => by cases y; simp; omega
  have := h4 l[i]
  omega
theorem sp_fw2 (l : List Rw2) : Am.Spec Try.prog 64 [.sl (l.map encR2)] (.bool (decide (sz2 l 0 ≤ 20))) := by
  refine Am.Spec.of_W (W := W64) Try.func64 (by kernel_rfl) (by kernel_rfl) (by kernel_rfl) Try.ntmps64 W64_eq (rs := [.tmp 2]) (by kernel_rfl) (by simp) ?_
  intro vs
  simp
  refine scall_flat (sp_sz2 l 0 (by omega)) (by simp) (by simp) rfl ?_
  simp [retW_eq]
theorem sp_pt2 (ns : List ByteArray) (x : Rw2) (i : Nat) (hi : i < 2) (ih : ∀ y ∈ x.l, Am.Spec Try.prog 101 [.agg (encR2 y), .sl (encB ns)] (.agg (encE (y.ex ns)))) :
    Am.Spec Try.prog 111 [.agg (encR2 x), .int .i64 i, .sl (encB ns)] (.agg (encE (x.part ns i))) := by
  refine Am.Spec.of_W (W := W111) Try.func111 (by kernel_rfl) (by kernel_rfl) (by kernel_rfl) Try.ntmps111 W111_eq (rs := [.cell 6 31]) (by kernel_rfl) (by simp) ?_
  intro vs
  simp
  refine sIf_dec (fun h => ?_) (fun h => ?_)
  · have h' : i < x.l.length := by omega
    simp [h']
    refine scall_pure (ih _ (List.getElem_mem h')) (by simp) (by simp) ?_
    simp [retW_eq, Rw2.part, h']
  · have h' : x.l.length ≤ i := by omega
    simp
    refine scall_flat (sp_wi2 (IntKind.wrap .i64 (x.n + i)) 5 (by omega) (by omega)) (by simp) (by simp) rfl ?_
    simp [retW_eq, Rw2.part, List.getElem?_eq_none h', leafE, encE_mk]
theorem sp_mk2 (ns : List ByteArray) (x : Rw2) (hns : ns.length < 1000) : Am.Spec Try.prog 101 [.agg (encR2 x), .sl (encB ns)] (.agg (encE (x.ex ns))) := by
  have ih : ∀ y ∈ x.l, Am.Spec Try.prog 101 [.agg (encR2 y), .sl (encB ns)] (.agg (encE (y.ex ns))) := fun y hy => sp_mk2 ns y hns
  have h0 := within_ge x.k 24 (by omega)
  have h1 := within_lt x.k 24 (by omega)
  refine Am.Spec.of_W (W := W101) Try.func101 (by kernel_rfl) (by kernel_rfl) (by kernel_rfl) Try.ntmps101 W101_eq (rs := [.cell 4 31]) (by kernel_rfl) (by simp) ?_
  intro vs
  simp
  refine scall_flat (sp_wi2 x.k 24 (by omega) (by omega)) (by simp) (by simp) rfl ?_
  rw [x.ex_eq]
  generalize within x.k 24 = w at *
  simp
  refine sIf_dec (fun h4 => ?_) (fun h4 => ?_)
  · simp
    refine scall_flat (sp_wi2 x.n 8 (by omega) (by omega)) (by simp) (by simp) rfl ?_
    have h2 := within_ge x.n 8 (by omega)
    have h3 := within_lt x.n 8 (by omega)
    generalize within x.n 8 = m at *
    obtain ⟨m, rfl⟩ : ∃ j : Nat, m = j := ⟨m.toNat, by omega⟩
    simp
    have hn : ∀ m : Nat, m < 8 → ([[AV.int .i64 0], [AV.int .i64 1], [AV.int .i64 2], [AV.int .i64 7], [AV.int .i64 99], [AV.int .i64 999999999999999999], [AV.int .i64 5], [AV.int .i64 3]] : List (List AV))[m]? = some [.int .i64 (numsE.getD m 0)] := by
      intro m hm
      rcases m with _ | _ | _ | _ | _ | _ | _ | _ | m
      all_goals first | rfl | omega
    rw [hn m (by omega)]
    simp [retW_eq, h4, encE_mk]
  · simp
    refine sGrd_dec (fun h9 => ?_) (fun h9 => ?_)
    · simp [h9]
      by_cases hz : ns.length = 0
      · have : ns = [] := List.eq_nil_of_length_eq_zero hz
        subst this
        simp [h9]
        refine scall_flat (sp_wi2 x.n 3 (by omega) (by omega)) (by simp) (by simp) rfl ?_
        simp [retW_eq, h4, h9, encE_mk]
      · have hz' : 0 < ns.length := by omega
        simp [h9, hz']
        refine scall_flat (sp_wi2 x.n ns.length (by omega) (by omega)) (by simp) (by simp) rfl ?_
        simp
        rw [ixB_row1 ns _ (within_ge _ _ (by omega)) (within_lt _ _ (by omega))]
        simp [retW_eq, h4, h9, encE_mk, hz']
    · simp [h9]
      have g9 : ¬ w < 9 := h9
      refine sIf_dec (fun h => ?_) (fun h => ?_)
      · simp
        refine scall_pure (sp_pt2 ns x 0 (by omega) ih) (by simp) (by simp) ?_
        simp [retW_eq, h4, h9, h, encE_mk]
      · simp
        refine sIf_dec (fun h' => ?_) (fun h' => ?_)
        · simp
          refine scall_pure (sp_pt2 ns x 0 (by omega) ih) (by simp) (by simp) ?_
          simp [retW_eq, h4, h9, h, h', encE_mk]
        · simp
          rw [wrap64 (x := 5 + w) (by omega) (by omega), wrap64 (by omega) (by omega)]
          refine scall0_pure (sp_pt2 ns x 0 (by omega) ih) (by simp) (by simp) ?_
          simp
          refine scall0_pure (sp_pt2 ns x 1 (by omega) ih) (by simp) (by simp) ?_
          simp [retW_eq, h4, h, h', encE_mk, h9]
          omega
termination_by SizeOf.sizeOf x
decreasing_by exact Rw2.lt_of_mem hy
theorem sp_one (ns : List ByteArray) (l : List Rw2) (hns : ns.length < 1000) : Am.Spec Try.prog 88 [.sl (l.map encR2), .sl (encB ns)] (.agg (encE (oneE ns l))) := by
  refine Am.Spec.of_W (W := W88) Try.func88 (by kernel_rfl) (by kernel_rfl) (by kernel_rfl) Try.ntmps88 W88_eq (rs := [.cell 4 31]) (by kernel_rfl) (by simp) ?_
  intro vs
  simp
  cases l with
  | nil => simp [retW_eq, oneE, encE_mk]
  | cons x l =>
    simp
    refine scall_pure (sp_mk2 ns x hns) (by simp) (by simp) ?_
    simp [retW_eq, oneE]
theorem sp_vrs : Am.Spec Try.prog 66 [] (.sl (encB vsL)) := by
  refine Am.Spec.of_W (W := W66) Try.func66 (by kernel_rfl) (by kernel_rfl) (by kernel_rfl) Try.ntmps66 W66_eq (rs := [.tmp 0]) (by kernel_rfl) (by simp) ?_
  intro vs
  simp [retW_eq, encB, vsL]
theorem sp_stk3 : Am.Spec Try.prog 65 [] (.sl (encB ssL)) := by
  refine Am.Spec.of_W (W := W65) Try.func65 (by kernel_rfl) (by kernel_rfl) (by kernel_rfl) Try.ntmps65 W65_eq (rs := [.tmp 0]) (by kernel_rfl) (by simp) ?_
  intro vs
  simp [retW_eq, encB, ssL]
theorem sp_dfs : Am.Spec Try.prog 68 [] (.sl (encB dsL)) := by
  refine Am.Spec.of_W (W := W68) Try.func68 (by kernel_rfl) (by kernel_rfl) (by kernel_rfl) Try.ntmps68 W68_eq (rs := [.tmp 0]) (by kernel_rfl) (by simp) ?_
  intro vs
  simp [retW_eq, encB, dsL]
theorem sp_sz3 (x : Rw3) (d : Nat) (hd : d ≤ 9) : Am.Spec Try.prog 44 [.agg (encR3 x), .int .i64 d] (.int .i64 (x.sz d)) := by
  refine Am.Spec.of_W (W := W44) Try.func44 (by kernel_rfl) (by kernel_rfl) (by kernel_rfl) Try.ntmps44 W44_eq (rs := [.tmp 4]) (by kernel_rfl) (by simp) ?_
  intro vs
  simp
  have hz := x.sz_eq d
  have fin : ∀ (v2 : Nat) (T : List (Nat × AV)) (VS : Nat → Nat), x.sz d = Rw3.szs x.l d 1 → d ≤ 8 → Am.subT T [(1, .int .i64 d), (2, .ref 2 v2 (.p 0)), (5, .int .i64 1), (6, .int .i64 0)] → (@sLoop ⟨Am.look T, hls [(2, .box v2 25 (encR3 x))] VS, noG⟩ ⟨fun L0 s => W44_l7 Try.prog (retK Try.prog [.tmp 4] (.int .i64 (x.sz d))) L0 s⟩) := by
    intro v2 T VS hzz hd8 hT
    refine sLoop_intro (fun y : Nat × Int => y.1 ≤ x.l.length ∧ y.1 ≤ y.2 ∧ y.2 ≤ 1500 ∧ Rw3.szs x.l d 1 = Rw3.szs (x.l.drop y.1) d y.2) (fun y => x.l.length - y.1)
      (fun y => [(1, .int .i64 d), (2, .ref 2 v2 (.p 0)), (5, .int .i64 y.2), (6, .int .i64 (y.1 : Nat))]) (fun _ => [(2, .box v2 25 (encR3 x))]) (0, 1) (by simp) (by simpa using hT) (by simp) ?_
    rintro L ⟨i, n⟩ vs ⟨hi, hn0, hn1, hs⟩ hL
    simp only at hi hn0 hn1 hs hL
    simp
    refine sGrd_dec (fun h1 => ?_) (fun h1 => ?_)
    · simp
      rw [decide_eq_true h1]
      simp
      refine sIf_dec (fun h2 => ?_) (fun h2 => ?_)
      · have hsz := Rw3.sz_le x.l[i] (d + 1)
        simp [h1]
        rw [wrap64 (x := (d : Int) + 1) (by omega) (by omega)]
        refine scall_flat (sp_sz3 x.l[i] (d + 1) (by omega)) (by simp) (by simp) rfl ?_
        simp
        rw [wrap64 (by omega) (by omega), wrap64 (by omega) (by omega)]
        exact hL _ _ _ (i + 1, n + x.l[i].sz (d + 1)) ⟨h1, by simp; omega, by simp; omega, hs.trans (Rw3.szs_drop x.l i d n h1 h2)⟩ (by simp; omega) (by simp) (by simp)
      · simp [retW_eq]
        rw [hzz, hs, Rw3.szs_stop _ _ _ h2]
    · simp
      rw [decide_eq_false h1]
      simp [retW_eq]
      rw [hzz, hs, List.drop_of_length_le (by omega)]
      rfl
  by_cases h : 8 < (d : Int)
  · have h' : 8 < d := by omega
    rw [if_pos (.inl h')] at hz
    simp [h, h', retW_eq, hz]
  · have h' : ¬ 8 < d := by omega
    simp [h]
    refine scall_flat (sp_fw2 x.e) (by simp) (by simp) rfl ?_
    simp
    by_cases he : sz2 x.e 0 ≤ 20
    · simp [he, h', -W44_l7]
      exact fin (vs 2 + 1) _ vs (by rw [hz, if_neg (by simp [h', he])]) (by omega) (by simp)
    · rw [if_pos (.inr he)] at hz
      simp [he, h', retW_eq, hz]
termination_by SizeOf.sizeOf x
decreasing_by exact Rw3.lt_of_mem (List.getElem_mem h1)
def wsum (l : List Rw3) : Int := l.foldl (fun n x => IntKind.wrap .i64 (n + x.sz 0)) 0
theorem wsum_few (l : List Rw3) : (decide (l.length ≤ 5) && decide (wsum l ≤ 40)) = few3 l := by
  unfold few3
  by_cases h : l.length ≤ 5
  · rw [decide_eq_true h]
    have : wsum l = (l.map fun x => x.sz 0).sum := by
      unfold wsum
      have hz : ∀ x : Rw3, 1 ≤ x.sz 0 ∧ x.sz 0 ≤ 1360 := fun x => by have := x.sz_le 0; omega
      have go : ∀ (l : List Rw3) (n : Int), 0 ≤ n → n + 1360 * l.length ≤ 100000 → l.foldl (fun n x => IntKind.wrap .i64 (n + x.sz 0)) n = n + (l.map fun x => x.sz 0).sum := by
        intro l
        induction l with
        | nil => intro n _ _; simp
        | cons x l ih =>
          intro n h0 h1
          have := hz x
          simp only [List.length_cons] at h1
          simp only [List.foldl_cons, List.map_cons, List.sum_cons]
          rw [wrap64 (by omega) (by omega), ih _ (by omega) (by omega)]
          omega
      rw [go l 0 (by omega) (by omega)]
      omega
    rw [this]
  · rw [decide_eq_false h]
    rfl
theorem wsum_take (l : List Rw3) (i : Nat) (h : i < l.length) : wsum (l.take (i + 1)) = IntKind.wrap .i64 (wsum (l.take i) + l[i].sz 0) := by
  unfold wsum
  rw [List.take_succ_eq_append_getElem h, List.foldl_append]
  rfl
theorem sp_fw3 (a b : AV) (l : List Rw3) (hl : l.length ≤ maxLen) (ha : a.cell = true ∧ closed a = true) (hb : b.cell = true ∧ closed b = true) : Am.Spec Try.prog 21 [.agg [a, b, .sl (l.map encR3)]] (.bool (few3 l)) := by
  have hm : maxLen = 9223372036854775807 := rfl
  refine Am.Spec.of_W (W := W21) Try.func21 (by kernel_rfl) (by kernel_rfl) (by kernel_rfl) Try.ntmps21 W21_eq (rs := [.tmp 2]) (by kernel_rfl) (by simp) ?_
  intro vs
  simp [ha.1, hb.1]
  refine sLoop_intro (fun i => i ≤ l.length) (fun i => l.length - i)
    (fun i => [(1, .ref 1 (vs 1 + 1) (.p 0)), (3, .int .i64 (wsum (l.take i))), (4, .int .i64 (i : Nat))]) (fun _ => [(1, .box (vs 1 + 1) 28 [a, b, .sl (l.map encR3)])]) 0 (by simp) (by simp [wsum]) (by simp) ?_
  intro L i vt hi hL
  simp
  refine sIf_dec (fun h => ?_) (fun h => ?_)
  · simp [h]
    refine scall_flat (sp_sz3 l[i] 0 (by omega)) (by simp) (by simp) rfl ?_
    simp
    rw [wrap64 (x := (i : Int) + 1) (by omega) (by omega)]
    exact hL _ _ _ (i + 1) h (by omega) (by simp [wsum_take _ _ h]) (by simp)
  · rw [List.take_of_length_le (by omega)] at *
    simp
    rw [← wsum_few]
    by_cases h5 : l.length ≤ 5
    · have h5' : (l.length : Int) ≤ 5 := by omega
      simp [retW_eq, h5, h5']
    · have h5' : ¬ (l.length : Int) ≤ 5 := by omega
      simp [retW_eq, h5, h5']
end Go.Proofs.Ytkagfenchknjjaa
set_option linter.unusedVariables false
set_option linter.unusedSimpArgs false
namespace Go.Proofs.Ytkagfenchknjjaa
open Go Go.Am Go.RowKit
attribute [local simp] W87 W87_rs W87_c1 W87_c4 W87_c5 W87_b2 W87_b3 W69 W69_rs W69_c1 W69_c3 W69_c5 W69_c6 W69_c11 W69_c12 W69_c16 W69_c17 W69_c45 W69_c46 W69_c47 W69_c48 W69_c49 W69_c50 W69_c51 W69_c52 W69_c53 W69_b2 W69_b4 W69_b7 W69_b8 W69_b9 W69_b10 W69_b13 W69_b14 W69_b15 W69_b18 W69_b19 W69_b20 W69_b21 W69_b22 W69_b23 W69_b24 W69_b25 W69_b27 W69_b28 W69_b29 W69_b30 W69_b31 W69_b32 W69_b33 W69_b34 W69_b35 W69_b37 W69_b38 W69_b39 W69_b41 W69_b42 W69_b44 W69_k26 W69_k36 W69_k40 W69_k43

theorem sp_pt3 (x : Rw3) (i d : Nat) (hi : i < 2) (hd : d ≤ 6) (ih : ∀ y ∈ x.l, d < 6 → Am.Spec Try.prog 69 [.agg (encR3 y), .int .i64 (d + 1 : Nat)] (.agg (encPr (y.pr (d + 1))))) :
    Am.Spec Try.prog 87 [.agg (encR3 x), .int .i64 i, .int .i64 d] (.agg (encPr (x.part i d))) := by
  refine Am.Spec.of_W (W := W87) Try.func87 (by kernel_rfl) (by kernel_rfl) (by kernel_rfl) Try.ntmps87 W87_eq (rs := [.cell 6 73]) (by kernel_rfl) (by simp) ?_
  intro vs
  simp
  by_cases h : i < x.l.length
  · have h' : (i : Int) < x.l.length := by omega
    by_cases h6 : d < 6
    · have h6' : (d : Int) < 6 := by omega
      simp [h, h', h6', h6]
      rw [wrap64 (by omega) (by omega)]
      refine scall_pure (by simpa using ih _ (List.getElem_mem h) h6) (by simp) (by simp) ?_
      simp [retW_eq, Rw3.part, h, h6]
    · have h6' : ¬ (d : Int) < 6 := by omega
      simp [h, h', h6', h6, retW_eq, Rw3.part, Pr.skip, Pr.of, encPr_mk, Ex.zero, encE_mk]
  · have h' : ¬ (i : Int) < x.l.length := by omega
    simp [h, h', retW_eq, Rw3.part, List.getElem?_eq_none (show x.l.length ≤ i by omega), Pr.skip, Pr.of, encPr_mk, Ex.zero, encE_mk]
theorem ixB_row1' (l : List ByteArray) (a : Int) (n : Int) (h0 : 0 < n) (h : n = l.length) : ixRows (encB l) (within a n) 1 = some (.elt [.str (nthB l (within a n))] 0) :=
  ixB_row1 l _ (within_ge _ _ h0) (by have := within_lt a n h0; omega)
set_option maxHeartbeats 4000000 in
theorem sp_mk3 (x : Rw3) (d : Nat) (hd : d ≤ 6) : Am.Spec Try.prog 69 [.agg (encR3 x), .int .i64 d] (.agg (encPr (x.pr d))) := by
  have ih : ∀ y ∈ x.l, d < 6 → Am.Spec Try.prog 69 [.agg (encR3 y), .int .i64 (d + 1 : Nat)] (.agg (encPr (y.pr (d + 1)))) := fun y hy h => sp_mk3 y (d + 1) (by omega)
  have w0 := within_ge x.k 20 (by omega)
  have w1 := within_lt x.k 20 (by omega)
  rw [x.pr_eq]
  refine Am.Spec.of_W (W := W69) Try.func69 (by kernel_rfl) (by kernel_rfl) (by kernel_rfl) Try.ntmps69 W69_eq (rs := [.cell 4 73]) (by kernel_rfl) (by simp) ?_
  intro vs
  simp
  refine scall0_pure sp_vrs (by simp) (by simp) ?_
  simp
  refine scall0_pure (sp_wi3 x.a 3 (by omega) (by omega)) (by simp) (by simp) ?_
  simp
  rw [ixB_row1' vsL x.a 3 (by omega) rfl]
  simp
  refine scall0_pure sp_stk3 (by simp) (by simp) ?_
  simp
  refine scall0_pure (sp_wi3 x.a 2 (by omega) (by omega)) (by simp) (by simp) ?_
  simp
  rw [ixB_row1' ssL x.a 2 (by omega) rfl]
  simp
  refine scall0_pure sp_dfs (by simp) (by simp) ?_
  simp
  refine scall0_pure (sp_wi3 x.a 5 (by omega) (by omega)) (by simp) (by simp) ?_
  simp
  rw [ixB_row1' dsL x.a 5 (by omega) rfl]
  simp
  refine scall0_pure (sp_pt3 x 0 d (by omega) hd ih) (by simp) (by simp) ?_
  simp
  refine scall0_pure (sp_pt3 x 1 d (by omega) hd ih) (by simp) (by simp) ?_
  simp
  refine scall_flat (sp_wi3 x.k 20 (by omega) (by omega)) (by simp) (by simp) rfl ?_
  unfold prOf
  generalize within x.k 20 = w at *
  have e0 : ∀ s t : ByteArray, ∀ k : Int, ∀ l : List Pr, [AV.int .i64 k, .str s, .str t, .int .i64 0, .int .i64 0, .str ⟨#[]⟩, .sl [], .sl (l.map encPr)] = encPr (.of k s t l) := fun s t k l => by simp [Pr.of, encPr_mk, Ex.zero, encE_mk]
  have e00 : ∀ s t : ByteArray, ∀ k : Int, [AV.int .i64 k, .str s, .str t, .int .i64 0, .int .i64 0, .str ⟨#[]⟩, .sl [], .sl []] = encPr (.of k s t []) := fun s t k => e0 s t k []
  have e01 : ∀ s t : ByteArray, ∀ k : Int, ∀ p : Pr, [AV.int .i64 k, .str s, .str t, .int .i64 0, .int .i64 0, .str ⟨#[]⟩, .sl [], .sl [encPr p]] = encPr (.of k s t [p]) := fun s t k p => e0 s t k [p]
  have e02 : ∀ s t : ByteArray, ∀ k : Int, ∀ p q : Pr, [AV.int .i64 k, .str s, .str t, .int .i64 0, .int .i64 0, .str ⟨#[]⟩, .sl [], .sl [encPr p, encPr q]] = encPr (.of k s t [p, q]) := fun s t k p q => e0 s t k [p, q]
  have hps := ixB_row1' psL x.b 3 (by omega) rfl
  have hss := ixB_row1' ssL x.b 2 (by omega) rfl
  simp only [encB, psL, List.map_cons, List.map_nil] at hps
  simp
  refine sIf_dec (fun h0 => ?_) (fun h0 => ?_)
  · subst h0
    simp
    refine scall_flat (sp_wi3 x.b 3 (by omega) (by omega)) (by simp) (by simp [closedL, closedLL]) rfl ?_
    simp [retW_eq, e00, hps, psL]
  · simp
    refine sIf_dec (fun h1 => ?_) (fun h1 => ?_)
    · subst h1
      simp
      refine scall_flat (sp_wi3 x.b 3 (by omega) (by omega)) (by simp) (by simp [closedL, closedLL]) rfl ?_
      simp [retW_eq, e00, hps, psL]
    · simp
      refine sIf_dec (fun h2 => ?_) (fun h2 => ?_)
      · subst h2
        simp
        refine scall_flat (sp_wi3 x.b 3 (by omega) (by omega)) (by simp) (by simp [closedL, closedLL]) rfl ?_
        simp [retW_eq, e00, hps, psL]
      · simp
        refine sIf_dec (fun h3 => ?_) (fun h3 => ?_)
        · subst h3
          simp
          refine scall_flat (sp_wi3 x.b 3 (by omega) (by omega)) (by simp) (by simp [closedL, closedLL]) rfl ?_
          simp [retW_eq, e00, hps, psL]
        · simp
          refine sIf_dec (fun h4 => ?_) (fun h4 => ?_)
          · subst h4
            simp
            refine scall0_pure sp_vrs (by simp) (by simp) ?_
            simp
            refine scall0_pure (sp_one vsL x.e (by simp [vsL])) (by simp) (by simp) ?_
            simp [retW_eq, encPr_mk]
          · simp
            refine sIf_dec (fun h5 => ?_) (fun h5 => ?_)
            · subst h5
              simp [retW_eq, e00, e01, e02, Pr.skip]
            · simp
              refine sIf_dec (fun h6 => ?_) (fun h6 => ?_)
              · subst h6
                simp [retW_eq, e00, e01, e02, Pr.skip]
              · simp
                refine sIf_dec (fun h7 => ?_) (fun h7 => ?_)
                · subst h7
                  simp [retW_eq, e00, e01, e02, Pr.skip]
                · simp
                  refine sIf_dec (fun h8 => ?_) (fun h8 => ?_)
                  · subst h8
                    simp [retW_eq, e00, e01, e02, Pr.skip]
                  · simp
                    refine sIf_dec (fun h9 => ?_) (fun h9 => ?_)
                    · subst h9
                      simp
                      refine scall0_pure sp_stk3 (by simp) (by simp) ?_
                      simp
                      refine scall0_pure (sp_wi3 x.b 2 (by omega) (by omega)) (by simp) (by simp) ?_
                      simp [hss, retW_eq, e00]
                    · simp
                      refine sIf_dec (fun h10 => ?_) (fun h10 => ?_)
                      · subst h10
                        simp [retW_eq, e00, e01, e02, Pr.skip]
                      · simp
                        refine sIf_dec (fun h11 => ?_) (fun h11 => ?_)
                        · subst h11
                          simp [retW_eq, e00, e01, e02, Pr.skip]
                        · simp
                          refine sIf_dec (fun h12 => ?_) (fun h12 => ?_)
                          · subst h12
                            simp
                            refine scall0_pure sp_vrs (by simp) (by simp) ?_
                            simp
                            refine scall0_pure (sp_one vsL x.e (by simp [vsL])) (by simp) (by simp) ?_
                            simp [retW_eq, encPr_mk]
                          · simp
                            refine sIf_dec (fun h13 => ?_) (fun h13 => ?_)
                            · subst h13
                              simp [retW_eq, e00, e01, e02, Pr.skip]
                            · simp
                              refine sIf_dec (fun h14 => ?_) (fun h14 => ?_)
                              · subst h14
                                simp [retW_eq, e00, e01, e02, Pr.skip]
                              · simp
                                refine sIf_dec (fun h15 => ?_) (fun h15 => ?_)
                                · subst h15
                                  simp [retW_eq, e00, e01, e02, Pr.skip]
                                · simp
                                  refine sIf_dec (fun h16 => ?_) (fun h16 => ?_)
                                  · subst h16
                                    simp [retW_eq, e00, e01, e02, Pr.skip]
                                  · simp
                                    refine sIf_dec (fun h17 => ?_) (fun h17 => ?_)
                                    · subst h17
                                      simp [retW_eq, e00, e01, e02, Pr.skip]
                                    · simp [retW_eq, e02]
                                      have cs : w = 18 ∨ w = 19 := by omega
                                      rcases cs with rfl | rfl <;> rfl
termination_by SizeOf.sizeOf x
decreasing_by exact Rw3.lt_of_mem hy
end Go.Proofs.Ytkagfenchknjjaa
set_option linter.unusedVariables false
set_option linter.unusedSimpArgs false
namespace Go.Proofs.Ytkagfenchknjjaa
open Go Go.Am Go.RowKit
attribute [local simp] W45 W45_rs W45_k1 W45_k2 W45_k7 W45_c3 W45_c5 W45_c8 W45_c9 W45_c12 W45_b4 W45_b10 W45_l6 W45_l11

def encSh (v s : Int) (bs : List Rw3) : List AV := [.int .i64 v, .int .i64 s, .sl (bs.map encR3)]
def shV (v : Int) (i : Nat) : ByteArray × Int := (nthB vsL i, within (IntKind.wrap .i64 (v.tdiv (i + 1 : Nat))) 9 - 4)
def shP (bs : List Rw3) (i : Nat) : Dfn := ⟨nthB dsL i, ((bs[i]?).map fun x => x.pr 0).getD .skip⟩
def shProg (v : Int) (bs : List Rw3) : Prog := ⟨(List.range 3).map (shV v), ssL, (List.range 5).map (shP bs)⟩
def shH (v s : Int) (bs : List Rw3) (v1 v2 v3 w w2 i j : Nat) : List (Nat × Blk) :=
  [(1, .box v1 28 (encSh v s bs)), (2, .box v2 69 [.nils, .nils, .nils]), (3, .box v3 69 [rv 28 w ((List.range i).map fun i => encVr (shV v i)), .sl (encB ssL), rv 55 w2 ((List.range j).map fun i => encDf (shP bs i))])]
    ++ (rb 28 w 103 2 ((List.range i).map fun i => encVr (shV v i)) ++ rb 55 w2 75 9 ((List.range j).map fun i => encDf (shP bs i)))
theorem range_ne {α : Type} (f : Nat → α) {i : Nat} (h : i ≠ 0) : (List.range i).map f ≠ [] := by simp [h]
theorem range_succ_map {α : Type} (f : Nat → α) (i : Nat) : (List.range (i + 1)).map f = (List.range i).map f ++ [f i] := by simp [List.range_succ]
theorem encDf_skip (n : ByteArray) : encDf ⟨n, .skip⟩ = [.str n, .int .i64 0, .str ⟨#[]⟩, .str ⟨#[]⟩, .int .i64 0, .int .i64 0, .str ⟨#[]⟩, .sl [], .sl []] := by simp [encDf, Pr.skip, Pr.of, encPr_mk, Ex.zero, encE_mk]
theorem setDf_lit (n : ByteArray) (p : Pr) : setL [.str n, .int .i64 0, .str ⟨#[]⟩, .str ⟨#[]⟩, .int .i64 0, .int .i64 0, .str ⟨#[]⟩, .nils, .nils] 1 (encPr p) = encDf ⟨n, p⟩ := by
  rw [setL_eq _ _ _ (by simp), encDf_eq, encPr_eq]; rfl
end Go.Proofs.Ytkagfenchknjjaa
set_option linter.unusedVariables false
set_option linter.unusedSimpArgs false
namespace Go.Proofs.Ytkagfenchknjjaa
open Go Go.Am Go.RowKit
attribute [local simp] W47 W47_rs W47_k1 W47_k8 W47_c2 W47_c3 W47_c4 W47_c5 W47_c10 W47_c11 W47_c12 W47_c13 W47_c14 W47_c15 W47_c16 W47_b6 W47_b9 W47_b17 W47_l7

/-! Some actions wait. -/
def wsh (bits : Int) (k : Nat) : Int := bits.fdiv (2 ^ min (IntKind.u64.wrap ((k : Int).tmod 20)).toNat IntKind.i64.bits)
theorem wsh_def (bits : Int) (k : Nat) : bits.fdiv (2 ^ min (IntKind.u64.wrap ((k : Int).tmod 20)).toNat IntKind.i64.bits) = wsh bits k := rfl
theorem u64_nn (x : Int) : ¬ IntKind.u64.wrap x < 0 := by rw [IntKind.wrap_u64]; omega
attribute [irreducible] wsh
def wbit (bits : Int) (k : Nat) : Bool := decide (within (wsh bits k) 2 = 1)
mutual
def wtT (bits : Int) : Tm → Nat → Bool → Tm × Nat
  | ⟨kd, a, b, nm, e, l⟩, k, push => if kd = 1 ∧ push = false ∧ wbit bits k = true then (⟨14, k, a, nm, .zero, []⟩, k + 1)
    else (⟨kd, a, b, nm, e, (wtTs bits l (if kd = 1 then k + 1 else k) (push || decide (kd = 3))).1⟩, (wtTs bits l (if kd = 1 then k + 1 else k) (push || decide (kd = 3))).2)
def wtTs (bits : Int) : List Tm → Nat → Bool → List Tm × Nat
  | [], k, _ => ([], k)
  | x :: l, k, p => ((wtT bits x k p).1 :: (wtTs bits l (wtT bits x k p).2 p).1, (wtTs bits l (wtT bits x k p).2 p).2)
end
theorem wtT_eq (bits : Int) (t : Tm) (k : Nat) (push : Bool) : wtT bits t k push = if t.kind = 1 ∧ push = false ∧ wbit bits k = true then (⟨14, k, t.a, t.name, .zero, []⟩, k + 1)
    else (⟨t.kind, t.a, t.b, t.name, t.e, (wtTs bits t.l (if t.kind = 1 then k + 1 else k) (push || decide (t.kind = 3))).1⟩, (wtTs bits t.l (if t.kind = 1 then k + 1 else k) (push || decide (t.kind = 3))).2) := by
  cases t; rfl
mutual
theorem wtT_le (bits : Int) : ∀ (t : Tm) (k : Nat) (p : Bool), k ≤ (wtT bits t k p).2 ∧ (wtT bits t k p).2 ≤ k + t.wt
  | ⟨kd, a, b, nm, e, l⟩, k, p => by
    have := wtTs_le bits l (if kd = 1 then k + 1 else k) (p || decide (kd = 3))
    unfold wtT
    simp only [Tm.wt]
    split
    · simp only; omega
    · simp only
      split at this
      · rw [if_pos (by assumption)]; omega
      · rw [if_neg (by assumption)]; omega
theorem wtTs_le (bits : Int) : ∀ (l : List Tm) (k : Nat) (p : Bool), k ≤ (wtTs bits l k p).2 ∧ (wtTs bits l k p).2 ≤ k + Tm.wts l
  | [], k, p => by simp [wtTs, Tm.wts]
  | x :: l, k, p => by
    have h1 := wtT_le bits x k p
    have h2 := wtTs_le bits l (wtT bits x k p).2 p
    simp only [wtTs, Tm.wts]
    omega
end
theorem wtTs_take (bits : Int) (p : Bool) : ∀ (l : List Tm) (k i : Nat) (h : i < l.length), wtTs bits (l.take (i + 1)) k p = ((wtTs bits (l.take i) k p).1 ++ [(wtT bits l[i] (wtTs bits (l.take i) k p).2 p).1], (wtT bits l[i] (wtTs bits (l.take i) k p).2 p).2)
  | x :: l, k, 0, h => by simp [wtTs]
  | x :: l, k, i + 1, h => by
    simp only [List.take_succ_cons, wtTs, List.getElem_cons_succ]
    rw [wtTs_take bits p l _ i (by simpa using h)]
    simp
theorem wtTs_len (bits : Int) (p : Bool) : ∀ (l : List Tm) (k : Nat), (wtTs bits l k p).1.length = l.length
  | [], k => rfl
  | x :: l, k => by simp [wtTs, wtTs_len bits p l]
theorem wts_take_lt : ∀ (l : List Tm) (i : Nat) (h : i < l.length), Tm.wts (l.take i) + l[i].wt ≤ Tm.wts l
  | x :: l, 0, h => by simp [Tm.wts]
  | x :: l, i + 1, h => by
    have := wts_take_lt l i (by simpa using h)
    simp only [List.take_succ_cons, Tm.wts, List.getElem_cons_succ]
    omega
@[simp] theorem setT8n (t : Tm) (lv : AV) : setL (encT t) 8 [lv] = tmc t false lv := by rw [encT_eq, tmc, eC, encE_eq]; rfl
def wtgH (t : Tm) (v0 v4 v8 v9 w : Nat) (k : Nat) (l : List Tm) : List (Nat × Blk) :=
  [(0, .box v0 3 [.int .i64 k]), (4, .box v4 34 (encT t)), (8, .box v8 34 [.int .i64 0, .int .i64 0, .int .i64 0, .str ⟨#[]⟩, .int .i64 0, .int .i64 0, .str ⟨#[]⟩, .nils, .nils]),
    (9, .box v9 34 (tmc t false (rv 65 w (l.map encT))))] ++ rb 65 w 34 9 (l.map encT)
def wtgT (bits : Int) (v0 v4 v8 v9 : Nat) (push : Bool) (i : Nat) : List (Nat × AV) :=
  [(1, .int .i64 bits), (2, .ref 0 v0 (.p 0)), (3, .bool push), (4, .ref 4 v4 (.p 0)), (8, .ref 8 v8 (.p 0)), (9, .ref 9 v9 (.p 0)), (11, .int .i64 i)]
theorem wtg_loop (t : Tm) (bits : Int) (push : Bool) (k : Nat) (hk : k + Tm.wts t.l ≤ 4611686018427387904) (hw : t.wt ≤ 137438953472) (v0 v4 v8 v9 : Nat)
    (ih : ∀ y ∈ t.l, ∀ (k : Nat) (p : Bool) (v0 : Nat), k + y.wt ≤ 4611686018427387904 → Am.HSpecL Try.prog 47 [.agg (encT y), .int .i64 bits, .ref 0 v0 (.p 0), .bool p] [(0, .box v0 3 [.int .i64 k])]
      fun r l' => r = .agg (encT (wtT bits y k p).1) ∧ l' = [(0, .box v0 3 [.int .i64 (wtT bits y k p).2])])
    (Q : AV → List (Nat × Blk) → Prop) (hQ : Q (.agg (encT ⟨t.kind, t.a, t.b, t.name, t.e, (wtTs bits t.l k (push || decide (t.kind = 3))).1⟩)) [(0, .box v0 3 [.int .i64 (wtTs bits t.l k (push || decide (t.kind = 3))).2])])
    (T : List (Nat × AV)) (HL : List (Nat × Blk)) (VS : Nat → Nat) (hT : Am.subT T (wtgT bits v0 v4 v8 v9 push 0)) (hH : subA HL (wtgH t v0 v4 v8 v9 0 k [])) :
    @sLoop ⟨Am.look T, hls HL VS, noG⟩ ⟨fun L0 s => W47_l7 Try.prog (retHK Try.prog [.cell 8 34] Q) L0 s⟩ := by
  have hlen := Tm.wts_len t.l
  have hwt := t.wt_eq
  generalize hpp : (push || decide (t.kind = 3)) = pp at *
  have hp2 : (push = true ∧ pp = true) ∨ (push = false ∧ decide (t.kind = 3) = pp) := by cases push <;> simp at hpp <;> simp [hpp]
  refine sLoop_intro (fun a : Nat × Nat => a.1 ≤ t.l.length) (fun a => t.l.length - a.1) (fun a => wtgT bits v0 v4 v8 v9 push a.1)
    (fun a => wtgH t v0 v4 v8 v9 a.2 (wtTs bits (t.l.take a.1) k pp).2 (wtTs bits (t.l.take a.1) k pp).1) (0, 0) (by simp) (by simpa using hT) (by simpa [wtTs] using hH) ?_
  clear hT hH
  rintro L ⟨i, w⟩ vt hi hL
  simp only at hi hL ⊢
  by_cases h : i < t.l.length
  · have h' : (i : Int) < t.l.length := by omega
    have ht := wtTs_take bits pp t.l k i h
    have hle := wtTs_le bits (t.l.take i) k pp
    have hwl := wts_take_lt t.l i h
    have hln : (wtTs bits (t.l.take i) k pp).1.length = i := by rw [wtTs_len]; simp; omega
    have hih := ih _ (List.getElem_mem h) (wtTs bits (t.l.take i) k pp).2 pp v0 (by omega)
    have hL3 := fun T H vs w => hL T H vs (i + 1, w) h (by simp; omega)
    simp only [ht] at hL3
    clear hL
    by_cases h0 : i = 0
    · subst h0
      simp [wtTs] at hih hL3
      rcases hp2 with ⟨rfl, rfl⟩ | ⟨rfl, hq⟩
      · simp [wtgT, wtgH, h, wtTs]
        refine scall0_heap [(0, 0)] hih (by simp) (by simp) (by simp) (by simp) (by simp) (by simp) ?_
        simp
        rw [wrap64 (by omega) (by omega)]
        refine hL3 _ _ _ (vt 65 + 1) ?_ ?_
        · simp [wtgT]
        · simp [wtgH, wtTs, rv, rb]
      · simp [wtgT, wtgH, h, wtTs, hq]
        refine scall0_heap [(0, 0)] hih (by simp) (by simp) (by simp) (by simp) (by simp) (by simp) ?_
        simp
        rw [wrap64 (by omega) (by omega)]
        refine hL3 _ _ _ (vt 65 + 1) ?_ ?_
        · simp [wtgT]
        · simp [wtgH, wtTs, rv, rb]
    · have hne : (wtTs bits (t.l.take i) k pp).1.map encT ≠ [] := by
        intro e
        have := congrArg List.length e
        rw [List.length_map, hln, List.length_nil] at this
        omega
      rcases hp2 with ⟨rfl, rfl⟩ | ⟨rfl, hq⟩
      · simp [wtgT, wtgH, h, rv_ne hne, rb_ne hne]
        refine scall0_heap [(0, 0)] hih (by simp) (by simp) (by simp) (by simp) (by simp) (by simp) ?_
        simp [hln]
        rw [decide_eq_true (by omega)]
        simp
        rw [wrap64 (by omega) (by omega)]
        refine hL3 _ _ _ (w + 1) ?_ ?_
        · simp [wtgT]
        · simp [wtgH, wtTs, rv, rb]
      · simp [wtgT, wtgH, h, hq, rv_ne hne, rb_ne hne]
        refine scall0_heap [(0, 0)] hih (by simp) (by simp) (by simp) (by simp) (by simp) (by simp) ?_
        simp [hln]
        rw [decide_eq_true (by omega)]
        simp
        rw [wrap64 (by omega) (by omega)]
        refine hL3 _ _ _ (w + 1) ?_ ?_
        · simp [wtgT]
        · simp [wtgH, wtTs, rv, rb]
  · have e : t.l.take i = t.l := List.take_of_length_le (by omega)
    have hln := wtTs_len bits pp t.l k
    rw [e]
    by_cases h0 : t.l = []
    · rw [h0] at hQ hi ⊢
      simp [wtTs] at hQ
      have hi0 : ¬ (i : Int) < 0 := by omega
      simp [wtgT, wtgH, h, h0, hi0, wtTs]
      refine retHW_fz [(0, .box v0 3 [.int .i64 k])] ?_
      simp [tmc, eC]
      simpa [encT_mk] using hQ
    · have hne : (wtTs bits t.l k pp).1.map encT ≠ [] := by
        intro e
        have := congrArg List.length e
        rw [List.length_map, hln, List.length_nil] at this
        exact h0 (List.eq_nil_of_length_eq_zero this)
      simp [wtgT, wtgH, h, rv_ne hne, rb_ne hne]
      refine retHW_fz [(0, .box v0 3 [.int .i64 (wtTs bits t.l k pp).2])] ?_
      simp [tmc, eC]
      simpa [encT_mk] using hQ
theorem hs_wtg (t : Tm) (bits : Int) (k : Nat) (push : Bool) (v0 : Nat) (hk : k + t.wt ≤ 4611686018427387904) (hw : t.wt ≤ 137438953472) :
    Am.HSpecL Try.prog 47 [.agg (encT t), .int .i64 bits, .ref 0 v0 (.p 0), .bool push] [(0, .box v0 3 [.int .i64 k])]
      fun r l' => r = .agg (encT (wtT bits t k push).1) ∧ l' = [(0, .box v0 3 [.int .i64 (wtT bits t k push).2])] := by
  have ih : ∀ y ∈ t.l, ∀ (k : Nat) (p : Bool) (v0 : Nat), k + y.wt ≤ 4611686018427387904 → Am.HSpecL Try.prog 47 [.agg (encT y), .int .i64 bits, .ref 0 v0 (.p 0), .bool p] [(0, .box v0 3 [.int .i64 k])]
      fun r l' => r = .agg (encT (wtT bits y k p).1) ∧ l' = [(0, .box v0 3 [.int .i64 (wtT bits y k p).2])] :=
    fun y hy k p v0 hk => hs_wtg y bits k p v0 hk (by have := Tm.wts_mem hy; have := t.wt_eq; omega)
  have e0 := t.wt_eq
  have e1 := Ex.wt_pos t.e
  rw [wtT_eq]
  have hw1 : (k : Int) + t.wt ≤ 4611686018427387904 := by omega
  have hw1 : t.kind = 1 → IntKind.wrap .i64 ((k : Int) + 1) = k + 1 := fun _ => wrap64 (x := (k : Int) + 1) (by omega) (by omega)
  by_cases k1 : t.kind = 1
  · have hw1 := hw1 k1
    cases push
    · by_cases hb : within (wsh bits k) 2 = 1
      · have hwb : wbit bits k = true := by simp [wbit, hb]
        refine Am.HSpecL.of_W (W := W47) Try.func47 (by kernel_rfl) (by kernel_rfl) (by kernel_rfl) Try.ntmps47 W47_eq (rs := [.cell 8 34]) (by kernel_rfl) (by simp) ?_
        intro vs
        simp [k1, hw1]
        rw [if_neg (u64_nn _), wsh_def]
        simp
        refine scall_pure (sp_wi5 (wsh bits k) 2 (by omega) (by omega)) (by simp) (by simp) ?_
        simp [hb]
        refine retHW_fz [(0, .box v0 3 [.int .i64 (k + 1)])] ?_
        simp [encT_mk, Ex.zero, encE_mk, k1, hwb]
      · have hwb : wbit bits k = false := by simp [wbit, hb]
        refine Am.HSpecL.of_W (W := W47) Try.func47 (by kernel_rfl) (by kernel_rfl) (by kernel_rfl) Try.ntmps47 W47_eq (rs := [.cell 8 34]) (by kernel_rfl) (by simp) ?_
        intro vs
        simp [k1, hw1]
        rw [if_neg (u64_nn _), wsh_def]
        simp
        refine scall_pure (sp_wi5 (wsh bits k) 2 (by omega) (by omega)) (by simp) (by simp) ?_
        simp [-W47_l7, hb]
        refine wtg_loop t bits false (k + 1) (by omega) hw v0 (vs 4 + 1) (vs 8 + 1) (vs 9 + 1) ih _ ?_ _ _ _ ?_ ?_
        · simp [k1, hwb]
        · simp [wtgT]
        · simp [wtgH]
    · refine Am.HSpecL.of_W (W := W47) Try.func47 (by kernel_rfl) (by kernel_rfl) (by kernel_rfl) Try.ntmps47 W47_eq (rs := [.cell 8 34]) (by kernel_rfl) (by simp) ?_
      intro vs
      simp [-W47_l7, k1, hw1]
      refine wtg_loop t bits true (k + 1) (by omega) hw v0 (vs 4 + 1) (vs 8 + 1) (vs 9 + 1) ih _ ?_ _ _ _ ?_ ?_
      · simp [k1]
      · simp [wtgT]
      · simp [wtgH]
  · refine Am.HSpecL.of_W (W := W47) Try.func47 (by kernel_rfl) (by kernel_rfl) (by kernel_rfl) Try.ntmps47 W47_eq (rs := [.cell 8 34]) (by kernel_rfl) (by simp) ?_
    intro vs
    simp [-W47_l7, k1]
    refine wtg_loop t bits push k (by omega) hw v0 (vs 4 + 1) (vs 8 + 1) (vs 9 + 1) ih _ ?_ _ _ _ ?_ ?_
    · simp [k1]
    · simp [wtgT]
    · simp [wtgH]
termination_by SizeOf.sizeOf t
decreasing_by exact Tm.lt_of_mem hy
end Go.Proofs.Ytkagfenchknjjaa
set_option linter.unusedVariables false
set_option linter.unusedSimpArgs false
namespace Go.Proofs.Ytkagfenchknjjaa
open Go Go.Am Go.RowKit
attribute [local simp] W45 W45_rs W45_k1 W45_k2 W45_k7 W45_c3 W45_c5 W45_c8 W45_c9 W45_c12 W45_b4 W45_b10 W45_l6 W45_l11

def encShT (v s : Int) (bs : List Rw3) : List AV := [.int .i64 v, .int .i64 s, .slt (bs.map encR3)]
def shHT (v s : Int) (bs : List Rw3) (v1 v2 v3 w w2 i j : Nat) : List (Nat × Blk) :=
  [(1, .box v1 28 (encShT v s bs)), (2, .box v2 69 [.nils, .nils, .nils]), (3, .box v3 69 [rv 28 w ((List.range i).map fun i => encVr (shV v i)), .sl (encB ssL), rv 55 w2 ((List.range j).map fun i => encDf (shP bs i))])]
    ++ (rb 28 w 103 2 ((List.range i).map fun i => encVr (shV v i)) ++ rb 55 w2 75 9 ((List.range j).map fun i => encDf (shP bs i)))
theorem shm_walkT (v s : Int) (bs : List Rw3) (Φ : Exit → St → Prop) (vs : Nat → Nat)
    (hk : ∀ vt w w2, W45_k1 Try.prog Φ ⟨Am.look (Am.insT (Am.insT [(1, .ref 1 (vs 1 + 1) (.p 0)), (2, .ref 2 (vs 2 + 1) (.p 0)), (3, .ref 3 (vs 3 + 1) (.p 0)), (5, .int .i64 5)] 30 (.int .i64 5)) 31 (.bool false)),
      hls (shHT v s bs (vs 1 + 1) (vs 2 + 1) (vs 3 + 1) w w2 3 5) vt, noG⟩) : W45 Try.prog Φ ⟨Am.look [(0, .agg (encShT v s bs))], hls [] vs, noG⟩ := by
  simp [encShT]
  refine scall_pure sp_stk3 (by simp) (by simp) ?_
  simp
  refine sLoop_intro (fun a : Nat × Nat => a.1 ≤ 3) (fun a => 3 - a.1) (fun a => [(1, .ref 1 (vs 1 + 1) (.p 0)), (2, .ref 2 (vs 2 + 1) (.p 0)), (3, .ref 3 (vs 3 + 1) (.p 0)), (4, .int .i64 (a.1 : Nat))])
    (fun a => shHT v s bs (vs 1 + 1) (vs 2 + 1) (vs 3 + 1) a.2 0 a.1 0) (0, 0) (by simp) (by simp) (by simp [shHT, encShT]) ?_
  rintro L ⟨i, w⟩ vt hi hL
  simp only at hi hL ⊢
  by_cases h : i < 3
  · have h' : (i : Int) < 3 := by omega
    have hq := range_succ_map (fun i => encVr (shV v i)) i
    have hsv : encVr (shV v i) = [.str (nthB vsL i), .int .i64 (within (IntKind.wrap .i64 (v.tdiv (i + 1 : Nat))) 9 - 4)] := rfl
    have hget : (encB vsL)[i]? = some [.str (nthB vsL i)] := by rw [encB_get vsL i (by simp [vsL]; omega)]; simp [nthB]
    have hw1 := within_ge (IntKind.wrap .i64 (v.tdiv (i + 1 : Nat))) 9 (by omega)
    have hw2 := within_lt (IntKind.wrap .i64 (v.tdiv (i + 1 : Nat))) 9 (by omega)
    have hcall := sp_wi3 (IntKind.wrap .i64 (v.tdiv (i + 1 : Nat))) 9 (by omega) (by omega)
    generalize hg : within (IntKind.wrap .i64 (v.tdiv (i + 1 : Nat))) 9 = g at *
    rw [show ((i + 1 : Nat) : Int) = (i : Int) + 1 by omega] at hcall
    have hz : ¬ (i : Int) + 1 = 0 := by omega
    by_cases h0 : i = 0
    · subst h0
      simp [shHT, encShT]
      refine scall0_pure sp_vrs (by simp) (by simp) ?_
      simp at hget hcall
      simp [hget]
      rw [wrap64 (x := 1) (by omega) (by omega)]
      simp
      refine scall0_pure hcall (by simp) (by simp) ?_
      simp
      rw [wrap64 (x := g - 4) (by omega) (by omega)]
      refine hL _ _ _ (1, vt 28 + 1) (by simp) (by simp) (by simp; exact wrap64 (by omega) (by omega)) ?_
      show subA _ (shHT v s bs _ _ _ _ _ (0 + 1) _); unfold shHT; rw [hq, hsv]; simp [encShT, rb, rv]
    · have hne := range_ne (fun i => encVr (shV v i)) h0
      simp [shHT, encShT, h', rv_ne hne, rb_ne hne]
      refine scall0_pure sp_vrs (by simp) (by simp) ?_
      simp [hget]
      rw [wrap64 (x := (i : Int) + 1) (by omega) (by omega)]
      simp [hz]
      refine scall0_pure hcall (by simp) (by simp) ?_
      simp
      rw [wrap64 (x := g - 4) (by omega) (by omega)]
      rw [decide_eq_true (by omega)]
      simp
      rw [wrap64 (x := (i : Int) + 1) (by omega) (by omega)]
      refine hL _ _ _ (i + 1, w + 1) (by simp; omega) (by simp; omega) (by simp) ?_
      show subA _ (shHT v s bs _ _ _ _ _ (i + 1) _); unfold shHT; rw [hq, hsv]; simp [encShT, rb, rv]
  · have e : i = 3 := by omega
    subst e
    have hne := range_ne (fun i => encVr (shV v i)) (i := 3) (by omega)
    simp [-W45_l6, shHT, encShT, rv_ne hne, rb_ne hne]
    refine sLoop_intro (fun a : Nat × Nat => a.1 ≤ 5) (fun a => 5 - a.1) (fun a => [(1, .ref 1 (vs 1 + 1) (.p 0)), (2, .ref 2 (vs 2 + 1) (.p 0)), (3, .ref 3 (vs 3 + 1) (.p 0)), (5, .int .i64 (a.1 : Nat))])
      (fun a => shHT v s bs (vs 1 + 1) (vs 2 + 1) (vs 3 + 1) w a.2 3 a.1) (0, 0) (by simp) (by simp) (by simp [shHT, encShT, rv_ne hne, rb_ne hne]) ?_
    clear hL h hi
    rintro L ⟨i, w2⟩ vt hi hL
    simp only at hi hL ⊢
    by_cases h : i < 5
    · have h' : (i : Int) < 5 := by omega
      have hq := range_succ_map (fun i => encDf (shP bs i)) i
      have hget : (encB dsL)[i]? = some [.str (nthB dsL i)] := by rw [encB_get dsL i (by simp [dsL]; omega)]; simp [nthB]
      have hgt0 : (encB dsL)[0]? = some [.str (nthB dsL 0)] := by rw [encB_get dsL 0 (by simp [dsL])]; simp [nthB]
      by_cases hb : i < bs.length
      · have hb' : (i : Int) < bs.length := by omega
        have hsp : shP bs i = ⟨nthB dsL i, bs[i].pr 0⟩ := by simp [shP, hb]
        have hcall : Am.Spec Try.prog 69 [.agg (encR3 bs[i]), .int .i64 0] (.agg (encPr (bs[i].pr 0))) := by simpa using sp_mk3 bs[i] 0 (by omega)
        by_cases h0 : i = 0
        · subst h0
          simp [shHT, encShT, rv_ne hne, rb_ne hne]
          refine scall_pure sp_dfs (by simp) (by simp) ?_
          simp [hgt0, hb]
          refine scall_pure hcall (by simp) (by simp) ?_
          simp [setDf_lit]
          refine hL _ _ _ (1, vt 55 + 1) (by simp) (by simp) (by simp; exact wrap64 (by omega) (by omega)) ?_
          show subA _ (shHT v s bs _ _ _ _ _ 3 (0 + 1)); unfold shHT; rw [hq, hsp]; simp [encShT, rv, rb, encDf]
        · have hne2 := range_ne (fun i => encDf (shP bs i)) h0
          simp [shHT, encShT, h', rv_ne hne, rb_ne hne, rv_ne hne2, rb_ne hne2]
          refine scall_pure sp_dfs (by simp) (by simp) ?_
          simp [hget, hb, hb']
          refine scall_pure hcall (by simp) (by simp) ?_
          simp [setDf_lit]
          rw [decide_eq_true (by omega)]
          simp
          rw [wrap64 (x := (i : Int) + 1) (by omega) (by omega)]
          refine hL _ _ _ (i + 1, w2 + 1) (by simp; omega) (by simp; omega) (by simp) ?_
          show subA _ (shHT v s bs _ _ _ _ _ 3 (i + 1)); unfold shHT; rw [hq, hsp]; simp [encShT, rv, rb, encDf]
      · have hb' : ¬ (i : Int) < bs.length := by omega
        have hsp : shP bs i = ⟨nthB dsL i, .skip⟩ := by simp [shP, List.getElem?_eq_none (show bs.length ≤ i by omega)]
        by_cases h0 : i = 0
        · subst h0
          simp [shHT, encShT, rv_ne hne, rb_ne hne]
          refine scall_pure sp_dfs (by simp) (by simp) ?_
          simp [hgt0, hb]
          refine hL _ _ _ (1, vt 55 + 1) (by simp) (by simp) (by simp; exact wrap64 (by omega) (by omega)) ?_
          show subA _ (shHT v s bs _ _ _ _ _ 3 (0 + 1)); unfold shHT; rw [hq, hsp]; simp [encShT, rv, rb, encDf_skip]
        · have hne2 := range_ne (fun i => encDf (shP bs i)) h0
          simp [shHT, encShT, h', rv_ne hne, rb_ne hne, rv_ne hne2, rb_ne hne2]
          refine scall_pure sp_dfs (by simp) (by simp) ?_
          simp [hget, hb, hb']
          rw [decide_eq_true (by omega)]
          simp
          rw [wrap64 (x := (i : Int) + 1) (by omega) (by omega)]
          refine hL _ _ _ (i + 1, w2 + 1) (by simp; omega) (by simp; omega) (by simp) ?_
          show subA _ (shHT v s bs _ _ _ _ _ 3 (i + 1)); unfold shHT; rw [hq, hsp]; simp [encShT, rv, rb, encDf_skip]
    · have e : i = 5 := by omega
      subst e
      simp [-W45_k1]
      exact hk _ _ _
theorem hs_shmT (v s : Int) (bs : List Rw3) : Am.HSpecL Try.prog 45 [.agg (encShT v s bs)] [] fun r l' => ∃ w w2, r = .agg [.ref 28 w .o, .sl (encB ssL), .ref 55 w2 .o] ∧
    l' = [(28, .row w 103 2 ((shProg v bs).vars.map encVr)), (55, .row w2 75 9 ((shProg v bs).procs.map encDf))] := by
  have hne := range_ne (fun i => encVr (shV v i)) (i := 3) (by omega)
  have hne2 := range_ne (fun i => encDf (shP bs i)) (i := 5) (by omega)
  refine Am.HSpecL.of_W (W := W45) Try.func45 (by kernel_rfl) (by kernel_rfl) (by kernel_rfl) Try.ntmps45 W45_eq (rs := [.cell 2 69]) (by kernel_rfl) (by simp) ?_
  intro vs
  refine shm_walkT v s bs _ vs (fun vt w w2 => ?_)
  simp [shHT, encShT, rv_ne hne, rb_ne hne, rv_ne hne2, rb_ne hne2]
  refine retHW_to [(28, .row w 103 2 ((shProg v bs).vars.map encVr)), (55, .row w2 75 9 ((shProg v bs).procs.map encDf))] ?_
  simp [shProg]
end Go.Proofs.Ytkagfenchknjjaa
set_option linter.unusedVariables false
set_option linter.unusedSimpArgs false
namespace Go.Am
open Go.RowKit
/-! Nil rows in rows of a struct are told as empty ones. -/
def lo0 : AV → AV
  | .nils => .sl []
  | a => a
def loR : AV → AV
  | .sl rows => .sl (rows.map fun r => r.map lo0)
  | a => a
def loA : AV → AV
  | .agg cs => .agg (cs.map loR)
  | a => a
theorem R.lo0 {C : Ctx} {a : AV} {v : Value} (h : R C a v) : R C (Am.lo0 a) v := by
  cases h with
  | nils => exact .sl [] none 0 0 0 0 (fun _ _ => .int .i64 0) (fun h => absurd rfl h) (Nat.le_refl _) (Nat.zero_le _) (fun r hr => by simp at hr) (fun i hi => by simp at hi) (fun _ _ => rfl) (fun i r hr => by simp at hr)
  | any v => exact .any v
  | int k n => exact .int k n
  | bool b => exact .bool b
  | str s hs => exact .str s hs
  | agg cs vs hl h => exact .agg cs vs hl h
  | tup cs vs hl h => exact .tup cs vs hl h
  | sl rows A cap g off sz f hA hcap hmax hsz hc hone h => exact .sl rows A cap g off sz f hA hcap hmax hsz hc hone h
  | slt rows g off sz f hA hmax hsz hc hone h => exact .slt rows g off sz f hA hmax hsz hc hone h
  | elt row off g o f hA hc hone h => exact .elt row off g o f hA hc hone h
  | ref key ver r blk v hb hv hone hr => exact .ref key ver r blk v hb hv hone hr
  | func f cs vs hl h => exact .func f cs vs hl h
  | nilf => exact .nilf
  | nilp => exact .nilp
  | yld => exact .yld
theorem R.loR {C : Ctx} {a : AV} {v : Value} (h : R C a v) : R C (Am.loR a) v := by
  unfold Am.loR
  split
  · rename_i rows
    cases h with
    | sl rows A cap g off sz f hA hcap hmax hsz hc hone h =>
      rw [show rows.length = (rows.map fun r => r.map Am.lo0).length by simp] at hc hmax hcap ⊢
      refine .sl _ A cap g off sz f (fun hn => hA fun e => hn (by simp [e])) hcap hmax (fun r hr => ?_) hc hone fun i r hr j a ha => ?_
      · obtain ⟨q, hq, rfl⟩ := List.mem_map.1 hr
        simpa using hsz q hq
      · rw [List.getElem?_map] at hr
        obtain ⟨q, hq, rfl⟩ := Option.map_eq_some_iff.1 hr
        rw [List.getElem?_map] at ha
        obtain ⟨b, hb, rfl⟩ := Option.map_eq_some_iff.1 ha
        exact (h i q hq j b hb).lo0
  · exact h
theorem R.loA {C : Ctx} {a : AV} {v : Value} (h : R C a v) : R C (Am.loA a) v := by
  unfold Am.loA
  split
  · cases h with
    | agg cs vs hl h =>
      refine .agg _ vs (by simpa using hl) fun i a ha => ?_
      rw [List.getElem?_map] at ha
      obtain ⟨b, hb, rfl⟩ := Option.map_eq_some_iff.1 ha
      exact (h i b hb).loR
  · exact h
theorem RL_lo {C : Ctx} {xs : List AV} {vs : List Value} (h : RL C xs vs) : RL C (xs.map Am.loA) vs := by
  refine ⟨by simpa using h.1, fun i a ha => ?_⟩
  rw [List.getElem?_map] at ha
  obtain ⟨b, hb, rfl⟩ := Option.map_eq_some_iff.1 ha
  exact (h.2 i b hb).loA
theorem Spec.lo {P : Program} {f : FuncId} {args : List AV} {r : AV} (h : Spec P f (args.map Am.loA) r) : Spec P f args r :=
  ⟨h.enters, fun w S l vs hS hR => h.calls w S l vs hS (RL_lo hR)⟩
@[simp] theorem lo0_Df (d : Dfn) : (encDf d).map lo0 = encDf d := by rw [encDf_eq]; rfl
@[simp] theorem lo0_Pr (d : Pr) : (encPr d).map lo0 = encPr d := by rw [encPr_eq]; rfl
@[simp] theorem lo0_Vr (d : ByteArray × Int) : (encVr d).map lo0 = encVr d := rfl
end Go.Am
namespace Go.Proofs.Ytkagfenchknjjaa
open Go Go.Am Go.RowKit
attribute [local simp] W46 W46_rs W46_b1 W46_b2 W46_c3 W23 W23_rs W23_b1 W23_b3 W23_b6 W23_c2 W23_c4 W23_c8 W23_k5 W23_l7

/-- What Lower asks of a program. -/
structure okP (p : Prog) : Prop where
  hv : p.vars.length ≤ 20
  hv0 : p.vars ≠ []
  hs : p.stacks.length ≤ 10
  hn : p.procs.length = 5
  hok : ∀ d ∈ p.procs, d.body.okS = true ∧ d.body.wt ≤ 137438953472
  t1 : twB p.V = false
  t2 : twB p.stacks = false
  t3 : twB p.D = false
  hb : ∀ d ∈ p.procs, badP p.V p.stacks p.D d.body = false
  hm : idxB p.D ⟨#[109, 97, 105, 110]⟩ = 0
def Tmz : Tm := ⟨0, 0, 0, ⟨#[]⟩, .zero, []⟩
def re4T (p : Prog) : Tm := if p.round then Tmz else ((ppr p)[0]?).getD Tmz
theorem sp_re4 (p : Prog) (h : okP p) : Am.Spec Try.prog 46 [.agg (encProg p)] (.tup [.agg (encT (re4T p)), .bool (!p.round)]) := by
  have hn := h.hn
  have hl := sp_low p h.hv h.hv0 h.hs h.hn h.hok h.t1 h.t2 h.t3 h.hb h.hm
  have h0 : 0 < (ppr p).length := by simp [ppr, hn]
  have hp : p.core.procs = ppr p := rfl
  cases hr : p.round
  · simp only [hr, Bool.false_eq_true, if_false] at hl
    refine Am.Spec.of_W (W := W46) Try.func46 (by kernel_rfl) (by kernel_rfl) (by kernel_rfl) Try.ntmps46 W46_eq (rs := [.cell 2 34, .tmp 3]) (by kernel_rfl) (by simp) ?_
    intro vs
    simp [encProg]
    refine scall_pure hl (by simp [encProg]) (by simp [encProg]) ?_
    simp [encC, hp, h0, re4T, hr, retW_eq]
  · simp only [hr, if_true] at hl
    refine Am.Spec.of_W (W := W46) Try.func46 (by kernel_rfl) (by kernel_rfl) (by kernel_rfl) Try.ntmps46 W46_eq (rs := [.cell 2 34, .tmp 3]) (by kernel_rfl) (by simp) ?_
    intro vs
    simp [encProg]
    refine scall_pure hl (by simp [encProg]) (by simp [encProg]) ?_
    simp [encC, hp, h0, re4T, hr, retW_eq, Cor.zero, Tmz, Ex.zero, encT_mk, encE_mk]
def payP : Pr := .of 1 ⟨#[112, 97, 121]⟩ ⟨#[]⟩ []
def payC : List AV := [.int .i64 1, .str ⟨#[112, 97, 121]⟩, .str ⟨#[]⟩, .int .i64 0, .int .i64 0, .str ⟨#[]⟩, .nils, .nils]
def mkProg (r : Rw3) : Prog := ⟨(List.range 3).map (shV 0), ssL, [⟨nthB dsL 0, r.pr 0⟩, ⟨nthB dsL 1, payP⟩, ⟨nthB dsL 2, payP⟩, ⟨nthB dsL 3, payP⟩, ⟨nthB dsL 4, payP⟩]⟩
def askT : Tm := ⟨1, -1, 0, ⟨#[97, 115, 107]⟩, .zero, []⟩
def mkT (r : Rw3) (waits : Int) : Tm := if (mkProg r).round then askT else (wtT waits (re4T (mkProg r)) 0 false).1
def mkR (r : Rw3) (i : Nat) : List (List AV) := [encDf ⟨nthB dsL 0, r.pr 0⟩, if 1 < i then .str (nthB dsL 1) :: payC else encDf ⟨nthB dsL 1, .skip⟩, if 2 < i then .str (nthB dsL 2) :: payC else encDf ⟨nthB dsL 2, .skip⟩,
  if 3 < i then .str (nthB dsL 3) :: payC else encDf ⟨nthB dsL 3, .skip⟩, if 4 < i then .str (nthB dsL 4) :: payC else encDf ⟨nthB dsL 4, .skip⟩]
theorem setDf_pay (n : ByteArray) (p : Pr) (cs : List AV) (h : cs.length = 8) : setL (encDf ⟨n, p⟩) 1 cs = .str n :: cs := by
  rw [setL_eq _ _ _ (by simp [h]), encDf_eq, List.drop_eq_nil_of_le (by simp [h])]; simp
@[simp] theorem payC_closed : closedL payC = true := rfl
theorem mkR_closed (r : Rw3) (i : Nat) : closedLL (mkR r i) = true := by
  unfold mkR
  repeat' split
  all_goals simp [closedLL, closed, closedL]
theorem sp_mk5 (r : Rw3) (waits : Int) (h : okP (mkProg r)) (hw : (re4T (mkProg r)).wt ≤ 137438953472) : Am.Spec Try.prog 23 [.agg (encR3 r), .int .i64 waits] (.agg (encT (mkT r waits))) := by
  have hp1 : (shProg 0 [r]).procs.map encDf = mkR r 1 := by simp [shProg, mkR, shP, List.range_succ]
  have hwt := hs_wtg (re4T (mkProg r)) waits 0 false
  have hre0 : Am.Spec Try.prog 46 [.agg [.sl ((mkProg r).vars.map encVr), .sl (encB ssL), .sl (mkR r 5)]] (.tup [.agg (encT (re4T (mkProg r))), .bool (!(mkProg r).round)]) := by
    refine Spec.lo ?_
    have := sp_re4 (mkProg r) h
    rw [show [AV.agg (encProg (mkProg r))] = [AV.agg [.sl ((mkProg r).vars.map encVr), .sl (encB ssL), .sl (mkR r 5)]].map loA from ?_] at this
    · exact this
    · simp [loA, loR, encProg, mkProg, mkR, lo0, payC, encDf, payP, Pr.of, encPr_mk, Ex.zero, encE_mk, encB]
  have hre := hre0
  have hcl := fun σ => renLL_closed σ (mkR_closed r 1)
  rcases hrd : (mkProg r).round with _ | _
  · simp only [hrd] at hre
    refine Am.Spec.of_W (W := W23) Try.func23 (by kernel_rfl) (by kernel_rfl) (by kernel_rfl) Try.ntmps23 W23_eq (rs := [.cell 4 34]) (by kernel_rfl) (by simp) ?_
    intro vs
    simp
    refine scall_heap [] [(28, 28), (55, 55)] (hs_shmT 0 0 [r]) (by simp [encShT]) (by simp) (by simp) ?_
    rintro q l' VS' ⟨w, w2, hq, hl'⟩
    rw [hq, hl', hp1]
    refine ⟨by simp [mkR], ?_⟩
    simp [hcl]
    refine sLoop_intro (fun i => 1 ≤ i ∧ i ≤ 5) (fun i => 5 - i) (fun i => [(1, .int .i64 waits), (4, .ref 4 (vs 4 + 1) (.p 0)), (5, .ref 5 (VS' 5 + 1) (.p 0)), (6, .int .i64 (i : Nat))])
      (fun i => [(4, .box (vs 4 + 1) 34 [.int .i64 0, .int .i64 0, .int .i64 0, .str ⟨#[]⟩, .int .i64 0, .int .i64 0, .str ⟨#[]⟩, .nils, .nils]), (28, .row w 103 2 ((shProg 0 [r]).vars.map encVr)),
        (55, .row w2 75 9 (mkR r i)), (5, .box (VS' 5 + 1) 69 [.ref 28 w .o, .sl (encB ssL), .ref 55 w2 .o])]) 1 (by simp) (by simp) (by simp) ?_
    rintro L i vt ⟨hi1, hi5⟩ hL
    have cs : i = 1 ∨ i = 2 ∨ i = 3 ∨ i = 4 ∨ i = 5 := by omega
    rcases cs with rfl | rfl | rfl | rfl | rfl
    · simp [mkR, setDf_pay]
      rw [wrap64 (by omega) (by omega)]
      refine hL _ _ _ 2 (by omega) (by omega) (by simp) (by simp [mkR, payC])
    · simp [mkR, setDf_pay]
      rw [wrap64 (by omega) (by omega)]
      refine hL _ _ _ 3 (by omega) (by omega) (by simp) (by simp [mkR, payC])
    · simp [mkR, setDf_pay]
      rw [wrap64 (by omega) (by omega)]
      refine hL _ _ _ 4 (by omega) (by omega) (by simp) (by simp [mkR, payC])
    · simp [mkR, setDf_pay]
      rw [wrap64 (by omega) (by omega)]
      refine hL _ _ _ 5 (by omega) (by omega) (by simp) (by simp [mkR, payC])
    · simp [mkR]
      refine scall_pure hre (by simp [mkR, mkProg, shProg]) (by simp [mkR_closed]) ?_
      simp
      refine scall_heap [(9, 0)] [] (hwt (vt 9 + 1) (by omega) hw) (by simp) (by simp) (by simp) ?_
      rintro q l' VS' ⟨hq, hl'⟩
      rw [hq, hl']
      refine ⟨by simp, ?_⟩
      simp [retW_eq, mkT, hrd]
  · simp only [hrd] at hre
    refine Am.Spec.of_W (W := W23) Try.func23 (by kernel_rfl) (by kernel_rfl) (by kernel_rfl) Try.ntmps23 W23_eq (rs := [.cell 4 34]) (by kernel_rfl) (by simp) ?_
    intro vs
    simp
    refine scall_heap [] [(28, 28), (55, 55)] (hs_shmT 0 0 [r]) (by simp [encShT]) (by simp) (by simp) ?_
    rintro q l' VS' ⟨w, w2, hq, hl'⟩
    rw [hq, hl', hp1]
    refine ⟨by simp [mkR], ?_⟩
    simp [hcl]
    refine sLoop_intro (fun i => 1 ≤ i ∧ i ≤ 5) (fun i => 5 - i) (fun i => [(1, .int .i64 waits), (4, .ref 4 (vs 4 + 1) (.p 0)), (5, .ref 5 (VS' 5 + 1) (.p 0)), (6, .int .i64 (i : Nat))])
      (fun i => [(4, .box (vs 4 + 1) 34 [.int .i64 0, .int .i64 0, .int .i64 0, .str ⟨#[]⟩, .int .i64 0, .int .i64 0, .str ⟨#[]⟩, .nils, .nils]), (28, .row w 103 2 ((shProg 0 [r]).vars.map encVr)),
        (55, .row w2 75 9 (mkR r i)), (5, .box (VS' 5 + 1) 69 [.ref 28 w .o, .sl (encB ssL), .ref 55 w2 .o])]) 1 (by simp) (by simp) (by simp) ?_
    rintro L i vt ⟨hi1, hi5⟩ hL
    have cs : i = 1 ∨ i = 2 ∨ i = 3 ∨ i = 4 ∨ i = 5 := by omega
    rcases cs with rfl | rfl | rfl | rfl | rfl
    · simp [mkR, setDf_pay]
      rw [wrap64 (by omega) (by omega)]
      refine hL _ _ _ 2 (by omega) (by omega) (by simp) (by simp [mkR, payC])
    · simp [mkR, setDf_pay]
      rw [wrap64 (by omega) (by omega)]
      refine hL _ _ _ 3 (by omega) (by omega) (by simp) (by simp [mkR, payC])
    · simp [mkR, setDf_pay]
      rw [wrap64 (by omega) (by omega)]
      refine hL _ _ _ 4 (by omega) (by omega) (by simp) (by simp [mkR, payC])
    · simp [mkR, setDf_pay]
      rw [wrap64 (by omega) (by omega)]
      refine hL _ _ _ 5 (by omega) (by omega) (by simp) (by simp [mkR, payC])
    · simp [mkR]
      refine scall_pure hre (by simp [mkR, mkProg, shProg]) (by simp [mkR_closed]) ?_
      simp
      simp [retW_eq, mkT, hrd, askT, Ex.zero, encT_mk, encE_mk]
end Go.Proofs.Ytkagfenchknjjaa
set_option linter.unusedVariables false
set_option linter.unusedSimpArgs false
namespace Go.Proofs.Ytkagfenchknjjaa
open Go Go.Am Go.RowKit

/-! What is made of a raw one may be lowered. -/
theorem nthB_known (l : List ByteArray) (a n : Int) (hn : 0 < n) (h : n = l.length) : ¬ idxB l (nthB l (within a n)) < 0 := by
  have h0 := within_ge a n hn
  have h1 := within_lt a n hn
  have : 0 ≤ idxB l (nthB l (within a n)) := by
    rw [idxB_mem]
    unfold nthB
    rw [List.getD_eq_getElem?_getD, List.getElem?_eq_getElem (by omega)]
    exact List.getElem_mem _
  omega
theorem badE_vs (x : Rw2) : badE vsL (x.ex vsL) = false := by
  have ih : ∀ y ∈ x.l, badE vsL (y.ex vsL) = false := fun y hy => badE_vs y
  have hp : ∀ i, badE vsL (x.part vsL i) = false := fun i => by
    unfold Rw2.part
    rcases Rw2.nodess_get x.l i with ⟨y, h1, h2⟩ | h1
    · rw [h1]; exact ih y h2
    · rw [h1]; simp [leafE, badE, badEs]
  have w0 := within_ge x.k 24 (by omega)
  have hk := nthB_known vsL x.n vsL.length (by simp [vsL]) rfl
  rw [x.ex_eq]
  split
  · simp [badE, badEs]
  · split
    · rw [if_pos (by simp [vsL])]
      simp only [badE, badEs, decide_eq_false hk]
      simp
    · split
      · simp [badE, badEs, hp]
      · split
        · simp [badE, badEs, hp]
        · have : ¬ within x.k 24 - 6 = 2 := by omega
          simp [badE, badEs, hp, this]
termination_by SizeOf.sizeOf x
decreasing_by exact Rw2.lt_of_mem hy
theorem badE_one (l : List Rw2) : badE vsL (oneE vsL l) = false := by
  cases l with
  | nil => simp [oneE, badE, badEs]
  | cons x l => exact badE_vs x
theorem badP_ite {V S D : List ByteArray} {c : Prop} [Decidable c] {x y : Pr} (h1 : badP V S D x = false) (h2 : badP V S D y = false) : badP V S D (if c then x else y) = false := by split <;> assumption
theorem okS_ite {c : Prop} [Decidable c] {x y : Pr} (h1 : x.okS = true) (h2 : y.okS = true) : (if c then x else y).okS = true := by split <;> assumption
theorem badP_prOf (k a b : Int) (e : List Rw2) (p q : Pr) (hp : badP vsL ssL dsL p = false) (hq : badP vsL ssL dsL q = false) : badP vsL ssL dsL (prOf k a b e p q) = false := by
  have h1 := nthB_known vsL a 3 (by omega) rfl
  have h2 := nthB_known ssL a 2 (by omega) rfl
  have h3 := nthB_known ssL b 2 (by omega) rfl
  have h4 := nthB_known dsL a 5 (by omega) rfl
  have h5 := badE_one e
  unfold prOf
  repeat' apply badP_ite
  all_goals simp [badP, badP0, badPs, Pr.of, Pr.skip, hp, hq, h1, h2, h3, h4, h5]
theorem okS_prOf (k a b : Int) (e : List Rw2) (p q : Pr) (hp : p.okS = true) (hq : q.okS = true) : (prOf k a b e p q).okS = true := by
  unfold prOf
  repeat' apply okS_ite
  all_goals simp [Pr.okS, Pr.okSs, Pr.of, Pr.skip, hp, hq]
theorem skip_ok : badP vsL ssL dsL .skip = false ∧ Pr.skip.okS = true := by
  constructor
  · simp [Pr.skip, Pr.of, badP, badP0, badPs]
  · simp [Pr.skip, Pr.of, Pr.okS, Pr.okSs]
theorem pr_ok (x : Rw3) (d : Nat) : badP vsL ssL dsL (x.pr d) = false ∧ (x.pr d).okS = true := by
  have ih : ∀ y ∈ x.l, ∀ d, badP vsL ssL dsL (y.pr d) = false ∧ (y.pr d).okS = true := fun y hy d => pr_ok y d
  have hp : ∀ i, badP vsL ssL dsL (x.part i d) = false ∧ (x.part i d).okS = true := fun i => by
    unfold Rw3.part
    split
    · cases h : x.l[i]? with
      | none => exact skip_ok
      | some y => exact ih y (List.mem_of_getElem? h) _
    · exact skip_ok
  rw [x.pr_eq]
  exact ⟨badP_prOf _ _ _ _ _ _ (hp 0).1 (hp 1).1, okS_prOf _ _ _ _ _ _ (hp 0).2 (hp 1).2⟩
termination_by SizeOf.sizeOf x
decreasing_by exact Rw3.lt_of_mem hy
theorem payP_ok : badP vsL ssL dsL payP = false ∧ payP.okS = true ∧ payP.wt ≤ 5040 := by
  refine ⟨?_, ?_, ?_⟩
  · simp [payP, Pr.of, badP, badP0, badPs]
  · simp [payP, Pr.of, Pr.okS, Pr.okSs]
  · simp [payP, Pr.of_wt, Pr.wts]
theorem mkV (r : Rw3) : (mkProg r).V = vsL := by simp [Prog.V, mkProg, List.range_succ, shV, nthB, vsL]
theorem mkD (r : Rw3) : (mkProg r).D = dsL := by simp [Prog.D, mkProg, nthB, dsL]
theorem mkS (r : Rw3) : (mkProg r).stacks = ssL := rfl
theorem bulk_of (r : Rw3) (h : r.sz 0 ≤ 40) : r.bulk ≤ 840 := by have := r.sz_le 0; omega
theorem okP_mk (r : Rw3) (h : r.sz 0 ≤ 40) : okP (mkProg r) := by
  have hb := bulk_of r h
  have hw := r.pr_wt 0
  have hr := pr_ok r 0
  have hp := payP_ok
  refine ⟨by simp [mkProg], by simp [mkProg, List.range_succ], by simp [mkProg, ssL], by simp [mkProg], ?_, by rw [mkV]; decide, by rw [mkS]; decide, by rw [mkD]; decide, ?_, by rw [mkD]; rfl⟩
  · intro d hd
    simp only [mkProg, List.mem_cons, List.not_mem_nil, or_false] at hd
    rcases hd with rfl | rfl | rfl | rfl | rfl
    · exact ⟨hr.2, by simp only; omega⟩
    all_goals exact ⟨hp.2.1, by have := hp.2.2; simp only; omega⟩
  · intro d hd
    rw [mkV, mkS, mkD]
    simp only [mkProg, List.mem_cons, List.not_mem_nil, or_false] at hd
    rcases hd with rfl | rfl | rfl | rfl | rfl
    · exact hr.1
    all_goals exact hp.1
mutual
theorem lowE_wt (V : List ByteArray) : ∀ x : Ex, (lowE V x).wt = x.wt
  | ⟨k, n, s, l⟩ => by simp [lowE, Ex.wt, lowEs_wt V l]
theorem lowEs_wt (V : List ByteArray) : ∀ l : List Ex, Ex.wts (lowEs V l) = Ex.wts l
  | [] => rfl
  | x :: l => by simp [lowEs, Ex.wts, lowE_wt V x, lowEs_wt V l]
end
mutual
theorem lowP_wt (V S D : List ByteArray) : ∀ x : Pr, (lowP V S D x).wt ≤ x.wt
  | ⟨k, s, t, e, l⟩ => by
    have h1 := lowPs_wt V S D l
    have h2 := Ex.wt_pos e
    have h3 := lowE_wt V e
    unfold lowP lowP0
    simp only [Pr.wt]
    repeat' split
    all_goals simp only [Tm.wt, Ex.zero_wt]
    all_goals omega
theorem lowPs_wt (V S D : List ByteArray) : ∀ l : List Pr, Tm.wts (lowPs V S D l) ≤ Pr.wts l
  | [] => Nat.le_refl _
  | x :: l => by
    have h1 := lowP_wt V S D x
    have h2 := lowPs_wt V S D l
    simp only [lowPs, Tm.wts, Pr.wts]
    omega
end
mutual
theorem wtT_wt (bits : Int) : ∀ (t : Tm) (k : Nat) (p : Bool), (wtT bits t k p).1.wt ≤ t.wt
  | ⟨kd, a, b, nm, e, l⟩, k, p => by
    have h1 := wtTs_wt bits l (if kd = 1 then k + 1 else k) (p || decide (kd = 3))
    have h2 := Ex.wt_pos e
    unfold wtT
    split
    · simp only [Tm.wt, Ex.zero_wt, Tm.wts]; omega
    · simp only [Tm.wt]; omega
theorem wtTs_wt (bits : Int) : ∀ (l : List Tm) (k : Nat) (p : Bool), Tm.wts (wtTs bits l k p).1 ≤ Tm.wts l
  | [], k, p => Nat.le_refl _
  | x :: l, k, p => by
    have h1 := wtT_wt bits x k p
    have h2 := wtTs_wt bits l (wtT bits x k p).2 p
    simp only [wtTs, Tm.wts]
    omega
end
theorem re4_wt (r : Rw3) (h : r.sz 0 ≤ 40) : (re4T (mkProg r)).wt ≤ 5040 := by
  have hb := bulk_of r h
  have hw := r.pr_wt 0
  unfold re4T
  split
  · simp [Tmz, Tm.wt, Ex.zero_wt, Tm.wts]
  · have := lowP_wt (mkProg r).V (mkProg r).stacks (mkProg r).D (r.pr 0)
    simp only [ppr, mkProg, List.map_cons, List.getElem?_cons_zero, Option.getD_some] at this ⊢
    omega
theorem mkT_wt (r : Rw3) (waits : Int) (h : r.sz 0 ≤ 40) : (mkT r waits).wt ≤ 5040 := by
  have h1 := re4_wt r h
  have h2 := wtT_wt waits (re4T (mkProg r)) 0 false
  unfold mkT
  split
  · simp [askT, Tm.wt, Ex.zero_wt, Tm.wts]
  · omega
theorem sp_mkT (r : Rw3) (waits : Int) (h : r.sz 0 ≤ 40) : Am.Spec Try.prog 23 [.agg (encR3 r), .int .i64 waits] (.agg (encT (mkT r waits))) :=
  sp_mk5 r waits (okP_mk r h) (by have := re4_wt r h; omega)
end Go.Proofs.Ytkagfenchknjjaa
set_option linter.unusedVariables false
set_option linter.unusedSimpArgs false
namespace Go.Proofs.Ytkagfenchknjjaa
open Go Go.Am Go.RowKit
attribute [local simp] W27 W27_rs W27_b1 W27_b3 W27_b4 W27_b5 W27_b7 W27_k2 W27_l6

/-! Steps stand from left to right. -/
def pLt (p q : List Int) : Prop := ∃ pre x y r s, p = pre ++ x :: r ∧ q = pre ++ y :: s ∧ x < y
def ordR (a b : Stp3) : Prop := (a.2.1 = b.2.1 ∧ a.2.2 = 0 ∧ b.2.2 = 1) ∨ pLt a.2.1 b.2.1
mutual
theorem pls_ext : ∀ (t : Tm) (p : List Int) (w : Bool), ∀ x ∈ t.pls p w, ∃ s, x.2.1 = p ++ s
  | ⟨k, a, b, s, e, l⟩, p, w => by
    have h1 := plsL_ext k l p w 0
    have h2 : ∀ x ∈ Tm.pls1 k l p w, x ∈ Tm.plsL k l p w 0 := by
      intro x hx
      cases l with
      | nil => exact hx
      | cons y l =>
        simp only [Tm.pls1] at hx
        simp only [Tm.plsL, List.mem_append]
        exact Or.inl hx
    intro x hx
    simp only [Tm.pls, List.mem_cons] at hx
    rcases hx with rfl | hx
    · exact ⟨[], by simp⟩
    · split at hx
      · obtain ⟨j, s, -, h⟩ := h1 x (h2 x hx); exact ⟨_, h⟩
      · split at hx
        · obtain ⟨j, s, -, h⟩ := h1 x hx; exact ⟨_, h⟩
        · simp at hx
theorem plsL_ext (k : Int) : ∀ (l : List Tm) (p : List Int) (w : Bool) (i : Nat), ∀ x ∈ Tm.plsL k l p w i, ∃ (j : Nat) (s : List Int), i ≤ j ∧ x.2.1 = p ++ (j : Int) :: s
  | [], _, _, _ => by simp [Tm.plsL]
  | y :: l, p, w, i => by
    have h1 := pls_ext y (p ++ [(i : Int)]) (kidW k y w)
    have h2 := plsL_ext k l p w (i + 1)
    intro x hx
    simp only [Tm.plsL, List.mem_append] at hx
    rcases hx with hx | hx
    · obtain ⟨s, h⟩ := h1 x hx
      exact ⟨i, s, Nat.le_refl _, by rw [h]; simp⟩
    · obtain ⟨j, s, hj, h⟩ := h2 x hx
      exact ⟨j, s, by omega, h⟩
end
theorem mem_steps {l : List (Tm × List Int × Bool)} {a : Stp3} (h : a ∈ l.flatMap stepsAt) : ∃ x ∈ l, a.2.1 = x.2.1 := by
  obtain ⟨x, hx, ha⟩ := List.mem_flatMap.1 h
  refine ⟨x, hx, ?_⟩
  unfold stepsAt stp at ha
  obtain ⟨n, -, rfl⟩ := List.mem_map.1 ha
  rfl
theorem stp_pair (k : Int) (p : List Int) (n : Nat) (h : n ≤ 2) : (stp k p n).Pairwise ordR := by
  have : n = 0 ∨ n = 1 ∨ n = 2 := by omega
  rcases this with rfl | rfl | rfl
  · simp [stp]
  · simp [stp]
  · simp [stp, List.range_succ, ordR]
mutual
theorem pls_pair : ∀ (t : Tm) (p : List Int) (w : Bool), ((t.pls p w).flatMap stepsAt).Pairwise ordR
  | ⟨k, a, b, s, e, l⟩, p, w => by
    have h1 := plsL_pair k l p w 0
    have h2 : ((Tm.pls1 k l p w).flatMap stepsAt).Pairwise ordR := by
      cases l with
      | nil => simp [Tm.pls1]
      | cons y l => simp only [Tm.pls1]; exact pls_pair y _ _
    simp only [Tm.pls]
    by_cases c1 : k = 12 ∨ k = 7
    · rw [if_pos c1]
      have : stpN (⟨k, a, b, s, e, l⟩, p, w) = 0 := by unfold stpN; rw [if_pos (by simp only; omega)]
      simp only [List.flatMap_cons, stepsAt, this, stp_zero, List.nil_append]
      exact h2
    · rw [if_neg c1]
      by_cases c2 : k = 11
      · rw [if_pos c2]
        have : stpN (⟨k, a, b, s, e, l⟩, p, w) = 0 := by unfold stpN; rw [if_pos (by simp only; omega)]
        simp only [List.flatMap_cons, stepsAt, this, stp_zero, List.nil_append]
        exact h1
      · rw [if_neg c2]
        simp only [List.flatMap_cons, List.flatMap_nil, List.append_nil, stepsAt]
        exact stp_pair _ _ _ (stpN_le _)
theorem plsL_pair (k : Int) : ∀ (l : List Tm) (p : List Int) (w : Bool) (i : Nat), ((Tm.plsL k l p w i).flatMap stepsAt).Pairwise ordR
  | [], _, _, _ => by simp [Tm.plsL]
  | y :: l, p, w, i => by
    have h1 := pls_pair y (p ++ [(i : Int)]) (kidW k y w)
    have h2 := plsL_pair k l p w (i + 1)
    simp only [Tm.plsL, List.flatMap_append]
    refine List.pairwise_append.2 ⟨h1, h2, fun a ha b hb => .inr ?_⟩
    obtain ⟨x, hx, ea⟩ := mem_steps ha
    obtain ⟨z, hz, eb⟩ := mem_steps hb
    obtain ⟨s, e1⟩ := pls_ext _ _ _ x hx
    obtain ⟨j, s', hj, e2⟩ := plsL_ext _ _ _ _ _ z hz
    exact ⟨p, i, j, s, s', by rw [ea, e1]; simp, by rw [eb, e2], by omega⟩
end
theorem sp_its (l m : List Int) (hl : l.length ≤ 137438953472) : Am.Spec Try.prog 27 [.sl (encI l), .sl (encI m)] (.bool (decide (l = m))) := by
  by_cases hlm : l.length = m.length
  · have hlm' : (l.length : Int) = m.length := by omega
    refine Am.Spec.of_W (W := W27) Try.func27 (by kernel_rfl) (by kernel_rfl) (by kernel_rfl) Try.ntmps27 W27_eq (rs := [.tmp 4]) (by kernel_rfl) (by simp) ?_
    intro vs
    simp [hlm']
    refine sLoop_intro (fun i => i ≤ m.length ∧ ∀ j, j < i → l[j]? = m[j]?) (fun i => m.length - i) (fun i => [(0, .sl (encI l)), (1, .sl (encI m)), (5, .int .i64 (i : Nat))]) (fun _ => []) 0 (by simp) (by simp) (by simp) ?_
    rintro L i vt ⟨hi, hj⟩ hL
    by_cases h : i < m.length
    · have h' : (i : Int) < m.length := by omega
      have hl2 : i < l.length := by omega
      obtain ⟨a, ha⟩ : ∃ a, l[i] = a := ⟨_, rfl⟩
      obtain ⟨b, hb⟩ : ∃ b, m[i] = b := ⟨_, rfl⟩
      by_cases e : a = b
      · simp [h, hl2, hlm, ha, hb, e]
        rw [wrap64 (by omega) (by omega)]
        refine hL _ _ _ (i + 1) ⟨h, fun j hj2 => ?_⟩ (by omega) (by simp) (by simp)
        by_cases ej : j = i
        · rw [ej, List.getElem?_eq_getElem hl2, List.getElem?_eq_getElem h, ha, hb, e]
        · exact hj j (by omega)
      · have hne : l ≠ m := fun e2 => e (by subst e2; rw [← ha, ← hb])
        simp [h, hl2, hlm, ha, hb, e, retW_eq, hne]
    · have e : l = m := by
        refine List.ext_getElem? fun j => ?_
        by_cases hj2 : j < i
        · exact hj j hj2
        · rw [List.getElem?_eq_none (by omega), List.getElem?_eq_none (by omega)]
      have h' : ¬ (i : Int) < m.length := by omega
      simp [h, hlm, retW_eq, e]
  · have hne : l ≠ m := fun e => hlm (by rw [e])
    have hlm' : ¬ (l.length : Int) = m.length := by omega
    refine Am.Spec.of_W (W := W27) Try.func27 (by kernel_rfl) (by kernel_rfl) (by kernel_rfl) Try.ntmps27 W27_eq (rs := [.tmp 4]) (by kernel_rfl) (by simp) ?_
    intro vs
    simp [hlm, hlm', hne, retW_eq]
end Go.Proofs.Ytkagfenchknjjaa
set_option linter.unusedVariables false
set_option linter.unusedSimpArgs false
namespace Go.Proofs.Ytkagfenchknjjaa
open Go Go.Am Go.RowKit


@[simp] theorem rd_S0 (x : Stp3) : readA (encS x) 0 1 false = some (.int .i64 x.1) := rfl
@[simp] theorem rd_S1 (x : Stp3) : readA (encS x) 1 1 false = some (.sl (encI x.2.1)) := rfl
@[simp] theorem rd_S2 (x : Stp3) : readA (encS x) 2 1 false = some (.int .i64 x.2.2) := rfl
@[simp] theorem rd_Sall (x : Stp3) : readA (encS x) 0 3 true = some (.agg (encS x)) := rfl
@[simp] theorem encS_cells (x : Stp3) : (∀ c ∈ encS x, c.cell = true) ↔ True := ⟨fun _ => trivial, fun _ => encS_cell x⟩
@[simp] theorem set_S0 (x : Stp3) (a b c : AV) : setL [a, b, c] 0 (encS x) = encS x := by rw [setL_whole (by simp)]
end Go.Proofs.Ytkagfenchknjjaa
