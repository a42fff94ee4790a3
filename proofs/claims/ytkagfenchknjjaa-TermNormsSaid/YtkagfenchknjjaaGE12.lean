import Derived.Test.YtkagfenchknjjaaGC11
import Derived.Test.YtkagfenchknjjaaGQ7
import Derived.Test.YtkagfenchknjjaaGE10
import Derived.Test.YtkagfenchknjjaaGW8
import Derived.Test.YtkagfenchknjjaaGW9
set_option linter.unusedVariables false
set_option linter.unusedSimpArgs false
namespace Go.Proofs.Ytkagfenchknjjaa
open Go Go.Am Go.RowKit
attribute [local simp] W76 W76_rs W76_b1 W76_b3 W76_b16 W76_b18 W76_k2 W76_c4 W76_c5 W76_c6 W76_c7 W76_c8 W76_c9 W76_c10 W76_c11 W76_c12 W76_c13 W76_c14 W76_c15 W76_c19 W76_c20 W76_c21 W76_c22 W76_c23 W76_l17 W51 W51_rs W51_b1 W51_b2 W51_b4 W51_b5 W51_b10 W51_b12 W51_b15 W51_b18 W51_k3 W51_k13 W51_k16 W51_c6 W51_c7 W51_c8 W51_c9 W51_c14 W51_c17 W51_c19 W51_c20 W51_c21 W51_c22 W51_c23 W51_c24 W51_c25 W51_c26 W51_c27 W51_c28 W51_c29 W51_c30 W51_c31 W51_c32 W51_c33 W51_l11 W34 W34_rs W34_c1

def payS : ByteArray := ⟨#[112, 97, 121]⟩
theorem payS_size : payS.size = 3 := rfl
theorem pay_dec : Utf8.decode payS 0 = (112, 1) ∧ Utf8.decode payS 1 = (97, 1) ∧ Utf8.decode payS 2 = (121, 1) := by decide +kernel
theorem pay_key : isKey payS = false := by decide +kernel
theorem pay_u8 : IntKind.wrap .u8 112 = 112 ∧ IntKind.wrap .u8 97 = 97 ∧ IntKind.wrap .u8 121 = 121 := by decide +kernel
theorem sp_nam : Am.Spec Try.prog 76 [.str payS] (.bool true) := by
  have hk := sp_key payS
  rw [pay_key] at hk
  have s1 := sp_sm 112
  have i1 := sp_inn 112
  have i2 := sp_inn 97
  have i3 := sp_inn 121
  rw [show isSmall 112 = true from rfl] at s1
  rw [show isInner 112 = true from rfl] at i1
  rw [show isInner 97 = true from rfl] at i2
  rw [show isInner 121 = true from rfl] at i3
  refine Am.Spec.of_W (W := W76) Try.func76 (by kernel_rfl) (by kernel_rfl) (by kernel_rfl) Try.ntmps76 W76_eq (rs := [.tmp 2]) (by kernel_rfl) (by simp) ?_
  intro vs
  simp [payS_size]
  refine scall_pure hk (by simp) (by simp) ?_
  simp [payS_size]
  refine sLoop_intro (fun i => i ≤ 3) (fun i => 3 - i) (fun i => [(18, .ref 18 (vs 18 + 1) (.p 0))]) (fun i => [(18, .obj (vs 18 + 1) (.siter payS i))]) 0 (by simp) (by simp) (by simp) ?_
  intro L i vt hi hL
  have cs : i = 0 ∨ i = 1 ∨ i = 2 ∨ i = 3 := by omega
  rcases cs with rfl | rfl | rfl | rfl
  · simp [payS_size, pay_dec.1, pay_u8.1]
    refine scall_pure s1 (by simp) (by simp) ?_
    simp [pay_u8.1]
    refine scall_pure i1 (by simp) (by simp) ?_
    simp
    exact hL _ _ _ 1 (by omega) (by omega) (by simp) (by simp)
  · simp [payS_size, pay_dec.2.1, pay_u8.2.1]
    refine scall_pure i2 (by simp) (by simp) ?_
    simp
    exact hL _ _ _ 2 (by omega) (by omega) (by simp) (by simp)
  · simp [payS_size, pay_dec.2.2, pay_u8.2.2]
    refine scall_pure i3 (by simp) (by simp) ?_
    simp
    exact hL _ _ _ 3 (by omega) (by omega) (by simp) (by simp)
  · simp [payS_size, retW_eq]
def wKn : Tm := ⟨14, 3, -1, payS, .zero, []⟩
theorem sp_rgt : Am.Spec Try.prog 51 [.agg [.int .i64 0, .int .i64 0, .int .i64 0], .agg (encT wKn), .bool false] (.bool true) := by
  have n1 := sp_num 0 0 0 5 3
  have n2 := sp_num 0 0 0 2 (-1)
  rw [show numOk 0 0 0 5 3 = true from rfl] at n1
  rw [show numOk 0 0 0 2 (-1) = true from rfl] at n2
  have no := sp_non .zero
  rw [show Ex.zero.none = true by decide +kernel] at no
  have hk : wKn.kind = 14 := rfl
  have ha : wKn.a = 3 := rfl
  have hb : wKn.b = -1 := rfl
  have hn : wKn.name = payS := rfl
  have he : wKn.e = .zero := rfl
  have hl : wKn.l = [] := rfl
  have hp : ¬ payS = ⟨#[]⟩ := by decide +kernel
  generalize wKn = x at *
  have hsh : (shapes.length = 15) := rfl
  have h14 : shapes[14]? = some (shapeOf 5 2 true false 0) := rfl
  refine Am.Spec.of_W (W := W51) Try.func51 (by kernel_rfl) (by kernel_rfl) (by kernel_rfl) Try.ntmps51 W51_eq (rs := [.tmp 6]) (by kernel_rfl) (by simp) ?_
  intro vs
  simp [hk]
  refine scall0_pure sp_shp (by simp) (by simp) ?_
  simp [hk, hsh]
  refine scall0_pure sp_shp (by simp) (by simp) ?_
  have hocc : occLL shapes = [] := occLL_closed rfl
  have hix : ixRows shapes 14 5 = some (.elt (shapeOf 5 2 true false 0) 0) := by
    rw [show (14 : Int) = ((14 : Nat) : Int) from rfl, ixRows_nat, h14]; simp [shapeOf]
  simp [hk, hsh, hix, hocc, shapeOf, ha, hb]
  refine scall0_pure n1 (by simp) (by simp) ?_
  simp [hk, hocc, hb, hl, hn, he]
  refine scall0_pure n2 (by simp) (by simp) ?_
  simp [hk, hocc, hb, hl, hn, he, hp]
  refine scall0_pure no (by simp) (by simp) ?_
  simp [hk, hocc, hb, hl, hn, he, hp]
  refine scall_pure sp_nam (by simp) (by simp) ?_
  simp [-W51_l11, hk, hb, hl, hn, he, hp]
  refine sLoop_intro (fun _ : Unit => True) (fun _ => 0) (fun _ => [(78, .int .i64 0), (79, .int .i64 0)]) (fun _ => []) () trivial (by simp) (by simp) ?_
  intro L _ vt _ hL
  simp [retW_eq]
theorem sp_trt : Am.Spec Try.prog 34 [.agg (encT wKn), .int .i64 0, .int .i64 0, .int .i64 0] (.bool true) := by
  refine Am.Spec.of_W (W := W34) Try.func34 (by kernel_rfl) (by kernel_rfl) (by kernel_rfl) Try.ntmps34 W34_eq (rs := [.tmp 8]) (by kernel_rfl) (by simp) ?_
  intro vs
  simp
  refine scall_pure sp_rgt (by simp) (by simp) ?_
  simp [retW_eq]
end Go.Proofs.Ytkagfenchknjjaa
set_option linter.unusedVariables false
set_option linter.unusedSimpArgs false
namespace Go.Proofs.Ytkagfenchknjjaa
open Go Go.Am Go.RowKit
attribute [local simp] W32 W32_rs W32_c1 W32_c2 W32_c3 W32_c4 W32_c5 W32_c6 W32_c7 W32_c8 W32_c9 W32_c10 W32_c11 W32_c12 W32_c13 W32_c14 W32_c15

theorem encT_wKn : encT wKn = [.int .i64 14, .int .i64 3, .int .i64 (-1), .str ⟨#[112, 97, 121]⟩, .int .i64 0, .int .i64 0, .str ⟨#[]⟩, .sl [], .sl []] := by simp [wKn, encT_mk, Ex.zero, encE_mk, payS]
theorem skip_norm : Tm.skip.norm = .skip := Tm.norm_else (by simp [Tm.skip, Tm.of]) (by simp [Tm.skip, Tm.of])
theorem sp_kn5 : Am.Spec Try.prog 32 [] (.bool true) := by
  have hw := sp_wts (Tm.of 12 [wKn, .skip]) (by decide +kernel)
  rw [show (Tm.of 12 [wKn, .skip]).waits = [3] by decide +kernel] at hw
  have hn := sp_nrm (Tm.of 7 [.skip]) (by decide +kernel)
  rw [show (Tm.of 7 [.skip]).norm = .skip by rw [Tm.norm_one (x := .skip) rfl, skip_norm]; rfl] at hn
  have hz := sp_sz (Tm.of 7 [.skip]) (by decide +kernel)
  rw [show (Tm.of 7 [.skip]).size = 2 by decide +kernel] at hz
  have hs := sp_sam .skip .skip (by decide +kernel)
  rw [(Tm.same_iff .skip .skip).2 rfl] at hs
  have hr := sp_trt
  simp only [encT_of, List.map_cons, List.map_nil, encT_wKn, encT_skip] at hw hn hz hs hr
  refine Am.Spec.of_W (W := W32) Try.func32 (by kernel_rfl) (by kernel_rfl) (by kernel_rfl) Try.ntmps32 W32_eq (rs := [.tmp 0]) (by kernel_rfl) (by simp) ?_
  intro vs
  simp
  refine scall_pure hw (by simp) (by simp) ?_
  simp
  refine scall_pure hn (by simp) (by simp) ?_
  simp
  refine scall_pure hs (by simp) (by simp) ?_
  simp
  refine scall_pure hz (by simp) (by simp) ?_
  simp
  refine scall_pure hr (by simp) (by simp) ?_
  simp [retW_eq]
end Go.Proofs.Ytkagfenchknjjaa
set_option linter.unusedVariables false
set_option linter.unusedSimpArgs false
namespace Go.Proofs.Ytkagfenchknjjaa
open Go Go.Am Go.RowKit
attribute [local simp] W56 W56_rs W56_b1 W56_b3 W56_b4 W56_b6 W56_b8 W56_k2 W56_c5 W56_c9 W56_c10 W56_c11 W56_c12 W56_c13 W56_c14 W56_c15 W56_c16 W56_c17 W56_c18 W56_c19 W56_c20 W56_c21 W56_c22 W56_c23 W56_c24 W56_c25 W56_l7 W39 W39_rs W39_b1 W39_b3 W39_b4 W39_b6 W39_b8 W39_k2 W39_c5 W39_c9 W39_c10 W39_c11 W39_c12 W39_c13 W39_c14 W39_c15 W39_c16 W39_c17 W39_c18 W39_c19 W39_c20 W39_c21 W39_c22 W39_c23 W39_c24 W39_c25 W39_c26 W39_c27 W39_c28 W39_c29 W39_c30 W39_c31 W39_c32 W39_c33 W39_c34 W39_c35 W39_c36 W39_l7

theorem sp_s2_loop (x y : Ex) (hlm : x.l.length = y.l.length) (hw : x.l.length ≤ 137438953472) (ih : ∀ z ∈ x.l, ∀ y, Am.Spec Try.prog 56 [.agg (encE z), .agg (encE y)] (.bool (Ex.same z y)))
    (v2 v3 : Nat) (T : List (Nat × AV)) (H : List (Nat × Blk)) (vs : Nat → Nat) (hT : Am.subT T [(2, .ref 2 v2 (.p 0)), (3, .ref 3 v3 (.p 0)), (5, .int .i64 0)]) (hH : subA H [(2, .box v2 31 (encE x)), (3, .box v3 31 (encE y))]) :
    @sLoop ⟨Am.look T, hls H vs, noG⟩ ⟨fun L0 s => W56_l7 Try.prog (retK Try.prog [.tmp 4] (.bool (eqL Ex.same x.l y.l))) L0 s⟩ := by
  refine sLoop_intro (fun i => i ≤ y.l.length ∧ eqL Ex.same x.l y.l = eqL Ex.same (x.l.drop i) (y.l.drop i)) (fun i => y.l.length - i) (fun i => [(2, .ref 2 v2 (.p 0)), (3, .ref 3 v3 (.p 0)), (5, .int .i64 (i : Nat))])
    (fun _ => [(2, .box v2 31 (encE x)), (3, .box v3 31 (encE y))]) 0 (by simp) (by simpa using hT) (by simpa using hH) ?_
  rintro L i vt ⟨hi, hj⟩ hL
  by_cases h : i < y.l.length
  · have hl2 : i < x.l.length := by omega
    have h' : (i : Int) < x.l.length := by omega
    have hd := eqL_drop Ex.same x.l y.l i hl2 h
    have hx := ih _ (List.getElem_mem hl2) y.l[i]
    generalize hb : Ex.same x.l[i] y.l[i] = b at *
    cases b
    · rw [hj, hd]
      simp [h, h', hl2]
      refine scall0_pure hx (by simp) (by simp) ?_
      simp [retW_eq]
    · simp [h, h', hl2]
      refine scall0_pure hx (by simp) (by simp) ?_
      simp
      rw [wrap64 (by omega) (by omega)]
      exact hL _ _ _ (i + 1) ⟨h, by rw [hj, hd]; simp⟩ (by omega) (by simp) (by simp)
  · have e := eqL_end Ex.same x.l y.l i (by omega) hlm
    have h2 : ¬ i < x.l.length := by omega
    have h' : ¬ (i : Int) < x.l.length := by omega
    rw [hj, e]
    simp [h, h', h2, retW_eq]
theorem sp_s2 (x y : Ex) (hw : x.lok) : Am.Spec Try.prog 56 [.agg (encE x), .agg (encE y)] (.bool (Ex.same x y)) := by
  have hlen := Ex.lok_len hw
  have ih : ∀ z ∈ x.l, ∀ y, Am.Spec Try.prog 56 [.agg (encE z), .agg (encE y)] (.bool (Ex.same z y)) := fun z hz y => sp_s2 z y (Ex.lok_mem hw hz)
  rw [Ex.same_eq]
  by_cases c1 : x.kind = y.kind
  · by_cases c2 : x.n = y.n
    · by_cases c3 : x.name = y.name
      · by_cases c4 : x.l.length = y.l.length
        · have c4' : (x.l.length : Int) = y.l.length := by omega
          rw [decide_eq_true c1, decide_eq_true c2, decide_eq_true c3]
          simp only [Bool.true_and]
          refine Am.Spec.of_W (W := W56) Try.func56 (by kernel_rfl) (by kernel_rfl) (by kernel_rfl) Try.ntmps56 W56_eq (rs := [.tmp 4]) (by kernel_rfl) (by simp) ?_
          intro vs
          simp [-W56_l7, c1, c2, c3, c4]
          exact sp_s2_loop x y c4 (by omega) ih (vs 2 + 1) (vs 3 + 1) _ _ _ (by simp) (by simp)
        · have c4' : ¬ (x.l.length : Int) = y.l.length := by omega
          rw [eqL_len _ _ _ c4]
          refine Am.Spec.of_W (W := W56) Try.func56 (by kernel_rfl) (by kernel_rfl) (by kernel_rfl) Try.ntmps56 W56_eq (rs := [.tmp 4]) (by kernel_rfl) (by simp) ?_
          intro vs
          simp [c1, c2, c3, c4, c4', retW_eq]
      · refine Am.Spec.of_W (W := W56) Try.func56 (by kernel_rfl) (by kernel_rfl) (by kernel_rfl) Try.ntmps56 W56_eq (rs := [.tmp 4]) (by kernel_rfl) (by simp) ?_
        intro vs
        simp [c1, c2, c3, retW_eq]
    · refine Am.Spec.of_W (W := W56) Try.func56 (by kernel_rfl) (by kernel_rfl) (by kernel_rfl) Try.ntmps56 W56_eq (rs := [.tmp 4]) (by kernel_rfl) (by simp) ?_
      intro vs
      simp [c1, c2, retW_eq]
  · refine Am.Spec.of_W (W := W56) Try.func56 (by kernel_rfl) (by kernel_rfl) (by kernel_rfl) Try.ntmps56 W56_eq (rs := [.tmp 4]) (by kernel_rfl) (by simp) ?_
    intro vs
    simp [c1, retW_eq]
termination_by SizeOf.sizeOf x
decreasing_by exact Ex.lt_of_mem hz
theorem sp_s5_loop (x y : Tm) (hlm : x.l.length = y.l.length) (hw : x.l.length ≤ 137438953472) (ih : ∀ z ∈ x.l, ∀ y, Am.Spec Try.prog 39 [.agg (encT z), .agg (encT y)] (.bool (Tm.same z y)))
    (v2 v3 : Nat) (T : List (Nat × AV)) (H : List (Nat × Blk)) (vs : Nat → Nat) (hT : Am.subT T [(2, .ref 2 v2 (.p 0)), (3, .ref 3 v3 (.p 0)), (5, .int .i64 0)]) (hH : subA H [(2, .box v2 34 (encT x)), (3, .box v3 34 (encT y))]) :
    @sLoop ⟨Am.look T, hls H vs, noG⟩ ⟨fun L0 s => W39_l7 Try.prog (retK Try.prog [.tmp 4] (.bool (eqL Tm.same x.l y.l))) L0 s⟩ := by
  refine sLoop_intro (fun i => i ≤ y.l.length ∧ eqL Tm.same x.l y.l = eqL Tm.same (x.l.drop i) (y.l.drop i)) (fun i => y.l.length - i) (fun i => [(2, .ref 2 v2 (.p 0)), (3, .ref 3 v3 (.p 0)), (5, .int .i64 (i : Nat))])
    (fun _ => [(2, .box v2 34 (encT x)), (3, .box v3 34 (encT y))]) 0 (by simp) (by simpa using hT) (by simpa using hH) ?_
  rintro L i vt ⟨hi, hj⟩ hL
  by_cases h : i < y.l.length
  · have hl2 : i < x.l.length := by omega
    have h' : (i : Int) < x.l.length := by omega
    have hd := eqL_drop Tm.same x.l y.l i hl2 h
    have hx := ih _ (List.getElem_mem hl2) y.l[i]
    generalize hb : Tm.same x.l[i] y.l[i] = b at *
    cases b
    · rw [hj, hd]
      simp [h, h', hl2]
      refine scall0_pure hx (by simp) (by simp) ?_
      simp [retW_eq]
    · simp [h, h', hl2]
      refine scall0_pure hx (by simp) (by simp) ?_
      simp
      rw [wrap64 (by omega) (by omega)]
      exact hL _ _ _ (i + 1) ⟨h, by rw [hj, hd]; simp⟩ (by omega) (by simp) (by simp)
  · have e := eqL_end Tm.same x.l y.l i (by omega) hlm
    have h2 : ¬ i < x.l.length := by omega
    have h' : ¬ (i : Int) < x.l.length := by omega
    rw [hj, e]
    simp [h, h', h2, retW_eq]
theorem sp_s5 (x y : Tm) (hw : x.lok) : Am.Spec Try.prog 39 [.agg (encT x), .agg (encT y)] (.bool (Tm.same x y)) := by
  have hlen := Tm.lok_len hw
  have ih : ∀ z ∈ x.l, ∀ y, Am.Spec Try.prog 39 [.agg (encT z), .agg (encT y)] (.bool (Tm.same z y)) := fun z hz y => sp_s5 z y (Tm.lok_mem hw hz)
  have hse := sp_s2 x.e y.e (Tm.lok_e hw)
  rw [Tm.same_eq]
  by_cases c1 : x.kind = y.kind
  · by_cases c2 : x.a = y.a
    · by_cases c3 : x.b = y.b
      · by_cases c4 : x.name = y.name
        · rw [decide_eq_true c1, decide_eq_true c2, decide_eq_true c3, decide_eq_true c4]
          generalize hb : Ex.same x.e y.e = b at *
          cases b
          · refine Am.Spec.of_W (W := W39) Try.func39 (by kernel_rfl) (by kernel_rfl) (by kernel_rfl) Try.ntmps39 W39_eq (rs := [.tmp 4]) (by kernel_rfl) (by simp) ?_
            intro vs
            simp [c1, c2, c3, c4]
            refine scall_pure hse (by simp) (by simp) ?_
            simp [retW_eq]
          · by_cases c5 : x.l.length = y.l.length
            · have c5' : (x.l.length : Int) = y.l.length := by omega
              simp only [Bool.true_and]
              refine Am.Spec.of_W (W := W39) Try.func39 (by kernel_rfl) (by kernel_rfl) (by kernel_rfl) Try.ntmps39 W39_eq (rs := [.tmp 4]) (by kernel_rfl) (by simp) ?_
              intro vs
              simp [-W39_l7, c1, c2, c3, c4]
              refine scall_pure hse (by simp) (by simp) ?_
              simp [-W39_l7, c5]
              exact sp_s5_loop x y c5 (by omega) ih (vs 2 + 1) (vs 3 + 1) _ _ _ (by simp) (by simp)
            · have c5' : ¬ (x.l.length : Int) = y.l.length := by omega
              rw [eqL_len _ _ _ c5]
              refine Am.Spec.of_W (W := W39) Try.func39 (by kernel_rfl) (by kernel_rfl) (by kernel_rfl) Try.ntmps39 W39_eq (rs := [.tmp 4]) (by kernel_rfl) (by simp) ?_
              intro vs
              simp [c1, c2, c3, c4]
              refine scall_pure hse (by simp) (by simp) ?_
              simp [c5, c5', retW_eq]
        · refine Am.Spec.of_W (W := W39) Try.func39 (by kernel_rfl) (by kernel_rfl) (by kernel_rfl) Try.ntmps39 W39_eq (rs := [.tmp 4]) (by kernel_rfl) (by simp) ?_
          intro vs
          simp [c1, c2, c3, c4, retW_eq]
      · refine Am.Spec.of_W (W := W39) Try.func39 (by kernel_rfl) (by kernel_rfl) (by kernel_rfl) Try.ntmps39 W39_eq (rs := [.tmp 4]) (by kernel_rfl) (by simp) ?_
        intro vs
        simp [c1, c2, c3, retW_eq]
    · refine Am.Spec.of_W (W := W39) Try.func39 (by kernel_rfl) (by kernel_rfl) (by kernel_rfl) Try.ntmps39 W39_eq (rs := [.tmp 4]) (by kernel_rfl) (by simp) ?_
      intro vs
      simp [c1, c2, retW_eq]
  · refine Am.Spec.of_W (W := W39) Try.func39 (by kernel_rfl) (by kernel_rfl) (by kernel_rfl) Try.ntmps39 W39_eq (rs := [.tmp 4]) (by kernel_rfl) (by simp) ?_
    intro vs
    simp [c1, retW_eq]
termination_by SizeOf.sizeOf x
decreasing_by exact Tm.lt_of_mem hz
end Go.Proofs.Ytkagfenchknjjaa
