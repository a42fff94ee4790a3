import Derived.Test.YtkagfenchknjjaaGC11
import Derived.Test.YtkagfenchknjjaaGQ7
import Derived.Test.YtkagfenchknjjaaGE10
set_option linter.unusedVariables false
set_option linter.unusedSimpArgs false
namespace Go.Proofs.Ytkagfenchknjjaa
open Go Go.Am Go.RowKit

def payS : ByteArray := ⟨#[112, 97, 121]⟩
theorem payS_size : payS.size = 3 := rfl
theorem pay_dec : Utf8.decode payS 0 = (112, 1) ∧ Utf8.decode payS 1 = (97, 1) ∧ Utf8.decode payS 2 = (121, 1) := by decide +kernel
theorem pay_key : isKey payS = false := by decide +kernel
theorem pay_u8 : IntKind.wrap .u8 112 = 112 ∧ IntKind.wrap .u8 97 = 97 ∧ IntKind.wrap .u8 121 = 121 := by decide +kernel
theorem sp_nam : Am.Spec Try.prog 76 [.str payS] (.bool true) := by
  have hk := sp_key payS
  rw [pay_key] at hk
  have s1 := sp_sm 112
  have i1 := sp_inn 112
  have i2 := sp_inn 97
  have i3 := sp_inn 121
  rw [show isSmall 112 = true from rfl] at s1
  rw [show isInner 112 = true from rfl] at i1
  rw [show isInner 97 = true from rfl] at i2
  rw [show isInner 121 = true from rfl] at i3
  refine Am.Spec.of_W (W := W76) Try.func76 (by kernel_rfl) (by kernel_rfl) (by kernel_rfl) Try.ntmps76 W76_eq (rs := [.tmp 2]) (by kernel_rfl) (by simp) ?_
  intro vs
  simp [W76, W76_rs, W76_b1, W76_b3, W76_b16, W76_b18, W76_k2, W76_c4, W76_c5, W76_c6, W76_c7, W76_c8, W76_c9, W76_c10, W76_c11, W76_c12, W76_c13, W76_c14, W76_c15, W76_c19, W76_c20, W76_c21, W76_c22, W76_c23, W76_l17, payS_size]
  refine scall_pure hk (by simp) (by simp) ?_
  simp [W76, W76_rs, W76_b1, W76_b3, W76_b16, W76_b18, W76_k2, W76_c4, W76_c5, W76_c6, W76_c7, W76_c8, W76_c9, W76_c10, W76_c11, W76_c12, W76_c13, W76_c14, W76_c15, W76_c19, W76_c20, W76_c21, W76_c22, W76_c23, W76_l17, payS_size]
  refine sLoop_intro (fun i => i ≤ 3) (fun i => 3 - i) (fun i => [(18, .ref 18 (vs 18 + 1) (.p 0))]) (fun i => [(18, .obj (vs 18 + 1) (.siter payS i))]) 0 (by simp) (by simp) (by simp) ?_
  intro L i vt hi hL
  have cs : i = 0 ∨ i = 1 ∨ i = 2 ∨ i = 3 := by omega
  rcases cs with rfl | rfl | rfl | rfl
  · simp [W76, W76_rs, W76_b1, W76_b3, W76_b16, W76_b18, W76_k2, W76_c4, W76_c5, W76_c6, W76_c7, W76_c8, W76_c9, W76_c10, W76_c11, W76_c12, W76_c13, W76_c14, W76_c15, W76_c19, W76_c20, W76_c21, W76_c22, W76_c23, W76_l17, payS_size, pay_dec.1, pay_u8.1]
    refine scall_pure s1 (by simp) (by simp) ?_
    simp [W76, W76_rs, W76_b1, W76_b3, W76_b16, W76_b18, W76_k2, W76_c4, W76_c5, W76_c6, W76_c7, W76_c8, W76_c9, W76_c10, W76_c11, W76_c12, W76_c13, W76_c14, W76_c15, W76_c19, W76_c20, W76_c21, W76_c22, W76_c23, W76_l17, pay_u8.1]
    refine scall_pure i1 (by simp) (by simp) ?_
    simp [W76, W76_rs, W76_b1, W76_b3, W76_b16, W76_b18, W76_k2, W76_c4, W76_c5, W76_c6, W76_c7, W76_c8, W76_c9, W76_c10, W76_c11, W76_c12, W76_c13, W76_c14, W76_c15, W76_c19, W76_c20, W76_c21, W76_c22, W76_c23, W76_l17]
    exact hL _ _ _ 1 (by omega) (by omega) (by simp) (by simp)
  · simp [W76, W76_rs, W76_b1, W76_b3, W76_b16, W76_b18, W76_k2, W76_c4, W76_c5, W76_c6, W76_c7, W76_c8, W76_c9, W76_c10, W76_c11, W76_c12, W76_c13, W76_c14, W76_c15, W76_c19, W76_c20, W76_c21, W76_c22, W76_c23, W76_l17, payS_size, pay_dec.2.1, pay_u8.2.1]
    refine scall_pure i2 (by simp) (by simp) ?_
    simp [W76, W76_rs, W76_b1, W76_b3, W76_b16, W76_b18, W76_k2, W76_c4, W76_c5, W76_c6, W76_c7, W76_c8, W76_c9, W76_c10, W76_c11, W76_c12, W76_c13, W76_c14, W76_c15, W76_c19, W76_c20, W76_c21, W76_c22, W76_c23, W76_l17]
    exact hL _ _ _ 2 (by omega) (by omega) (by simp) (by simp)
  · simp [W76, W76_rs, W76_b1, W76_b3, W76_b16, W76_b18, W76_k2, W76_c4, W76_c5, W76_c6, W76_c7, W76_c8, W76_c9, W76_c10, W76_c11, W76_c12, W76_c13, W76_c14, W76_c15, W76_c19, W76_c20, W76_c21, W76_c22, W76_c23, W76_l17, payS_size, pay_dec.2.2, pay_u8.2.2]
    refine scall_pure i3 (by simp) (by simp) ?_
    simp [W76, W76_rs, W76_b1, W76_b3, W76_b16, W76_b18, W76_k2, W76_c4, W76_c5, W76_c6, W76_c7, W76_c8, W76_c9, W76_c10, W76_c11, W76_c12, W76_c13, W76_c14, W76_c15, W76_c19, W76_c20, W76_c21, W76_c22, W76_c23, W76_l17]
    exact hL _ _ _ 3 (by omega) (by omega) (by simp) (by simp)
  · simp [W76, W76_rs, W76_b1, W76_b3, W76_b16, W76_b18, W76_k2, W76_c4, W76_c5, W76_c6, W76_c7, W76_c8, W76_c9, W76_c10, W76_c11, W76_c12, W76_c13, W76_c14, W76_c15, W76_c19, W76_c20, W76_c21, W76_c22, W76_c23, W76_l17, payS_size, retW_eq]
def wKn : Tm := ⟨14, 3, -1, payS, .zero, []⟩
theorem sp_rgt : Am.Spec Try.prog 51 [.agg [.int .i64 0, .int .i64 0, .int .i64 0], .agg (encT wKn), .bool false] (.bool true) := by
  have n1 := sp_num 0 0 0 5 3
  have n2 := sp_num 0 0 0 2 (-1)
  rw [show numOk 0 0 0 5 3 = true from rfl] at n1
  rw [show numOk 0 0 0 2 (-1) = true from rfl] at n2
  have no := sp_non .zero
  rw [show Ex.zero.none = true by decide +kernel] at no
  have hk : wKn.kind = 14 := rfl
  have ha : wKn.a = 3 := rfl
  have hb : wKn.b = -1 := rfl
  have hn : wKn.name = payS := rfl
  have he : wKn.e = .zero := rfl
  have hl : wKn.l = [] := rfl
  have hp : ¬ payS = ⟨#[]⟩ := by decide +kernel
  generalize wKn = x at *
  have hsh : (shapes.length = 15) := rfl
  have h14 : shapes[14]? = some (shapeOf 5 2 true false 0) := rfl
  refine Am.Spec.of_W (W := W51) Try.func51 (by kernel_rfl) (by kernel_rfl) (by kernel_rfl) Try.ntmps51 W51_eq (rs := [.tmp 6]) (by kernel_rfl) (by simp) ?_
  intro vs
  simp [W51, W51_rs, W51_b1, W51_b2, W51_b4, W51_b5, W51_b10, W51_b12, W51_b15, W51_b18, W51_k3, W51_k13, W51_k16, W51_c6, W51_c7, W51_c8, W51_c9, W51_c14, W51_c17, W51_c19, W51_c20, W51_c21, W51_c22, W51_c23, W51_c24, W51_c25, W51_c26, W51_c27, W51_c28, W51_c29, W51_c30, W51_c31, W51_c32, W51_c33, W51_l11, hk]
  refine scall0_pure sp_shp (by simp) (by simp) ?_
  simp [W51, W51_rs, W51_b1, W51_b2, W51_b4, W51_b5, W51_b10, W51_b12, W51_b15, W51_b18, W51_k3, W51_k13, W51_k16, W51_c6, W51_c7, W51_c8, W51_c9, W51_c14, W51_c17, W51_c19, W51_c20, W51_c21, W51_c22, W51_c23, W51_c24, W51_c25, W51_c26, W51_c27, W51_c28, W51_c29, W51_c30, W51_c31, W51_c32, W51_c33, W51_l11, hk, hsh]
  refine scall0_pure sp_shp (by simp) (by simp) ?_
  have hocc : occLL shapes = [] := occLL_closed rfl
  have hix : ixRows shapes 14 5 = some (.elt (shapeOf 5 2 true false 0) 0) := by
    rw [show (14 : Int) = ((14 : Nat) : Int) from rfl, ixRows_nat, h14]; simp [shapeOf]
  simp [W51, W51_rs, W51_b1, W51_b2, W51_b4, W51_b5, W51_b10, W51_b12, W51_b15, W51_b18, W51_k3, W51_k13, W51_k16, W51_c6, W51_c7, W51_c8, W51_c9, W51_c14, W51_c17, W51_c19, W51_c20, W51_c21, W51_c22, W51_c23, W51_c24, W51_c25, W51_c26, W51_c27, W51_c28, W51_c29, W51_c30, W51_c31, W51_c32, W51_c33, W51_l11, hk, hsh, hix, hocc, shapeOf, ha, hb]
  refine scall0_pure n1 (by simp) (by simp) ?_
  simp [W51, W51_rs, W51_b1, W51_b2, W51_b4, W51_b5, W51_b10, W51_b12, W51_b15, W51_b18, W51_k3, W51_k13, W51_k16, W51_c6, W51_c7, W51_c8, W51_c9, W51_c14, W51_c17, W51_c19, W51_c20, W51_c21, W51_c22, W51_c23, W51_c24, W51_c25, W51_c26, W51_c27, W51_c28, W51_c29, W51_c30, W51_c31, W51_c32, W51_c33, W51_l11, hk, hocc, hb, hl, hn, he]
  refine scall0_pure n2 (by simp) (by simp) ?_
  simp [W51, W51_rs, W51_b1, W51_b2, W51_b4, W51_b5, W51_b10, W51_b12, W51_b15, W51_b18, W51_k3, W51_k13, W51_k16, W51_c6, W51_c7, W51_c8, W51_c9, W51_c14, W51_c17, W51_c19, W51_c20, W51_c21, W51_c22, W51_c23, W51_c24, W51_c25, W51_c26, W51_c27, W51_c28, W51_c29, W51_c30, W51_c31, W51_c32, W51_c33, W51_l11, hk, hocc, hb, hl, hn, he, hp]
  refine scall0_pure no (by simp) (by simp) ?_
  simp [W51, W51_rs, W51_b1, W51_b2, W51_b4, W51_b5, W51_b10, W51_b12, W51_b15, W51_b18, W51_k3, W51_k13, W51_k16, W51_c6, W51_c7, W51_c8, W51_c9, W51_c14, W51_c17, W51_c19, W51_c20, W51_c21, W51_c22, W51_c23, W51_c24, W51_c25, W51_c26, W51_c27, W51_c28, W51_c29, W51_c30, W51_c31, W51_c32, W51_c33, W51_l11, hk, hocc, hb, hl, hn, he, hp]
  refine scall_pure sp_nam (by simp) (by simp) ?_
  simp [W51, W51_rs, W51_b1, W51_b2, W51_b4, W51_b5, W51_b10, W51_b12, W51_b15, W51_b18, W51_k3, W51_k13, W51_k16, W51_c6, W51_c7, W51_c8, W51_c9, W51_c14, W51_c17, W51_c19, W51_c20, W51_c21, W51_c22, W51_c23, W51_c24, W51_c25, W51_c26, W51_c27, W51_c28, W51_c29, W51_c30, W51_c31, W51_c32, W51_c33, hk, hb, hl, hn, he, hp]
  refine sLoop_intro (fun _ : Unit => True) (fun _ => 0) (fun _ => [(78, .int .i64 0), (79, .int .i64 0)]) (fun _ => []) () trivial (by simp) (by simp) ?_
  intro L _ vt _ hL
  simp [W51, W51_rs, W51_b1, W51_b2, W51_b4, W51_b5, W51_b10, W51_b12, W51_b15, W51_b18, W51_k3, W51_k13, W51_k16, W51_c6, W51_c7, W51_c8, W51_c9, W51_c14, W51_c17, W51_c19, W51_c20, W51_c21, W51_c22, W51_c23, W51_c24, W51_c25, W51_c26, W51_c27, W51_c28, W51_c29, W51_c30, W51_c31, W51_c32, W51_c33, W51_l11, retW_eq]
theorem sp_trt : Am.Spec Try.prog 34 [.agg (encT wKn), .int .i64 0, .int .i64 0, .int .i64 0] (.bool true) := by
  refine Am.Spec.of_W (W := W34) Try.func34 (by kernel_rfl) (by kernel_rfl) (by kernel_rfl) Try.ntmps34 W34_eq (rs := [.tmp 8]) (by kernel_rfl) (by simp) ?_
  intro vs
  simp [W34, W34_rs, W34_c1]
  refine scall_pure sp_rgt (by simp) (by simp) ?_
  simp [W34, W34_rs, W34_c1, retW_eq]
end Go.Proofs.Ytkagfenchknjjaa
set_option linter.unusedVariables false
set_option linter.unusedSimpArgs false
namespace Go.Proofs.Ytkagfenchknjjaa
open Go Go.Am Go.RowKit

theorem encT_wKn : encT wKn = [.int .i64 14, .int .i64 3, .int .i64 (-1), .str ⟨#[112, 97, 121]⟩, .int .i64 0, .int .i64 0, .str ⟨#[]⟩, .sl [], .sl []] := by simp [wKn, encT_mk, Ex.zero, encE_mk, payS]
theorem skip_norm : Tm.skip.norm = .skip := Tm.norm_else (by simp [Tm.skip, Tm.of]) (by simp [Tm.skip, Tm.of])
theorem sp_kn5 : Am.Spec Try.prog 32 [] (.bool true) := by
  have hw := sp_wts (Tm.of 12 [wKn, .skip]) (by decide +kernel)
  rw [show (Tm.of 12 [wKn, .skip]).waits = [3] by decide +kernel] at hw
  have hn := sp_nrm (Tm.of 7 [.skip]) (by decide +kernel)
  rw [show (Tm.of 7 [.skip]).norm = .skip by rw [Tm.norm_one (x := .skip) rfl, skip_norm]; rfl] at hn
  have hz := sp_sz (Tm.of 7 [.skip]) (by decide +kernel)
  rw [show (Tm.of 7 [.skip]).size = 2 by decide +kernel] at hz
  have hs := sp_sam .skip .skip (by decide +kernel)
  rw [(Tm.same_iff .skip .skip).2 rfl] at hs
  have hr := sp_trt
  simp only [encT_of, List.map_cons, List.map_nil, encT_wKn, encT_skip] at hw hn hz hs hr
  refine Am.Spec.of_W (W := W32) Try.func32 (by kernel_rfl) (by kernel_rfl) (by kernel_rfl) Try.ntmps32 W32_eq (rs := [.tmp 0]) (by kernel_rfl) (by simp) ?_
  intro vs
  simp [W32, W32_rs, W32_c1, W32_c2, W32_c3, W32_c4, W32_c5, W32_c6, W32_c7, W32_c8, W32_c9, W32_c10, W32_c11, W32_c12, W32_c13, W32_c14, W32_c15]
  refine scall_pure hw (by simp) (by simp) ?_
  simp [W32, W32_rs, W32_c1, W32_c2, W32_c3, W32_c4, W32_c5, W32_c6, W32_c7, W32_c8, W32_c9, W32_c10, W32_c11, W32_c12, W32_c13, W32_c14, W32_c15]
  refine scall_pure hn (by simp) (by simp) ?_
  simp [W32, W32_rs, W32_c1, W32_c2, W32_c3, W32_c4, W32_c5, W32_c6, W32_c7, W32_c8, W32_c9, W32_c10, W32_c11, W32_c12, W32_c13, W32_c14, W32_c15]
  refine scall_pure hs (by simp) (by simp) ?_
  simp [W32, W32_rs, W32_c1, W32_c2, W32_c3, W32_c4, W32_c5, W32_c6, W32_c7, W32_c8, W32_c9, W32_c10, W32_c11, W32_c12, W32_c13, W32_c14, W32_c15]
  refine scall_pure hz (by simp) (by simp) ?_
  simp [W32, W32_rs, W32_c1, W32_c2, W32_c3, W32_c4, W32_c5, W32_c6, W32_c7, W32_c8, W32_c9, W32_c10, W32_c11, W32_c12, W32_c13, W32_c14, W32_c15]
  refine scall_pure hr (by simp) (by simp) ?_
  simp [W32, W32_rs, W32_c1, W32_c2, W32_c3, W32_c4, W32_c5, W32_c6, W32_c7, W32_c8, W32_c9, W32_c10, W32_c11, W32_c12, W32_c13, W32_c14, W32_c15, retW_eq]
end Go.Proofs.Ytkagfenchknjjaa
