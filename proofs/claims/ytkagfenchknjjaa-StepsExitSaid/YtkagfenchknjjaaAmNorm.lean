import Derived.Test.YtkagfenchknjjaaAmSimp
set_option linter.unusedVariables false
set_option linter.unusedSimpArgs false
namespace Go.Am
open Go.RowKit

/-! ### Nil slices deep in values are empty rows -/
mutual
def nrm : AV → AV
  | .nils => .sl []
  | .agg cs => .agg (nrmL cs)
  | .sl rows => .sl (nrmLL rows)
  | a => a
def nrmL : List AV → List AV
  | [] => []
  | a :: l => nrm a :: nrmL l
def nrmLL : List (List AV) → List (List AV)
  | [] => []
  | r :: l => nrmL r :: nrmLL l
end
theorem nrmL_map : ∀ l, nrmL l = l.map nrm
  | [] => rfl
  | a :: l => by simp [nrmL, nrmL_map l]
theorem nrmLL_map : ∀ l, nrmLL l = l.map nrmL
  | [] => rfl
  | a :: l => by simp [nrmLL, nrmLL_map l]
theorem R.nrm {C : Ctx} {a : AV} {v : Value} (h : R C a v) : R C (Am.nrm a) v := by
  induction h with
  | agg cs vs hl hh ih =>
    unfold Am.nrm
    refine .agg _ vs (by rw [nrmL_map]; simpa using hl) fun i a ha => ?_
    rw [nrmL_map, List.getElem?_map] at ha
    obtain ⟨b, hb, rfl⟩ := Option.map_eq_some_iff.1 ha
    exact ih i b hb
  | sl rows A cap g off sz f hA hcap hmax hsz hc hone hh ih =>
    unfold Am.nrm
    have e : (nrmLL rows).length = rows.length := by rw [nrmLL_map]; simp
    have := R.sl (C := C) (nrmLL rows) A cap g off sz f (fun hne => hA fun e2 => hne (by rw [e2]; rfl)) (by rw [e]; exact hcap) (by rw [e]; exact hmax) (fun r hr => by
      rw [nrmLL_map] at hr
      obtain ⟨q, hq, rfl⟩ := List.mem_map.1 hr
      rw [nrmL_map, List.length_map]
      exact hsz q hq) (by rw [e]; exact hc) hone (fun i r hr j a ha => by
      rw [nrmLL_map, List.getElem?_map] at hr
      obtain ⟨q, hq, rfl⟩ := Option.map_eq_some_iff.1 hr
      rw [nrmL_map, List.getElem?_map] at ha
      obtain ⟨b, hb, rfl⟩ := Option.map_eq_some_iff.1 ha
      exact ih i q hq j b hb)
    rw [e] at this
    exact this
  | nils => exact R.nil_sl .nils
  | _ => first | exact R.any _ | (unfold Am.nrm; constructor <;> assumption)
theorem Spec.nrm {P : Program} {f : FuncId} {args : List AV} {r : AV} (h : Spec P f (nrmL args) r) : Spec P f args r where
  enters := h.enters
  calls := fun w S l vs hS hR => h.calls w S l vs hS ⟨by rw [nrmL_map]; simpa using hR.1, fun i a ha => by
    rw [nrmL_map, List.getElem?_map] at ha
    obtain ⟨b, hb, rfl⟩ := Option.map_eq_some_iff.1 ha
    exact (hR.2 i b hb).nrm⟩
section
variable {P : Program} {f : FuncId} {args caps args' : List AV} {d : Option Nat} {s : St} {K : Kt (St → Prop)} {r : AV}
theorem scall_nrm (h : Spec P f args' r) (e : nrmL ((args ++ caps).map (pur (frzs s.H args))) = args') (hc : closedL ((args ++ caps).map (pur (frzs s.H args))) = true) (k : K.v (s.put d r (frzs s.H args))) : @sCall P (.func f caps) args d s K :=
  scall_pure (Spec.nrm (by rw [e]; exact h)) rfl hc k
end
end Go.Am
