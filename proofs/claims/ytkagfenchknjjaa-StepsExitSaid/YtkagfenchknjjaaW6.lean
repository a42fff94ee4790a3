import Derived.Test.YtkagfenchknjjaaAmSimp
import Derived.Test.YtkagfenchknjjaaProg
import Derived.KernelRfl
set_option linter.unusedVariables false
namespace Go.Proofs.Ytkagfenchknjjaa
open Go Go.Am
-- 48 "penance/steps.places"

def W48 (P : Program) (Φ : Exit → St → Prop) (s : St) : Prop :=
  @sOp (some 1) (xBox 1 34 (s.τ 0) s.H) s <| .mk fun s =>
  @sOp (some 2) (xMov (.nilf) s.H) s <| .mk fun s =>
  @sOp (some 3) (xMkf 71 [(s.τ 1)] s.H) s <| .mk fun s =>
  @sOp (some 2) (xMov (s.τ 3) s.H) s <| .mk fun s =>
  Φ .ret s
theorem W48_rs (τ : Nat → AV) (H : Heap) : resV Try.prog τ H [.tmp 2] = some (τ 2) := by kernel_rfl
theorem W48_eq (Φ : Exit → St → Prop) (s : St) : awp Try.prog (Try.f48.body.getD .skip) Φ s = W48 Try.prog Φ s := by kernel_rfl

-- 49 "slices.Clone[[]int,int]"
def W49_b1 (P : Program) (Φ : Exit → St → Prop) (s : St) : Prop :=
  @sOp (some 2) (xMov (.nils) s.H) s <| .mk fun s =>
  Φ .ret s
def W49_b2 (P : Program) (Φ : Exit → St → Prop) (s : St) : Prop :=
  @sOp (some 5) (xRow 5 3 1 0 [.int .i64 0] [] s.H) s <| .mk fun s =>
  @sOp (some 6) (xMov (s.τ 0) s.H) s <| .mk fun s =>
  @sOp (some 7) (xApp P 3 1 8 (some 7) (s.τ 5) (s.τ 6) s.H) s <| .mk fun s =>
  @sOp (some 2) (xMov (s.τ 7) s.H) s <| .mk fun s =>
  Φ .ret s
def W49_c3 (P : Program) (Φ : Exit → St → Prop) (s : St) : Prop :=
  @sIf (s.τ 4) ⟨W49_b1 P Φ s⟩ ⟨W49_b2 P Φ s⟩
def W49 (P : Program) (Φ : Exit → St → Prop) (s : St) : Prop :=
  @sOp (some 2) (xMov (.nils) s.H) s <| .mk fun s =>
  @sOp (some 3) (xMov (s.τ 0) s.H) s <| .mk fun s =>
  @sNil false (s.τ 3) (some 4) s ⟨W49_c3 P Φ⟩
theorem W49_rs (τ : Nat → AV) (H : Heap) : resV Try.prog τ H [.tmp 2] = some (τ 2) := by kernel_rfl
theorem W49_eq (Φ : Exit → St → Prop) (s : St) : awp Try.prog (Try.f49.body.getD .skip) Φ s = W49 Try.prog Φ s := by kernel_rfl

-- 50 "slices.Clone[[]penance/api.Step,penance/api.Step]"
def W50_b1 (P : Program) (Φ : Exit → St → Prop) (s : St) : Prop :=
  @sOp (some 2) (xMov (.nils) s.H) s <| .mk fun s =>
  Φ .ret s
def W50_b2 (P : Program) (Φ : Exit → St → Prop) (s : St) : Prop :=
  @sOp (some 5) (xRow 5 43 3 0 [.int .i64 0, .nils, .int .i64 0] [] s.H) s <| .mk fun s =>
  @sOp (some 6) (xMov (s.τ 0) s.H) s <| .mk fun s =>
  @sOp (some 7) (xApp P 43 3 40 (some 7) (s.τ 5) (s.τ 6) s.H) s <| .mk fun s =>
  @sOp (some 2) (xMov (s.τ 7) s.H) s <| .mk fun s =>
  Φ .ret s
def W50_c3 (P : Program) (Φ : Exit → St → Prop) (s : St) : Prop :=
  @sIf (s.τ 4) ⟨W50_b1 P Φ s⟩ ⟨W50_b2 P Φ s⟩
def W50 (P : Program) (Φ : Exit → St → Prop) (s : St) : Prop :=
  @sOp (some 2) (xMov (.nils) s.H) s <| .mk fun s =>
  @sOp (some 3) (xMov (s.τ 0) s.H) s <| .mk fun s =>
  @sNil false (s.τ 3) (some 4) s ⟨W50_c3 P Φ⟩
theorem W50_rs (τ : Nat → AV) (H : Heap) : resV Try.prog τ H [.tmp 2] = some (τ 2) := by kernel_rfl
theorem W50_eq (Φ : Exit → St → Prop) (s : St) : awp Try.prog (Try.f50.body.getD .skip) Φ s = W50 Try.prog Φ s := by kernel_rfl


end Go.Proofs.Ytkagfenchknjjaa
