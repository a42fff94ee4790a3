import Derived.Test.YtkagfenchknjjaaAmSimp
import Derived.Test.YtkagfenchknjjaaProg
import Derived.KernelRfl
set_option linter.unusedVariables false
namespace Go.Proofs.Ytkagfenchknjjaa
open Go Go.Am
-- 5 "penance/penancelaw7.StepsExit"
def W5_b1 (P : Program) (Φ : Exit → St → Prop) (s : St) : Prop :=
  @sOp (some 6) (xMov (.bool false) s.H) s <| .mk fun s =>
  Φ .ret s
def W5_c2 (P : Program) (Φ : Exit → St → Prop) (s : St) : Prop :=
  @sOp (some 59) (xPick (s.τ 54) (s.τ 58) (.bool false) s.H) s <| .mk fun s =>
  @sOp (some 6) (xMov (s.τ 59) s.H) s <| .mk fun s =>
  Φ .ret s
def W5_c3 (P : Program) (Φ : Exit → St → Prop) (s : St) : Prop :=
  @sGrd (guardOf (s.τ 54) true) (some 58) s ⟨fun s K => @sOp (some 58) (xBin .eql false (s.τ 56) (s.τ 57) s.H) s ⟨K⟩⟩ ⟨W5_c2 P Φ⟩
def W5_c4 (P : Program) (Φ : Exit → St → Prop) (s : St) : Prop :=
  @sGrd (guardOf (s.τ 54) true) (some 57) s ⟨fun s K => @sOp (some 57) (xMov (s.τ 11) s.H) s ⟨K⟩⟩ ⟨W5_c3 P Φ⟩
def W5_c5 (P : Program) (Φ : Exit → St → Prop) (s : St) : Prop :=
  @sGrd (guardOf (s.τ 54) true) (some 56) s ⟨fun s K => @sCall P (.func 30 []) [(s.τ 55)] (some 56) s ⟨K⟩⟩ ⟨W5_c4 P Φ⟩
def W5_c6 (P : Program) (Φ : Exit → St → Prop) (s : St) : Prop :=
  @sOp (some 53) (xPick (s.τ 49) (s.τ 52) (.bool false) s.H) s <| .mk fun s =>
  @sOp (some 54) (xMov (s.τ 53) s.H) s <| .mk fun s =>
  @sGrd (guardOf (s.τ 54) true) (some 55) s ⟨fun s K => @sOp (some 55) (xLoad 9 true (s.τ 8) s.H) s ⟨K⟩⟩ ⟨W5_c5 P Φ⟩
def W5_c7 (P : Program) (Φ : Exit → St → Prop) (s : St) : Prop :=
  @sGrd (guardOf (s.τ 49) true) (some 52) s ⟨fun s K => @sOp (some 52) (xBin .leq false (s.τ 51) (.int .i64 1) s.H) s ⟨K⟩⟩ ⟨W5_c6 P Φ⟩
def W5_c8 (P : Program) (Φ : Exit → St → Prop) (s : St) : Prop :=
  @sGrd (guardOf (s.τ 49) true) (some 51) s ⟨fun s K => @sOp (some 51) (xLen (s.τ 50) s.H) s ⟨K⟩⟩ ⟨W5_c7 P Φ⟩
def W5_k9 (P : Program) (Φ : Exit → St → Prop) (s : St) : Prop :=
  @sOp (some 43) (xMov (s.τ 10) s.H) s <| .mk fun s =>
  @sOp (some 44) (xLen (s.τ 43) s.H) s <| .mk fun s =>
  @sOp (some 45) (xBin .eql false (s.τ 44) (.int .i64 1) s.H) s <| .mk fun s =>
  @sOp (some 46) (xMov (s.τ 0) s.H) s <| .mk fun s =>
  @sOp (some 47) (xNot (s.τ 46) s.H) s <| .mk fun s =>
  @sOp (some 48) (xBin .eql true (s.τ 45) (s.τ 47) s.H) s <| .mk fun s =>
  @sOp (some 49) (xMov (s.τ 48) s.H) s <| .mk fun s =>
  @sGrd (guardOf (s.τ 49) true) (some 50) s ⟨fun s K => @sOp (some 50) (xMov (s.τ 10) s.H) s ⟨K⟩⟩ ⟨W5_c8 P Φ⟩
def W5_b10 (P : Program) (Φ : Exit → St → Prop) (s : St) : Prop :=
  @sOp (some 11) (xMov (.int .i64 1) s.H) s <| .mk fun s =>
  W5_k9 P Φ s
def W5_c11 (P : Program) (Φ : Exit → St → Prop) (s : St) : Prop :=
  @sOp (some 10) (xMov (s.τ 41) s.H) s <| .mk fun s =>
  @sOp (some 11) (xMov (.int .i64 0) s.H) s <| .mk fun s =>
  @sOp (some 42) (xMov (s.τ 0) s.H) s <| .mk fun s =>
  @sIf (s.τ 42) ⟨W5_b10 P Φ s⟩ ⟨W5_k9 P Φ s⟩
def W5_k12 (P : Program) (Φ : Exit → St → Prop) (s : St) : Prop :=
  @sOp (some 40) (xLoad 9 true (s.τ 8) s.H) s <| .mk fun s =>
  @sCall P (.func 24 []) [(s.τ 40)] (some 41) s ⟨W5_c11 P Φ⟩
def W5_b13 (P : Program) (Φ : Exit → St → Prop) (s : St) : Prop :=
  @sOp (some 35) (xFld 1 (s.τ 7) s.H) s <| .mk fun s =>
  @sOp none (xStore 1 (s.τ 35) (.int .i64 1) s.H) s <| .mk fun s =>
  @sOp (some 36) (xLoad 9 true (s.τ 7) s.H) s <| .mk fun s =>
  @sOp (some 37) (xLoad 9 true (s.τ 8) s.H) s <| .mk fun s =>
  @sOp (some 38) (xLit 9 2 [.int .i64 0, .int .i64 0, .int .i64 0, .str ⟨#[]⟩, .int .i64 0, .int .i64 0, .str ⟨#[]⟩, .nils, .nils] [(0, (s.τ 36)), (1, (s.τ 37))] s.H) s <| .mk fun s =>
  @sOp (some 39) (xBuild [.int .i64 0, .int .i64 0, .int .i64 0, .str ⟨#[]⟩, .int .i64 0, .int .i64 0, .str ⟨#[]⟩, .nils, .nils] [(0, 1, (.int .i64 11)), (8, 1, (s.τ 38))] s.H) s <| .mk fun s =>
  @sOp none (xStore 9 (s.τ 8) (s.τ 39) s.H) s <| .mk fun s =>
  W5_k12 P Φ s
def W5_k14 (P : Program) (Φ : Exit → St → Prop) (s : St) : Prop :=
  @sOp (some 31) (xLoad 9 true (s.τ 8) s.H) s <| .mk fun s =>
  @sOp (some 32) (xLit 9 1 [.int .i64 0, .int .i64 0, .int .i64 0, .str ⟨#[]⟩, .int .i64 0, .int .i64 0, .str ⟨#[]⟩, .nils, .nils] [(0, (s.τ 31))] s.H) s <| .mk fun s =>
  @sOp (some 33) (xBuild [.int .i64 0, .int .i64 0, .int .i64 0, .str ⟨#[]⟩, .int .i64 0, .int .i64 0, .str ⟨#[]⟩, .nils, .nils] [(0, 1, (.int .i64 7)), (8, 1, (s.τ 32))] s.H) s <| .mk fun s =>
  @sOp none (xStore 9 (s.τ 8) (s.τ 33) s.H) s <| .mk fun s =>
  @sOp (some 34) (xMov (s.τ 1) s.H) s <| .mk fun s =>
  @sIf (s.τ 34) ⟨W5_b13 P Φ s⟩ ⟨W5_k12 P Φ s⟩
def W5_b15 (P : Program) (Φ : Exit → St → Prop) (L0 : St → Prop) (s : St) : Prop :=
  @sOp (some 27) (xLoad 9 true (s.τ 8) s.H) s <| .mk fun s =>
  @sOp (some 28) (xBuild [.int .i64 0, .int .i64 0, .int .i64 0, .str ⟨#[]⟩, .int .i64 0, .int .i64 0, .str ⟨#[]⟩, .nils, .nils] [(0, 1, (.int .i64 8))] s.H) s <| .mk fun s =>
  @sOp (some 29) (xLit 9 2 [.int .i64 0, .int .i64 0, .int .i64 0, .str ⟨#[]⟩, .int .i64 0, .int .i64 0, .str ⟨#[]⟩, .nils, .nils] [(0, (s.τ 27)), (1, (s.τ 28))] s.H) s <| .mk fun s =>
  @sOp (some 30) (xBuild [.int .i64 0, .int .i64 0, .int .i64 0, .str ⟨#[]⟩, .int .i64 0, .int .i64 0, .str ⟨#[]⟩, .nils, .nils] [(0, 1, (.int .i64 12)), (8, 1, (s.τ 29))] s.H) s <| .mk fun s =>
  @sOp none (xStore 9 (s.τ 8) (s.τ 30) s.H) s <| .mk fun s =>
  @sOp (some 25) (xMov (s.τ 9) s.H) s <| .mk fun s =>
  @sOp (some 26) (xBin .add false (s.τ 25) (.int .i64 1) s.H) s <| .mk fun s =>
  @sOp (some 9) (xMov (s.τ 26) s.H) s <| .mk fun s =>
  L0 s
def W5_c16 (P : Program) (Φ : Exit → St → Prop) (L0 : St → Prop) (s : St) : Prop :=
  @sOp (some 24) (xBin .lss false (s.τ 21) (s.τ 23) s.H) s <| .mk fun s =>
  @sIf (s.τ 24) ⟨W5_b15 P Φ L0 s⟩ ⟨W5_k14 P Φ s⟩
def W5_l17 (P : Program) (Φ : Exit → St → Prop) (L0 : St → Prop) (s : St) : Prop :=
  @sOp (some 21) (xMov (s.τ 9) s.H) s <| .mk fun s =>
  @sOp (some 22) (xMov (s.τ 2) s.H) s <| .mk fun s =>
  @sCall P (.func 29 []) [(s.τ 22), (.int .i64 4)] (some 23) s ⟨W5_c16 P Φ L0⟩
def W5_k18 (P : Program) (Φ : Exit → St → Prop) (s : St) : Prop :=
  @sOp (some 9) (xMov (.int .i64 0) s.H) s <| .mk fun s =>
  @sLoop s ⟨fun L0 s => W5_l17 P Φ L0 s⟩
def W5_b19 (P : Program) (Φ : Exit → St → Prop) (s : St) : Prop :=
  @sOp (some 17) (xLoad 9 true (s.τ 8) s.H) s <| .mk fun s =>
  @sOp (some 18) (xLoad 9 true (s.τ 7) s.H) s <| .mk fun s =>
  @sOp (some 19) (xLit 9 2 [.int .i64 0, .int .i64 0, .int .i64 0, .str ⟨#[]⟩, .int .i64 0, .int .i64 0, .str ⟨#[]⟩, .nils, .nils] [(0, (s.τ 17)), (1, (s.τ 18))] s.H) s <| .mk fun s =>
  @sOp (some 20) (xBuild [.int .i64 0, .int .i64 0, .int .i64 0, .str ⟨#[]⟩, .int .i64 0, .int .i64 0, .str ⟨#[]⟩, .nils, .nils] [(0, 1, (.int .i64 11)), (8, 1, (s.τ 19))] s.H) s <| .mk fun s =>
  @sOp none (xStore 9 (s.τ 8) (s.τ 20) s.H) s <| .mk fun s =>
  W5_k18 P Φ s
def W5_b20 (P : Program) (Φ : Exit → St → Prop) (s : St) : Prop :=
  @sOp (some 14) (xBuild [.int .i64 0, .int .i64 0, .int .i64 0, .str ⟨#[]⟩, .int .i64 0, .int .i64 0, .str ⟨#[]⟩, .nils, .nils] [(0, 1, (.int .i64 14)), (2, 1, (.int .i64 (-1))), (3, 1, (.str ⟨#[112, 97, 121]⟩))] s.H) s <| .mk fun s =>
  @sOp (some 7) (xAlloc 7 34 [.int .i64 0, .int .i64 0, .int .i64 0, .str ⟨#[]⟩, .int .i64 0, .int .i64 0, .str ⟨#[]⟩, .nils, .nils] s.H) s <| .mk fun s =>
  @sOp none (xStore 9 (s.τ 7) (s.τ 14) s.H) s <| .mk fun s =>
  @sOp (some 15) (xBuild [.int .i64 0, .int .i64 0, .int .i64 0, .str ⟨#[]⟩, .int .i64 0, .int .i64 0, .str ⟨#[]⟩, .nils, .nils] [(0, 1, (.int .i64 8))] s.H) s <| .mk fun s =>
  @sOp (some 8) (xAlloc 8 34 [.int .i64 0, .int .i64 0, .int .i64 0, .str ⟨#[]⟩, .int .i64 0, .int .i64 0, .str ⟨#[]⟩, .nils, .nils] s.H) s <| .mk fun s =>
  @sOp none (xStore 9 (s.τ 8) (s.τ 15) s.H) s <| .mk fun s =>
  @sOp (some 16) (xMov (s.τ 0) s.H) s <| .mk fun s =>
  @sIf (s.τ 16) ⟨W5_b19 P Φ s⟩ ⟨W5_k18 P Φ s⟩
def W5_c21 (P : Program) (Φ : Exit → St → Prop) (s : St) : Prop :=
  @sOp (some 13) (xNot (s.τ 12) s.H) s <| .mk fun s =>
  @sIf (s.τ 13) ⟨W5_b1 P Φ s⟩ ⟨W5_b20 P Φ s⟩
def W5 (P : Program) (Φ : Exit → St → Prop) (s : St) : Prop :=
  @sOp (some 6) (xMov (.bool false) s.H) s <| .mk fun s =>
  @sCall P (.func 20 []) [] (some 12) s ⟨W5_c21 P Φ⟩
theorem W5_rs (τ : Nat → AV) (H : Heap) : resV Try.prog τ H [.tmp 6] = some (τ 6) := by kernel_rfl
theorem W5_eq (Φ : Exit → St → Prop) (s : St) : awp Try.prog (Try.f5.body.getD .skip) Φ s = W5 Try.prog Φ s := by kernel_rfl


end Go.Proofs.Ytkagfenchknjjaa
