import Derived.Test.YtkagfenchknjjaaAmSimp
import Derived.Test.YtkagfenchknjjaaProg
import Derived.KernelRfl
set_option linter.unusedVariables false
namespace Go.Proofs.Ytkagfenchknjjaa
open Go Go.Am
-- 20 "penance/penancelaw7.known"
def W20_c1 (P : Program) (Φ : Exit → St → Prop) (s : St) : Prop :=
  @sOp (some 45) (xPick (s.τ 41) (s.τ 44) (.bool false) s.H) s <| .mk fun s =>
  @sOp (some 0) (xMov (s.τ 45) s.H) s <| .mk fun s =>
  Φ .ret s
def W20_c2 (P : Program) (Φ : Exit → St → Prop) (s : St) : Prop :=
  @sGrd (guardOf (s.τ 41) true) (some 44) s ⟨fun s K => @sOp (some 44) (xBin .eql false (s.τ 43) (.int .i64 0) s.H) s ⟨K⟩⟩ ⟨W20_c1 P Φ⟩
def W20_c3 (P : Program) (Φ : Exit → St → Prop) (s : St) : Prop :=
  @sGrd (guardOf (s.τ 41) true) (some 43) s ⟨fun s K => @sCall P (.func 30 []) [(s.τ 42)] (some 43) s ⟨K⟩⟩ ⟨W20_c2 P Φ⟩
def W20_c4 (P : Program) (Φ : Exit → St → Prop) (s : St) : Prop :=
  @sOp (some 40) (xPick (s.τ 33) (s.τ 39) (.bool false) s.H) s <| .mk fun s =>
  @sOp (some 41) (xMov (s.τ 40) s.H) s <| .mk fun s =>
  @sGrd (guardOf (s.τ 41) true) (some 42) s ⟨fun s K => @sOp (some 42) (xLoad 9 true (s.τ 1) s.H) s ⟨K⟩⟩ ⟨W20_c3 P Φ⟩
def W20_c5 (P : Program) (Φ : Exit → St → Prop) (s : St) : Prop :=
  @sGrd (guardOf (s.τ 33) true) (some 39) s ⟨fun s K => @sOp (some 39) (xBin .eql false (s.τ 38) (.int .i64 1) s.H) s ⟨K⟩⟩ ⟨W20_c4 P Φ⟩
def W20_c6 (P : Program) (Φ : Exit → St → Prop) (s : St) : Prop :=
  @sGrd (guardOf (s.τ 33) true) (some 38) s ⟨fun s K => @sOp (some 38) (xLen (s.τ 37) s.H) s ⟨K⟩⟩ ⟨W20_c5 P Φ⟩
def W20_c7 (P : Program) (Φ : Exit → St → Prop) (s : St) : Prop :=
  @sGrd (guardOf (s.τ 33) true) (some 37) s ⟨fun s K => @sOp (some 37) (xLoad 1 false (s.τ 36) s.H) s ⟨K⟩⟩ ⟨W20_c6 P Φ⟩
def W20_c8 (P : Program) (Φ : Exit → St → Prop) (s : St) : Prop :=
  @sGrd (guardOf (s.τ 33) true) (some 36) s ⟨fun s K => @sOp (some 36) (xFld 1 (s.τ 35) s.H) s ⟨K⟩⟩ ⟨W20_c7 P Φ⟩
def W20_c9 (P : Program) (Φ : Exit → St → Prop) (s : St) : Prop :=
  @sGrd (guardOf (s.τ 33) true) (some 35) s ⟨fun s K => @sOp (some 35) (xIx 3 (s.τ 34) (.int .i64 0) s.H) s ⟨K⟩⟩ ⟨W20_c8 P Φ⟩
def W20_c10 (P : Program) (Φ : Exit → St → Prop) (s : St) : Prop :=
  @sOp (some 32) (xPick (s.τ 26) (s.τ 31) (.bool false) s.H) s <| .mk fun s =>
  @sOp (some 33) (xMov (s.τ 32) s.H) s <| .mk fun s =>
  @sGrd (guardOf (s.τ 33) true) (some 34) s ⟨fun s K => @sOp (some 34) (xMov (s.τ 2) s.H) s ⟨K⟩⟩ ⟨W20_c9 P Φ⟩
def W20_c11 (P : Program) (Φ : Exit → St → Prop) (s : St) : Prop :=
  @sGrd (guardOf (s.τ 26) true) (some 31) s ⟨fun s K => @sOp (some 31) (xBin .eql false (s.τ 30) (.int .i64 1) s.H) s ⟨K⟩⟩ ⟨W20_c10 P Φ⟩
def W20_c12 (P : Program) (Φ : Exit → St → Prop) (s : St) : Prop :=
  @sGrd (guardOf (s.τ 26) true) (some 30) s ⟨fun s K => @sOp (some 30) (xLoad 1 false (s.τ 29) s.H) s ⟨K⟩⟩ ⟨W20_c11 P Φ⟩
def W20_c13 (P : Program) (Φ : Exit → St → Prop) (s : St) : Prop :=
  @sGrd (guardOf (s.τ 26) true) (some 29) s ⟨fun s K => @sOp (some 29) (xFld 2 (s.τ 28) s.H) s ⟨K⟩⟩ ⟨W20_c12 P Φ⟩
def W20_c14 (P : Program) (Φ : Exit → St → Prop) (s : St) : Prop :=
  @sGrd (guardOf (s.τ 26) true) (some 28) s ⟨fun s K => @sOp (some 28) (xIx 3 (s.τ 27) (.int .i64 1) s.H) s ⟨K⟩⟩ ⟨W20_c13 P Φ⟩
def W20_c15 (P : Program) (Φ : Exit → St → Prop) (s : St) : Prop :=
  @sOp (some 25) (xPick (s.τ 21) (s.τ 24) (.bool false) s.H) s <| .mk fun s =>
  @sOp (some 26) (xMov (s.τ 25) s.H) s <| .mk fun s =>
  @sGrd (guardOf (s.τ 26) true) (some 27) s ⟨fun s K => @sOp (some 27) (xMov (s.τ 2) s.H) s ⟨K⟩⟩ ⟨W20_c14 P Φ⟩
def W20_c16 (P : Program) (Φ : Exit → St → Prop) (s : St) : Prop :=
  @sGrd (guardOf (s.τ 21) true) (some 24) s ⟨fun s K => @sOp (some 24) (xBin .eql false (s.τ 23) (.int .i64 2) s.H) s ⟨K⟩⟩ ⟨W20_c15 P Φ⟩
def W20_c17 (P : Program) (Φ : Exit → St → Prop) (s : St) : Prop :=
  @sGrd (guardOf (s.τ 21) true) (some 23) s ⟨fun s K => @sOp (some 23) (xLen (s.τ 22) s.H) s ⟨K⟩⟩ ⟨W20_c16 P Φ⟩
def W20_c18 (P : Program) (Φ : Exit → St → Prop) (s : St) : Prop :=
  @sOp (some 20) (xPick (s.τ 16) (s.τ 19) (.bool false) s.H) s <| .mk fun s =>
  @sOp (some 21) (xMov (s.τ 20) s.H) s <| .mk fun s =>
  @sGrd (guardOf (s.τ 21) true) (some 22) s ⟨fun s K => @sOp (some 22) (xMov (s.τ 2) s.H) s ⟨K⟩⟩ ⟨W20_c17 P Φ⟩
def W20_c19 (P : Program) (Φ : Exit → St → Prop) (s : St) : Prop :=
  @sGrd (guardOf (s.τ 16) true) (some 19) s ⟨fun s K => @sOp (some 19) (xBin .eql false (s.τ 18) (.int .i64 2) s.H) s ⟨K⟩⟩ ⟨W20_c18 P Φ⟩
def W20_c20 (P : Program) (Φ : Exit → St → Prop) (s : St) : Prop :=
  @sGrd (guardOf (s.τ 16) true) (some 18) s ⟨fun s K => @sCall P (.func 30 []) [(s.τ 17)] (some 18) s ⟨K⟩⟩ ⟨W20_c19 P Φ⟩
def W20_c21 (P : Program) (Φ : Exit → St → Prop) (s : St) : Prop :=
  @sOp (some 14) (xLen (s.τ 13) s.H) s <| .mk fun s =>
  @sOp (some 15) (xBin .eql false (s.τ 14) (.int .i64 0) s.H) s <| .mk fun s =>
  @sOp (some 16) (xMov (s.τ 15) s.H) s <| .mk fun s =>
  @sGrd (guardOf (s.τ 16) true) (some 17) s ⟨fun s K => @sOp (some 17) (xBuild [.int .i64 0, .int .i64 0, .int .i64 0, .str ⟨#[]⟩, .int .i64 0, .int .i64 0, .str ⟨#[]⟩, .nils, .nils] [] s.H) s ⟨K⟩⟩ ⟨W20_c20 P Φ⟩
def W20_c22 (P : Program) (Φ : Exit → St → Prop) (s : St) : Prop :=
  @sOp (some 2) (xMov (s.τ 11) s.H) s <| .mk fun s =>
  @sOp (some 12) (xBuild [.int .i64 0, .int .i64 0, .int .i64 0, .str ⟨#[]⟩, .int .i64 0, .int .i64 0, .str ⟨#[]⟩, .nils, .nils] [] s.H) s <| .mk fun s =>
  @sCall P (.func 24 []) [(s.τ 12)] (some 13) s ⟨W20_c21 P Φ⟩
def W20 (P : Program) (Φ : Exit → St → Prop) (s : St) : Prop :=
  @sOp (some 0) (xMov (.bool false) s.H) s <| .mk fun s =>
  @sOp (some 3) (xBuild [.int .i64 0, .int .i64 0, .int .i64 0, .str ⟨#[]⟩, .int .i64 0, .int .i64 0, .str ⟨#[]⟩, .nils, .nils] [] s.H) s <| .mk fun s =>
  @sOp (some 4) (xBuild [.int .i64 0, .int .i64 0, .int .i64 0, .str ⟨#[]⟩, .int .i64 0, .int .i64 0, .str ⟨#[]⟩, .nils, .nils] [] s.H) s <| .mk fun s =>
  @sOp (some 5) (xLit 9 2 [.int .i64 0, .int .i64 0, .int .i64 0, .str ⟨#[]⟩, .int .i64 0, .int .i64 0, .str ⟨#[]⟩, .nils, .nils] [(0, (s.τ 3)), (1, (s.τ 4))] s.H) s <| .mk fun s =>
  @sOp (some 6) (xBuild [.int .i64 0, .int .i64 0, .int .i64 0, .str ⟨#[]⟩, .int .i64 0, .int .i64 0, .str ⟨#[]⟩, .nils, .nils] [(0, 1, (.int .i64 10)), (8, 1, (s.τ 5))] s.H) s <| .mk fun s =>
  @sOp (some 1) (xAlloc 1 34 [.int .i64 0, .int .i64 0, .int .i64 0, .str ⟨#[]⟩, .int .i64 0, .int .i64 0, .str ⟨#[]⟩, .nils, .nils] s.H) s <| .mk fun s =>
  @sOp none (xStore 9 (s.τ 1) (s.τ 6) s.H) s <| .mk fun s =>
  @sOp (some 7) (xLoad 9 true (s.τ 1) s.H) s <| .mk fun s =>
  @sOp (some 8) (xBuild [.int .i64 0, .int .i64 0, .int .i64 0, .str ⟨#[]⟩, .int .i64 0, .int .i64 0, .str ⟨#[]⟩, .nils, .nils] [] s.H) s <| .mk fun s =>
  @sOp (some 9) (xLit 9 2 [.int .i64 0, .int .i64 0, .int .i64 0, .str ⟨#[]⟩, .int .i64 0, .int .i64 0, .str ⟨#[]⟩, .nils, .nils] [(0, (s.τ 7)), (1, (s.τ 8))] s.H) s <| .mk fun s =>
  @sOp (some 10) (xBuild [.int .i64 0, .int .i64 0, .int .i64 0, .str ⟨#[]⟩, .int .i64 0, .int .i64 0, .str ⟨#[]⟩, .nils, .nils] [(0, 1, (.int .i64 12)), (8, 1, (s.τ 9))] s.H) s <| .mk fun s =>
  @sCall P (.func 24 []) [(s.τ 10)] (some 11) s ⟨W20_c22 P Φ⟩
theorem W20_rs (τ : Nat → AV) (H : Heap) : resV Try.prog τ H [.tmp 0] = some (τ 0) := by kernel_rfl
theorem W20_eq (Φ : Exit → St → Prop) (s : St) : awp Try.prog (Try.f20.body.getD .skip) Φ s = W20 Try.prog Φ s := by kernel_rfl


end Go.Proofs.Ytkagfenchknjjaa
