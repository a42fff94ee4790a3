import Derived.Test.YtkagfenchknjjaaAmSimp
import Derived.Test.YtkagfenchknjjaaProg
import Derived.KernelRfl
set_option linter.unusedVariables false
namespace Go.Proofs.Ytkagfenchknjjaa
open Go Go.Am
-- 71 "penance/steps.places$1"
def W71_c1 (P : Program) (Φ : Exit → St → Prop) (s : St) : Prop :=
  Φ .normal s
def W71_c2 (P : Program) (Φ : Exit → St → Prop) (s : St) : Prop :=
  @sOp (some 6) (xLen (s.τ 5) s.H) s <| .mk fun u4 =>
  @sOp (some 7) (xBin .gtr false (u4.τ 6) (.int .i64 0) u4.H) u4 <| .mk fun u5 =>
  @sOp (some 8) (xBuild [.int .i64 0, .int .i64 0, .int .i64 0, .str ⟨#[]⟩, .int .i64 0, .int .i64 0, .str ⟨#[]⟩, .nils, .nils, .nils, .bool false] [(0, 9, (u5.τ 3)), (9, 1, (.nils)), (10, 1, (u5.τ 7))] u5.H) u5 <| .mk fun u6 =>
  @sOp (some 9) (xMov (u6.τ 0) u6.H) u6 <| .mk fun u7 =>
  @sCall P (.func 72 []) [(u7.τ 8), (u7.τ 9)] (some 10) u7 ⟨W71_c1 P Φ⟩
def W71 (P : Program) (Φ : Exit → St → Prop) (s : St) : Prop :=
  @sOp (some 3) (xLoad 9 true (s.τ 1) s.H) s <| .mk fun u1 =>
  @sOp (some 4) (xLoad 9 true (u1.τ 1) u1.H) u1 <| .mk fun u2 =>
  @sChk (compat (occ (s.τ 1), []) ([5] ++ (occ (.func 41 []) ++ occL [(u2.τ 4)]), [5] ++ (occ (.func 41 []) ++ occL [(u2.τ 4)]))) <| .mk <|
  @sCall0 P (.func 41 []) [(u2.τ 4)] (some 5) u2 ⟨W71_c2 P Φ⟩
theorem W71_rs (τ : Nat → AV) (H : Heap) : resV Try.prog τ H [] = ob (some []) fun vs => some (.tup vs) := by kernel_rfl
theorem W71_eq (Φ : Exit → St → Prop) (s : St) : awp Try.prog (Try.f71.body.getD .skip) Φ s = W71 Try.prog Φ s := by kernel_rfl

-- 72 "penance/steps.walk"
def W72_b1 (P : Program) (Φ : Exit → St → Prop) (s : St) : Prop :=
  @sOp (some 4) (xMov (.bool false) s.H) s <| .mk fun s =>
  Φ .ret s
def W72_k2 (P : Program) (Φ : Exit → St → Prop) (s : St) : Prop :=
  @sOp (some 4) (xMov (.bool true) s.H) s <| .mk fun s =>
  Φ .ret s
def W72_b3 (P : Program) (Φ : Exit → St → Prop) (L0 : St → Prop) (s : St) : Prop :=
  @sOp (some 4) (xMov (.bool false) s.H) s <| .mk fun s =>
  Φ .ret s
def W72_b4 (P : Program) (Φ : Exit → St → Prop) (L0 : St → Prop) (s : St) : Prop :=
  @sOp (some 35) (xBin .add false (s.τ 26) (.int .i64 1) s.H) s <| .mk fun s =>
  @sOp (some 26) (xMov (s.τ 35) s.H) s <| .mk fun s =>
  L0 s
def W72_c5 (P : Program) (Φ : Exit → St → Prop) (L0 : St → Prop) (s : St) : Prop :=
  @sOp (some 34) (xNot (s.τ 33) s.H) s <| .mk fun s =>
  @sIf (s.τ 34) ⟨W72_b3 P Φ L0 s⟩ ⟨W72_b4 P Φ L0 s⟩
def W72_c6 (P : Program) (Φ : Exit → St → Prop) (L0 : St → Prop) (s : St) : Prop :=
  @sOp (some 32) (xMov (s.τ 1) s.H) s <| .mk fun s =>
  @sCall P (.func 72 []) [(s.τ 31), (s.τ 32)] (some 33) s ⟨W72_c5 P Φ L0⟩
def W72_b7 (P : Program) (Φ : Exit → St → Prop) (L0 : St → Prop) (s : St) : Prop :=
  @sOp (some 28) (xMov (s.τ 26) s.H) s <| .mk fun s =>
  @sOp (some 6) (xMov (s.τ 28) s.H) s <| .mk fun s =>
  @sOp (some 29) (xLoad 11 true (s.τ 2) s.H) s <| .mk fun s =>
  @sOp (some 30) (xMov (s.τ 6) s.H) s <| .mk fun s =>
  @sCall P (.func 94 []) [(s.τ 29), (s.τ 30)] (some 31) s ⟨W72_c6 P Φ L0⟩
def W72_l8 (P : Program) (Φ : Exit → St → Prop) (L0 : St → Prop) (s : St) : Prop :=
  @sOp (some 27) (xBin .lss false (s.τ 26) (s.τ 25) s.H) s <| .mk fun s =>
  @sIf (s.τ 27) ⟨W72_b7 P Φ L0 s⟩ ⟨W72_k2 P Φ s⟩
def W72_k9 (P : Program) (Φ : Exit → St → Prop) (s : St) : Prop :=
  @sOp (some 25) (xMov (s.τ 5) s.H) s <| .mk fun s =>
  @sOp (some 26) (xMov (.int .i64 0) s.H) s <| .mk fun s =>
  @sLoop s ⟨fun L0 s => W72_l8 P Φ L0 s⟩
def W72_b10 (P : Program) (Φ : Exit → St → Prop) (s : St) : Prop :=
  @sOp (some 21) (xMov (s.τ 5) s.H) s <| .mk fun s =>
  @sOp (some 22) (xMin (s.τ 21) (.int .i64 1) s.H) s <| .mk fun s =>
  @sOp (some 5) (xMov (s.τ 22) s.H) s <| .mk fun s =>
  W72_k9 P Φ s
def W72_b11 (P : Program) (Φ : Exit → St → Prop) (s : St) : Prop :=
  @sOp (some 5) (xMov (.int .i64 0) s.H) s <| .mk fun s =>
  W72_k9 P Φ s
def W72_b12 (P : Program) (Φ : Exit → St → Prop) (s : St) : Prop :=
  @sOp (some 24) (xBin .eql false (s.τ 17) (.int .i64 11) s.H) s <| .mk fun s =>
  @sOp (some 23) (xMov (s.τ 24) s.H) s <| .mk fun s =>
  @sIf (s.τ 23) ⟨W72_k9 P Φ s⟩ ⟨W72_b11 P Φ s⟩
def W72_k13 (P : Program) (Φ : Exit → St → Prop) (s : St) : Prop :=
  @sIf (s.τ 18) ⟨W72_b10 P Φ s⟩ ⟨W72_b12 P Φ s⟩
def W72_b14 (P : Program) (Φ : Exit → St → Prop) (s : St) : Prop :=
  @sOp (some 20) (xBin .eql false (s.τ 17) (.int .i64 7) s.H) s <| .mk fun s =>
  @sOp (some 18) (xMov (s.τ 20) s.H) s <| .mk fun s =>
  W72_k13 P Φ s
def W72_b15 (P : Program) (Φ : Exit → St → Prop) (s : St) : Prop :=
  @sOp (some 11) (xFld 0 (s.τ 2) s.H) s <| .mk fun s =>
  @sOp (some 12) (xFld 8 (s.τ 11) s.H) s <| .mk fun s =>
  @sOp (some 13) (xLoad 1 false (s.τ 12) s.H) s <| .mk fun s =>
  @sOp (some 14) (xLen (s.τ 13) s.H) s <| .mk fun s =>
  @sOp (some 5) (xMov (s.τ 14) s.H) s <| .mk fun s =>
  @sOp (some 15) (xFld 0 (s.τ 2) s.H) s <| .mk fun s =>
  @sOp (some 16) (xFld 0 (s.τ 15) s.H) s <| .mk fun s =>
  @sOp (some 17) (xLoad 1 false (s.τ 16) s.H) s <| .mk fun s =>
  @sOp (some 19) (xBin .eql false (s.τ 17) (.int .i64 12) s.H) s <| .mk fun s =>
  @sOp (some 18) (xMov (s.τ 19) s.H) s <| .mk fun s =>
  @sIf (s.τ 18) ⟨W72_k13 P Φ s⟩ ⟨W72_b14 P Φ s⟩
def W72_c16 (P : Program) (Φ : Exit → St → Prop) (s : St) : Prop :=
  @sOp (some 10) (xNot (s.τ 9) s.H) s <| .mk fun s =>
  @sIf (s.τ 10) ⟨W72_b1 P Φ s⟩ ⟨W72_b15 P Φ s⟩
def W72 (P : Program) (Φ : Exit → St → Prop) (s : St) : Prop :=
  @sOp (some 2) (xBox 2 83 (s.τ 0) s.H) s <| .mk fun s =>
  @sOp (some 4) (xMov (.bool false) s.H) s <| .mk fun s =>
  @sOp (some 7) (xMov (s.τ 1) s.H) s <| .mk fun s =>
  @sOp (some 8) (xLoad 11 true (s.τ 2) s.H) s <| .mk fun s =>
  @sCall P (s.τ 7) [(s.τ 8)] (some 9) s ⟨W72_c16 P Φ⟩
theorem W72_rs (τ : Nat → AV) (H : Heap) : resV Try.prog τ H [.tmp 4] = some (τ 4) := by kernel_rfl
theorem W72_eq (Φ : Exit → St → Prop) (s : St) : awp Try.prog (Try.f72.body.getD .skip) Φ s = W72 Try.prog Φ s := by kernel_rfl

-- 73 "penance/term.shapes"

def W73 (P : Program) (Φ : Exit → St → Prop) (s : St) : Prop :=
  @sOp (some 0) (xMov (.nils) s.H) s <| .mk fun s =>
  @sOp (some 1) (xBuild [.int .i64 0, .int .i64 0, .bool false, .bool false, .int .i64 0] [] s.H) s <| .mk fun s =>
  @sOp (some 2) (xBuild [.int .i64 0, .int .i64 0, .bool false, .bool false, .int .i64 0] [(0, 1, (.int .i64 2)), (2, 1, (.bool true))] s.H) s <| .mk fun s =>
  @sOp (some 3) (xBuild [.int .i64 0, .int .i64 0, .bool false, .bool false, .int .i64 0] [(0, 1, (.int .i64 1)), (3, 1, (.bool true))] s.H) s <| .mk fun s =>
  @sOp (some 4) (xBuild [.int .i64 0, .int .i64 0, .bool false, .bool false, .int .i64 0] [(0, 1, (.int .i64 3)), (4, 1, (.int .i64 1))] s.H) s <| .mk fun s =>
  @sOp (some 5) (xBuild [.int .i64 0, .int .i64 0, .bool false, .bool false, .int .i64 0] [(0, 1, (.int .i64 3))] s.H) s <| .mk fun s =>
  @sOp (some 6) (xBuild [.int .i64 0, .int .i64 0, .bool false, .bool false, .int .i64 0] [(0, 1, (.int .i64 3))] s.H) s <| .mk fun s =>
  @sOp (some 7) (xBuild [.int .i64 0, .int .i64 0, .bool false, .bool false, .int .i64 0] [(0, 1, (.int .i64 3)), (1, 1, (.int .i64 3))] s.H) s <| .mk fun s =>
  @sOp (some 8) (xBuild [.int .i64 0, .int .i64 0, .bool false, .bool false, .int .i64 0] [(4, 1, (.int .i64 1))] s.H) s <| .mk fun s =>
  @sOp (some 9) (xBuild [.int .i64 0, .int .i64 0, .bool false, .bool false, .int .i64 0] [] s.H) s <| .mk fun s =>
  @sOp (some 10) (xBuild [.int .i64 0, .int .i64 0, .bool false, .bool false, .int .i64 0] [(3, 1, (.bool true)), (4, 1, (.int .i64 2))] s.H) s <| .mk fun s =>
  @sOp (some 11) (xBuild [.int .i64 0, .int .i64 0, .bool false, .bool false, .int .i64 0] [(4, 1, (.int .i64 2))] s.H) s <| .mk fun s =>
  @sOp (some 12) (xBuild [.int .i64 0, .int .i64 0, .bool false, .bool false, .int .i64 0] [(4, 1, (.int .i64 2))] s.H) s <| .mk fun s =>
  @sOp (some 13) (xBuild [.int .i64 0, .int .i64 0, .bool false, .bool false, .int .i64 0] [(4, 1, (.int .i64 2))] s.H) s <| .mk fun s =>
  @sOp (some 14) (xBuild [.int .i64 0, .int .i64 0, .bool false, .bool false, .int .i64 0] [(0, 1, (.int .i64 4))] s.H) s <| .mk fun s =>
  @sOp (some 15) (xBuild [.int .i64 0, .int .i64 0, .bool false, .bool false, .int .i64 0] [(0, 1, (.int .i64 5)), (1, 1, (.int .i64 2)), (2, 1, (.bool true))] s.H) s <| .mk fun s =>
  @sOp (some 16) (xLit 5 15 [.int .i64 0, .int .i64 0, .bool false, .bool false, .int .i64 0] [(0, (s.τ 1)), (1, (s.τ 2)), (2, (s.τ 3)), (3, (s.τ 4)), (4, (s.τ 5)), (5, (s.τ 6)), (6, (s.τ 7)), (7, (s.τ 8)), (8, (s.τ 9)), (9, (s.τ 10)), (10, (s.τ 11)), (11, (s.τ 12)), (12, (s.τ 13)), (13, (s.τ 14)), (14, (s.τ 15))] s.H) s <| .mk fun s =>
  @sOp (some 0) (xMov (s.τ 16) s.H) s <| .mk fun s =>
  Φ .ret s
theorem W73_rs (τ : Nat → AV) (H : Heap) : resV Try.prog τ H [.tmp 0] = some (τ 0) := by kernel_rfl
theorem W73_eq (Φ : Exit → St → Prop) (s : St) : awp Try.prog (Try.f73.body.getD .skip) Φ s = W73 Try.prog Φ s := by kernel_rfl

-- 74 "(penance/term.bounds).number"
def W74_c1 (P : Program) (Φ : Exit → St → Prop) (s : St) : Prop :=
  @sOp (some 17) (xPick (s.τ 12) (s.τ 16) (.bool false) s.H) s <| .mk fun s =>
  @sOp (some 6) (xMov (s.τ 17) s.H) s <| .mk fun s =>
  Φ .ret s
def W74_c2 (P : Program) (Φ : Exit → St → Prop) (s : St) : Prop :=
  @sGrd (guardOf (s.τ 12) true) (some 16) s ⟨fun s K => @sOp (some 16) (xBin .lss false (s.τ 13) (s.τ 15) s.H) s ⟨K⟩⟩ ⟨W74_c1 P Φ⟩
def W74_c3 (P : Program) (Φ : Exit → St → Prop) (s : St) : Prop :=
  @sGrd (guardOf (s.τ 12) true) (some 15) s ⟨fun s K => @sOp (some 15) (xLoad 1 false (s.τ 14) s.H) s ⟨K⟩⟩ ⟨W74_c2 P Φ⟩
def W74_c4 (P : Program) (Φ : Exit → St → Prop) (s : St) : Prop :=
  @sGrd (guardOf (s.τ 12) true) (some 14) s ⟨fun s K => @sOp (some 14) (xFld 0 (s.τ 3) s.H) s ⟨K⟩⟩ ⟨W74_c3 P Φ⟩
def W74_b5 (P : Program) (Φ : Exit → St → Prop) (s : St) : Prop :=
  @sOp (some 10) (xMov (s.τ 2) s.H) s <| .mk fun s =>
  @sOp (some 11) (xBin .geq false (s.τ 10) (.int .i64 0) s.H) s <| .mk fun s =>
  @sOp (some 12) (xMov (s.τ 11) s.H) s <| .mk fun s =>
  @sGrd (guardOf (s.τ 12) true) (some 13) s ⟨fun s K => @sOp (some 13) (xMov (s.τ 2) s.H) s ⟨K⟩⟩ ⟨W74_c4 P Φ⟩
def W74_c6 (P : Program) (Φ : Exit → St → Prop) (s : St) : Prop :=
  @sOp (some 27) (xPick (s.τ 22) (s.τ 26) (.bool false) s.H) s <| .mk fun s =>
  @sOp (some 6) (xMov (s.τ 27) s.H) s <| .mk fun s =>
  Φ .ret s
def W74_c7 (P : Program) (Φ : Exit → St → Prop) (s : St) : Prop :=
  @sGrd (guardOf (s.τ 22) true) (some 26) s ⟨fun s K => @sOp (some 26) (xBin .lss false (s.τ 23) (s.τ 25) s.H) s ⟨K⟩⟩ ⟨W74_c6 P Φ⟩
def W74_c8 (P : Program) (Φ : Exit → St → Prop) (s : St) : Prop :=
  @sGrd (guardOf (s.τ 22) true) (some 25) s ⟨fun s K => @sOp (some 25) (xLoad 1 false (s.τ 24) s.H) s ⟨K⟩⟩ ⟨W74_c7 P Φ⟩
def W74_c9 (P : Program) (Φ : Exit → St → Prop) (s : St) : Prop :=
  @sGrd (guardOf (s.τ 22) true) (some 24) s ⟨fun s K => @sOp (some 24) (xFld 0 (s.τ 3) s.H) s ⟨K⟩⟩ ⟨W74_c8 P Φ⟩
def W74_b10 (P : Program) (Φ : Exit → St → Prop) (s : St) : Prop :=
  @sOp (some 20) (xMov (s.τ 2) s.H) s <| .mk fun s =>
  @sOp (some 21) (xBin .geq false (s.τ 20) (.int .i64 (-1)) s.H) s <| .mk fun s =>
  @sOp (some 22) (xMov (s.τ 21) s.H) s <| .mk fun s =>
  @sGrd (guardOf (s.τ 22) true) (some 23) s ⟨fun s K => @sOp (some 23) (xMov (s.τ 2) s.H) s ⟨K⟩⟩ ⟨W74_c9 P Φ⟩
def W74_c11 (P : Program) (Φ : Exit → St → Prop) (s : St) : Prop :=
  @sOp (some 37) (xPick (s.τ 32) (s.τ 36) (.bool false) s.H) s <| .mk fun s =>
  @sOp (some 6) (xMov (s.τ 37) s.H) s <| .mk fun s =>
  Φ .ret s
def W74_c12 (P : Program) (Φ : Exit → St → Prop) (s : St) : Prop :=
  @sGrd (guardOf (s.τ 32) true) (some 36) s ⟨fun s K => @sOp (some 36) (xBin .lss false (s.τ 33) (s.τ 35) s.H) s ⟨K⟩⟩ ⟨W74_c11 P Φ⟩
def W74_c13 (P : Program) (Φ : Exit → St → Prop) (s : St) : Prop :=
  @sGrd (guardOf (s.τ 32) true) (some 35) s ⟨fun s K => @sOp (some 35) (xLoad 1 false (s.τ 34) s.H) s ⟨K⟩⟩ ⟨W74_c12 P Φ⟩
def W74_c14 (P : Program) (Φ : Exit → St → Prop) (s : St) : Prop :=
  @sGrd (guardOf (s.τ 32) true) (some 34) s ⟨fun s K => @sOp (some 34) (xFld 1 (s.τ 3) s.H) s ⟨K⟩⟩ ⟨W74_c13 P Φ⟩
def W74_b15 (P : Program) (Φ : Exit → St → Prop) (s : St) : Prop :=
  @sOp (some 30) (xMov (s.τ 2) s.H) s <| .mk fun s =>
  @sOp (some 31) (xBin .geq false (s.τ 30) (.int .i64 0) s.H) s <| .mk fun s =>
  @sOp (some 32) (xMov (s.τ 31) s.H) s <| .mk fun s =>
  @sGrd (guardOf (s.τ 32) true) (some 33) s ⟨fun s K => @sOp (some 33) (xMov (s.τ 2) s.H) s ⟨K⟩⟩ ⟨W74_c14 P Φ⟩
def W74_c16 (P : Program) (Φ : Exit → St → Prop) (s : St) : Prop :=
  @sOp (some 47) (xPick (s.τ 42) (s.τ 46) (.bool false) s.H) s <| .mk fun s =>
  @sOp (some 6) (xMov (s.τ 47) s.H) s <| .mk fun s =>
  Φ .ret s
def W74_c17 (P : Program) (Φ : Exit → St → Prop) (s : St) : Prop :=
  @sGrd (guardOf (s.τ 42) true) (some 46) s ⟨fun s K => @sOp (some 46) (xBin .lss false (s.τ 43) (s.τ 45) s.H) s ⟨K⟩⟩ ⟨W74_c16 P Φ⟩
def W74_c18 (P : Program) (Φ : Exit → St → Prop) (s : St) : Prop :=
  @sGrd (guardOf (s.τ 42) true) (some 45) s ⟨fun s K => @sOp (some 45) (xLoad 1 false (s.τ 44) s.H) s ⟨K⟩⟩ ⟨W74_c17 P Φ⟩
def W74_c19 (P : Program) (Φ : Exit → St → Prop) (s : St) : Prop :=
  @sGrd (guardOf (s.τ 42) true) (some 44) s ⟨fun s K => @sOp (some 44) (xFld 2 (s.τ 3) s.H) s ⟨K⟩⟩ ⟨W74_c18 P Φ⟩
def W74_b20 (P : Program) (Φ : Exit → St → Prop) (s : St) : Prop :=
  @sOp (some 40) (xMov (s.τ 2) s.H) s <| .mk fun s =>
  @sOp (some 41) (xBin .geq false (s.τ 40) (.int .i64 0) s.H) s <| .mk fun s =>
  @sOp (some 42) (xMov (s.τ 41) s.H) s <| .mk fun s =>
  @sGrd (guardOf (s.τ 42) true) (some 43) s ⟨fun s K => @sOp (some 43) (xMov (s.τ 2) s.H) s ⟨K⟩⟩ ⟨W74_c19 P Φ⟩
def W74_b21 (P : Program) (Φ : Exit → St → Prop) (s : St) : Prop :=
  @sOp (some 50) (xMov (s.τ 2) s.H) s <| .mk fun s =>
  @sOp (some 51) (xBin .geq false (s.τ 50) (.int .i64 0) s.H) s <| .mk fun s =>
  @sOp (some 6) (xMov (s.τ 51) s.H) s <| .mk fun s =>
  Φ .ret s
def W74_b22 (P : Program) (Φ : Exit → St → Prop) (s : St) : Prop :=
  @sOp (some 52) (xMov (s.τ 2) s.H) s <| .mk fun s =>
  @sOp (some 53) (xBin .eql false (s.τ 52) (.int .i64 0) s.H) s <| .mk fun s =>
  @sOp (some 6) (xMov (s.τ 53) s.H) s <| .mk fun s =>
  Φ .ret s
def W74_b23 (P : Program) (Φ : Exit → St → Prop) (s : St) : Prop :=
  @sOp (some 49) (xBin .eql false (s.τ 7) (.int .i64 5) s.H) s <| .mk fun s =>
  @sOp (some 48) (xMov (s.τ 49) s.H) s <| .mk fun s =>
  @sIf (s.τ 48) ⟨W74_b21 P Φ s⟩ ⟨W74_b22 P Φ s⟩
def W74_b24 (P : Program) (Φ : Exit → St → Prop) (s : St) : Prop :=
  @sOp (some 39) (xBin .eql false (s.τ 7) (.int .i64 4) s.H) s <| .mk fun s =>
  @sOp (some 38) (xMov (s.τ 39) s.H) s <| .mk fun s =>
  @sIf (s.τ 38) ⟨W74_b20 P Φ s⟩ ⟨W74_b23 P Φ s⟩
def W74_b25 (P : Program) (Φ : Exit → St → Prop) (s : St) : Prop :=
  @sOp (some 29) (xBin .eql false (s.τ 7) (.int .i64 3) s.H) s <| .mk fun s =>
  @sOp (some 28) (xMov (s.τ 29) s.H) s <| .mk fun s =>
  @sIf (s.τ 28) ⟨W74_b15 P Φ s⟩ ⟨W74_b24 P Φ s⟩
def W74_b26 (P : Program) (Φ : Exit → St → Prop) (s : St) : Prop :=
  @sOp (some 19) (xBin .eql false (s.τ 7) (.int .i64 2) s.H) s <| .mk fun s =>
  @sOp (some 18) (xMov (s.τ 19) s.H) s <| .mk fun s =>
  @sIf (s.τ 18) ⟨W74_b10 P Φ s⟩ ⟨W74_b25 P Φ s⟩
def W74 (P : Program) (Φ : Exit → St → Prop) (s : St) : Prop :=
  @sOp (some 3) (xBox 3 87 (s.τ 0) s.H) s <| .mk fun s =>
  @sOp (some 6) (xMov (.bool false) s.H) s <| .mk fun s =>
  @sOp (some 7) (xMov (s.τ 1) s.H) s <| .mk fun s =>
  @sOp (some 9) (xBin .eql false (s.τ 7) (.int .i64 1) s.H) s <| .mk fun s =>
  @sOp (some 8) (xMov (s.τ 9) s.H) s <| .mk fun s =>
  @sIf (s.τ 8) ⟨W74_b5 P Φ s⟩ ⟨W74_b26 P Φ s⟩
theorem W74_rs (τ : Nat → AV) (H : Heap) : resV Try.prog τ H [.tmp 6] = some (τ 6) := by kernel_rfl
theorem W74_eq (Φ : Exit → St → Prop) (s : St) : awp Try.prog (Try.f74.body.getD .skip) Φ s = W74 Try.prog Φ s := by kernel_rfl

-- 75 "penance/term.none"
def W75_c1 (P : Program) (Φ : Exit → St → Prop) (s : St) : Prop :=
  @sOp (some 21) (xPick (s.τ 16) (s.τ 20) (.bool false) s.H) s <| .mk fun s =>
  @sOp (some 2) (xMov (s.τ 21) s.H) s <| .mk fun s =>
  Φ .ret s
def W75_c2 (P : Program) (Φ : Exit → St → Prop) (s : St) : Prop :=
  @sGrd (guardOf (s.τ 16) true) (some 20) s ⟨fun s K => @sOp (some 20) (xBin .eql false (s.τ 19) (.int .i64 0) s.H) s ⟨K⟩⟩ ⟨W75_c1 P Φ⟩
def W75_c3 (P : Program) (Φ : Exit → St → Prop) (s : St) : Prop :=
  @sGrd (guardOf (s.τ 16) true) (some 19) s ⟨fun s K => @sOp (some 19) (xLen (s.τ 18) s.H) s ⟨K⟩⟩ ⟨W75_c2 P Φ⟩
def W75_c4 (P : Program) (Φ : Exit → St → Prop) (s : St) : Prop :=
  @sGrd (guardOf (s.τ 16) true) (some 18) s ⟨fun s K => @sOp (some 18) (xLoad 1 false (s.τ 17) s.H) s ⟨K⟩⟩ ⟨W75_c3 P Φ⟩
def W75_c5 (P : Program) (Φ : Exit → St → Prop) (s : St) : Prop :=
  @sOp (some 15) (xPick (s.τ 11) (s.τ 14) (.bool false) s.H) s <| .mk fun s =>
  @sOp (some 16) (xMov (s.τ 15) s.H) s <| .mk fun s =>
  @sGrd (guardOf (s.τ 16) true) (some 17) s ⟨fun s K => @sOp (some 17) (xFld 3 (s.τ 1) s.H) s ⟨K⟩⟩ ⟨W75_c4 P Φ⟩
def W75_c6 (P : Program) (Φ : Exit → St → Prop) (s : St) : Prop :=
  @sGrd (guardOf (s.τ 11) true) (some 14) s ⟨fun s K => @sOp (some 14) (xBin .eql false (s.τ 13) (.str ⟨#[]⟩) s.H) s ⟨K⟩⟩ ⟨W75_c5 P Φ⟩
def W75_c7 (P : Program) (Φ : Exit → St → Prop) (s : St) : Prop :=
  @sGrd (guardOf (s.τ 11) true) (some 13) s ⟨fun s K => @sOp (some 13) (xLoad 1 false (s.τ 12) s.H) s ⟨K⟩⟩ ⟨W75_c6 P Φ⟩
def W75_c8 (P : Program) (Φ : Exit → St → Prop) (s : St) : Prop :=
  @sOp (some 10) (xPick (s.τ 6) (s.τ 9) (.bool false) s.H) s <| .mk fun s =>
  @sOp (some 11) (xMov (s.τ 10) s.H) s <| .mk fun s =>
  @sGrd (guardOf (s.τ 11) true) (some 12) s ⟨fun s K => @sOp (some 12) (xFld 2 (s.τ 1) s.H) s ⟨K⟩⟩ ⟨W75_c7 P Φ⟩
def W75_c9 (P : Program) (Φ : Exit → St → Prop) (s : St) : Prop :=
  @sGrd (guardOf (s.τ 6) true) (some 9) s ⟨fun s K => @sOp (some 9) (xBin .eql false (s.τ 8) (.int .i64 0) s.H) s ⟨K⟩⟩ ⟨W75_c8 P Φ⟩
def W75_c10 (P : Program) (Φ : Exit → St → Prop) (s : St) : Prop :=
  @sGrd (guardOf (s.τ 6) true) (some 8) s ⟨fun s K => @sOp (some 8) (xLoad 1 false (s.τ 7) s.H) s ⟨K⟩⟩ ⟨W75_c9 P Φ⟩
def W75 (P : Program) (Φ : Exit → St → Prop) (s : St) : Prop :=
  @sOp (some 1) (xBox 1 31 (s.τ 0) s.H) s <| .mk fun s =>
  @sOp (some 2) (xMov (.bool false) s.H) s <| .mk fun s =>
  @sOp (some 3) (xFld 0 (s.τ 1) s.H) s <| .mk fun s =>
  @sOp (some 4) (xLoad 1 false (s.τ 3) s.H) s <| .mk fun s =>
  @sOp (some 5) (xBin .eql false (s.τ 4) (.int .i64 0) s.H) s <| .mk fun s =>
  @sOp (some 6) (xMov (s.τ 5) s.H) s <| .mk fun s =>
  @sGrd (guardOf (s.τ 6) true) (some 7) s ⟨fun s K => @sOp (some 7) (xFld 1 (s.τ 1) s.H) s ⟨K⟩⟩ ⟨W75_c10 P Φ⟩
theorem W75_rs (τ : Nat → AV) (H : Heap) : resV Try.prog τ H [.tmp 2] = some (τ 2) := by kernel_rfl
theorem W75_eq (Φ : Exit → St → Prop) (s : St) : awp Try.prog (Try.f75.body.getD .skip) Φ s = W75 Try.prog Φ s := by kernel_rfl

-- 78 "penance/penanceref5.in"
def W78_c1 (P : Program) (Φ : Exit → St → Prop) (s : St) : Prop :=
  @sOp (some 14) (xPick (s.τ 10) (s.τ 13) (.bool false) s.H) s <| .mk fun s =>
  @sOp (some 6) (xMov (s.τ 14) s.H) s <| .mk fun s =>
  Φ .ret s
def W78_c2 (P : Program) (Φ : Exit → St → Prop) (s : St) : Prop :=
  @sGrd (guardOf (s.τ 10) true) (some 13) s ⟨fun s K => @sOp (some 13) (xBin .lss false (s.τ 11) (s.τ 12) s.H) s ⟨K⟩⟩ ⟨W78_c1 P Φ⟩
def W78_c3 (P : Program) (Φ : Exit → St → Prop) (s : St) : Prop :=
  @sGrd (guardOf (s.τ 10) true) (some 12) s ⟨fun s K => @sOp (some 12) (xMov (s.τ 2) s.H) s ⟨K⟩⟩ ⟨W78_c2 P Φ⟩
def W78 (P : Program) (Φ : Exit → St → Prop) (s : St) : Prop :=
  @sOp (some 6) (xMov (.bool false) s.H) s <| .mk fun s =>
  @sOp (some 7) (xMov (s.τ 0) s.H) s <| .mk fun s =>
  @sOp (some 8) (xMov (s.τ 1) s.H) s <| .mk fun s =>
  @sOp (some 9) (xBin .geq false (s.τ 7) (s.τ 8) s.H) s <| .mk fun s =>
  @sOp (some 10) (xMov (s.τ 9) s.H) s <| .mk fun s =>
  @sGrd (guardOf (s.τ 10) true) (some 11) s ⟨fun s K => @sOp (some 11) (xMov (s.τ 0) s.H) s ⟨K⟩⟩ ⟨W78_c3 P Φ⟩
theorem W78_rs (τ : Nat → AV) (H : Heap) : resV Try.prog τ H [.tmp 6] = some (τ 6) := by kernel_rfl
theorem W78_eq (Φ : Exit → St → Prop) (s : St) : awp Try.prog (Try.f78.body.getD .skip) Φ s = W78 Try.prog Φ s := by kernel_rfl

-- 80 "penance/penanceref1.word"
def W80_c1 (P : Program) (Φ : Exit → St → Prop) (s : St) : Prop :=
  @sOp (some 26) (xPick (s.τ 11) (.bool true) (s.τ 25) s.H) s <| .mk fun s =>
  @sOp (some 4) (xMov (s.τ 26) s.H) s <| .mk fun s =>
  Φ .ret s
def W80_c2 (P : Program) (Φ : Exit → St → Prop) (s : St) : Prop :=
  @sGrd (guardOf (s.τ 11) false) (some 25) s ⟨fun s K => @sOp (some 25) (xPick (s.τ 14) (s.τ 24) (.bool false) s.H) s ⟨K⟩⟩ ⟨W80_c1 P Φ⟩
def W80_c3 (P : Program) (Φ : Exit → St → Prop) (s : St) : Prop :=
  @sGrd (guardOf (s.τ 14) true) (some 24) s ⟨fun s K => @sOp (some 24) (xPick (s.τ 21) (.bool true) (s.τ 23) s.H) s ⟨K⟩⟩ ⟨W80_c2 P Φ⟩
def W80_c4 (P : Program) (Φ : Exit → St → Prop) (s : St) : Prop :=
  @sGrd (guardOf (s.τ 21) false) (some 23) s ⟨fun s K => @sOp (some 23) (xBin .eql false (s.τ 22) (.int .u8 95) s.H) s ⟨K⟩⟩ ⟨W80_c3 P Φ⟩
def W80_c5 (P : Program) (Φ : Exit → St → Prop) (s : St) : Prop :=
  @sGrd (guardOf (s.τ 21) false) (some 22) s ⟨fun s K => @sOp (some 22) (xMov (s.τ 0) s.H) s ⟨K⟩⟩ ⟨W80_c4 P Φ⟩
def W80_c6 (P : Program) (Φ : Exit → St → Prop) (s : St) : Prop :=
  @sGrd (guardOf (s.τ 14) true) (some 21) s ⟨fun s K => @sOp (some 21) (xMov (s.τ 20) s.H) s ⟨K⟩⟩ ⟨W80_c5 P Φ⟩
def W80_c7 (P : Program) (Φ : Exit → St → Prop) (s : St) : Prop :=
  @sGrd (guardOf (s.τ 14) true) (some 20) s ⟨fun s K => @sOp (some 20) (xPick (s.τ 17) (s.τ 19) (.bool false) s.H) s ⟨K⟩⟩ ⟨W80_c6 P Φ⟩
def W80_c8 (P : Program) (Φ : Exit → St → Prop) (s : St) : Prop :=
  @sGrd (guardOf (s.τ 17) true) (some 19) s ⟨fun s K => @sOp (some 19) (xBin .leq false (s.τ 18) (.int .u8 57) s.H) s ⟨K⟩⟩ ⟨W80_c7 P Φ⟩
def W80_c9 (P : Program) (Φ : Exit → St → Prop) (s : St) : Prop :=
  @sGrd (guardOf (s.τ 17) true) (some 18) s ⟨fun s K => @sOp (some 18) (xMov (s.τ 0) s.H) s ⟨K⟩⟩ ⟨W80_c8 P Φ⟩
def W80_c10 (P : Program) (Φ : Exit → St → Prop) (s : St) : Prop :=
  @sGrd (guardOf (s.τ 14) true) (some 17) s ⟨fun s K => @sOp (some 17) (xMov (s.τ 16) s.H) s ⟨K⟩⟩ ⟨W80_c9 P Φ⟩
def W80_c11 (P : Program) (Φ : Exit → St → Prop) (s : St) : Prop :=
  @sGrd (guardOf (s.τ 14) true) (some 16) s ⟨fun s K => @sOp (some 16) (xBin .geq false (s.τ 15) (.int .u8 48) s.H) s ⟨K⟩⟩ ⟨W80_c10 P Φ⟩
def W80_c12 (P : Program) (Φ : Exit → St → Prop) (s : St) : Prop :=
  @sGrd (guardOf (s.τ 14) true) (some 15) s ⟨fun s K => @sOp (some 15) (xMov (s.τ 0) s.H) s ⟨K⟩⟩ ⟨W80_c11 P Φ⟩
def W80_c13 (P : Program) (Φ : Exit → St → Prop) (s : St) : Prop :=
  @sGrd (guardOf (s.τ 11) false) (some 14) s ⟨fun s K => @sOp (some 14) (xMov (s.τ 13) s.H) s ⟨K⟩⟩ ⟨W80_c12 P Φ⟩
def W80_c14 (P : Program) (Φ : Exit → St → Prop) (s : St) : Prop :=
  @sGrd (guardOf (s.τ 11) false) (some 13) s ⟨fun s K => @sOp (some 13) (xNot (s.τ 12) s.H) s ⟨K⟩⟩ ⟨W80_c13 P Φ⟩
def W80_c15 (P : Program) (Φ : Exit → St → Prop) (s : St) : Prop :=
  @sOp (some 10) (xPick (s.τ 7) (s.τ 9) (.bool false) s.H) s <| .mk fun s =>
  @sOp (some 11) (xMov (s.τ 10) s.H) s <| .mk fun s =>
  @sGrd (guardOf (s.τ 11) false) (some 12) s ⟨fun s K => @sOp (some 12) (xMov (s.τ 1) s.H) s ⟨K⟩⟩ ⟨W80_c14 P Φ⟩
def W80_c16 (P : Program) (Φ : Exit → St → Prop) (s : St) : Prop :=
  @sGrd (guardOf (s.τ 7) true) (some 9) s ⟨fun s K => @sOp (some 9) (xBin .leq false (s.τ 8) (.int .u8 122) s.H) s ⟨K⟩⟩ ⟨W80_c15 P Φ⟩
def W80 (P : Program) (Φ : Exit → St → Prop) (s : St) : Prop :=
  @sOp (some 4) (xMov (.bool false) s.H) s <| .mk fun s =>
  @sOp (some 5) (xMov (s.τ 0) s.H) s <| .mk fun s =>
  @sOp (some 6) (xBin .geq false (s.τ 5) (.int .u8 97) s.H) s <| .mk fun s =>
  @sOp (some 7) (xMov (s.τ 6) s.H) s <| .mk fun s =>
  @sGrd (guardOf (s.τ 7) true) (some 8) s ⟨fun s K => @sOp (some 8) (xMov (s.τ 0) s.H) s ⟨K⟩⟩ ⟨W80_c16 P Φ⟩
theorem W80_rs (τ : Nat → AV) (H : Heap) : resV Try.prog τ H [.tmp 4] = some (τ 4) := by kernel_rfl
theorem W80_eq (Φ : Exit → St → Prop) (s : St) : awp Try.prog (Try.f80.body.getD .skip) Φ s = W80 Try.prog Φ s := by kernel_rfl

end Go.Proofs.Ytkagfenchknjjaa
