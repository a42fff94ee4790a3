import Derived.Test.YtkagfenchknjjaaAmSimp
import Derived.Test.YtkagfenchknjjaaProg
import Derived.KernelRfl
set_option linter.unusedVariables false
namespace Go.Proofs.Ytkagfenchknjjaa
open Go Go.Am
-- 7 "penance/penancelaw7.StepsKinds"
def W7_b1 (P : Program) (Φ : Exit → St → Prop) (s : St) : Prop :=
  @sOp (some 2) (xMov (.bool false) s.H) s <| .mk fun s =>
  Φ .ret s
def W7_k2 (P : Program) (Φ : Exit → St → Prop) (s : St) : Prop :=
  @sOp (some 107) (xMov (s.τ 6) s.H) s <| .mk fun s =>
  @sOp (some 108) (xLen (s.τ 107) s.H) s <| .mk fun s =>
  @sOp (some 109) (xMov (s.τ 5) s.H) s <| .mk fun s =>
  @sOp (some 110) (xBin .eql false (s.τ 108) (s.τ 109) s.H) s <| .mk fun s =>
  @sOp (some 2) (xMov (s.τ 110) s.H) s <| .mk fun s =>
  Φ .ret s
def W7_b3 (P : Program) (Φ : Exit → St → Prop) (L0 : St → Prop) (s : St) : Prop :=
  @sOp (some 2) (xMov (.bool false) s.H) s <| .mk fun s =>
  Φ .ret s
def W7_b4 (P : Program) (Φ : Exit → St → Prop) (L0 : St → Prop) (s : St) : Prop :=
  @sOp (some 80) (xMov (s.τ 7) s.H) s <| .mk fun s =>
  @sOp (some 81) (xBin .add false (s.τ 80) (.int .i64 1) s.H) s <| .mk fun s =>
  @sOp (some 7) (xMov (s.τ 81) s.H) s <| .mk fun s =>
  L0 s
def W7_c5 (P : Program) (Φ : Exit → St → Prop) (L0 : St → Prop) (s : St) : Prop :=
  @sOp (some 106) (xPick (s.τ 98) (.bool true) (s.τ 105) s.H) s <| .mk fun s =>
  @sIf (s.τ 106) ⟨W7_b3 P Φ L0 s⟩ ⟨W7_b4 P Φ L0 s⟩
def W7_c6 (P : Program) (Φ : Exit → St → Prop) (L0 : St → Prop) (s : St) : Prop :=
  @sGrd (guardOf (s.τ 98) false) (some 105) s ⟨fun s K => @sOp (some 105) (xBin .neq false (s.τ 103) (s.τ 104) s.H) s ⟨K⟩⟩ ⟨W7_c5 P Φ L0⟩
def W7_c7 (P : Program) (Φ : Exit → St → Prop) (L0 : St → Prop) (s : St) : Prop :=
  @sGrd (guardOf (s.τ 98) false) (some 104) s ⟨fun s K => @sOp (some 104) (xMov (s.τ 7) s.H) s ⟨K⟩⟩ ⟨W7_c6 P Φ L0⟩
def W7_c8 (P : Program) (Φ : Exit → St → Prop) (L0 : St → Prop) (s : St) : Prop :=
  @sGrd (guardOf (s.τ 98) false) (some 103) s ⟨fun s K => @sOp (some 103) (xLoad 1 false (s.τ 102) s.H) s ⟨K⟩⟩ ⟨W7_c7 P Φ L0⟩
def W7_c9 (P : Program) (Φ : Exit → St → Prop) (L0 : St → Prop) (s : St) : Prop :=
  @sGrd (guardOf (s.τ 98) false) (some 102) s ⟨fun s K => @sOp (some 102) (xFld 2 (s.τ 101) s.H) s ⟨K⟩⟩ ⟨W7_c8 P Φ L0⟩
def W7_c10 (P : Program) (Φ : Exit → St → Prop) (L0 : St → Prop) (s : St) : Prop :=
  @sGrd (guardOf (s.τ 98) false) (some 101) s ⟨fun s K => @sOp (some 101) (xIx 3 (s.τ 99) (s.τ 100) s.H) s ⟨K⟩⟩ ⟨W7_c9 P Φ L0⟩
def W7_c11 (P : Program) (Φ : Exit → St → Prop) (L0 : St → Prop) (s : St) : Prop :=
  @sGrd (guardOf (s.τ 98) false) (some 100) s ⟨fun s K => @sOp (some 100) (xMov (s.τ 7) s.H) s ⟨K⟩⟩ ⟨W7_c10 P Φ L0⟩
def W7_c12 (P : Program) (Φ : Exit → St → Prop) (L0 : St → Prop) (s : St) : Prop :=
  @sOp (some 97) (xPick (s.τ 89) (.bool true) (s.τ 96) s.H) s <| .mk fun s =>
  @sOp (some 98) (xMov (s.τ 97) s.H) s <| .mk fun s =>
  @sGrd (guardOf (s.τ 98) false) (some 99) s ⟨fun s K => @sOp (some 99) (xMov (s.τ 6) s.H) s ⟨K⟩⟩ ⟨W7_c11 P Φ L0⟩
def W7_c13 (P : Program) (Φ : Exit → St → Prop) (L0 : St → Prop) (s : St) : Prop :=
  @sGrd (guardOf (s.τ 89) false) (some 96) s ⟨fun s K => @sOp (some 96) (xBin .neq false (s.τ 95) (.int .i64 0) s.H) s ⟨K⟩⟩ ⟨W7_c12 P Φ L0⟩
def W7_c14 (P : Program) (Φ : Exit → St → Prop) (L0 : St → Prop) (s : St) : Prop :=
  @sGrd (guardOf (s.τ 89) false) (some 95) s ⟨fun s K => @sOp (some 95) (xLen (s.τ 94) s.H) s ⟨K⟩⟩ ⟨W7_c13 P Φ L0⟩
def W7_c15 (P : Program) (Φ : Exit → St → Prop) (L0 : St → Prop) (s : St) : Prop :=
  @sGrd (guardOf (s.τ 89) false) (some 94) s ⟨fun s K => @sOp (some 94) (xLoad 1 false (s.τ 93) s.H) s ⟨K⟩⟩ ⟨W7_c14 P Φ L0⟩
def W7_c16 (P : Program) (Φ : Exit → St → Prop) (L0 : St → Prop) (s : St) : Prop :=
  @sGrd (guardOf (s.τ 89) false) (some 93) s ⟨fun s K => @sOp (some 93) (xFld 1 (s.τ 92) s.H) s ⟨K⟩⟩ ⟨W7_c15 P Φ L0⟩
def W7_c17 (P : Program) (Φ : Exit → St → Prop) (L0 : St → Prop) (s : St) : Prop :=
  @sGrd (guardOf (s.τ 89) false) (some 92) s ⟨fun s K => @sOp (some 92) (xIx 3 (s.τ 90) (s.τ 91) s.H) s ⟨K⟩⟩ ⟨W7_c16 P Φ L0⟩
def W7_c18 (P : Program) (Φ : Exit → St → Prop) (L0 : St → Prop) (s : St) : Prop :=
  @sGrd (guardOf (s.τ 89) false) (some 91) s ⟨fun s K => @sOp (some 91) (xMov (s.τ 7) s.H) s ⟨K⟩⟩ ⟨W7_c17 P Φ L0⟩
def W7_b19 (P : Program) (Φ : Exit → St → Prop) (L0 : St → Prop) (s : St) : Prop :=
  @sOp (some 82) (xMov (s.τ 6) s.H) s <| .mk fun s =>
  @sOp (some 83) (xMov (s.τ 7) s.H) s <| .mk fun s =>
  @sOp (some 84) (xIx 3 (s.τ 82) (s.τ 83) s.H) s <| .mk fun s =>
  @sOp (some 85) (xFld 0 (s.τ 84) s.H) s <| .mk fun s =>
  @sOp (some 86) (xLoad 1 false (s.τ 85) s.H) s <| .mk fun s =>
  @sOp (some 87) (xMov (s.τ 3) s.H) s <| .mk fun s =>
  @sOp (some 88) (xBin .neq false (s.τ 86) (s.τ 87) s.H) s <| .mk fun s =>
  @sOp (some 89) (xMov (s.τ 88) s.H) s <| .mk fun s =>
  @sGrd (guardOf (s.τ 89) false) (some 90) s ⟨fun s K => @sOp (some 90) (xMov (s.τ 6) s.H) s ⟨K⟩⟩ ⟨W7_c18 P Φ L0⟩
def W7_l20 (P : Program) (Φ : Exit → St → Prop) (L0 : St → Prop) (s : St) : Prop :=
  @sOp (some 76) (xMov (s.τ 7) s.H) s <| .mk fun s =>
  @sOp (some 77) (xMov (s.τ 6) s.H) s <| .mk fun s =>
  @sOp (some 78) (xLen (s.τ 77) s.H) s <| .mk fun s =>
  @sOp (some 79) (xBin .lss false (s.τ 76) (s.τ 78) s.H) s <| .mk fun s =>
  @sIf (s.τ 79) ⟨W7_b19 P Φ L0 s⟩ ⟨W7_k2 P Φ s⟩
def W7_c21 (P : Program) (Φ : Exit → St → Prop) (s : St) : Prop :=
  @sOp (some 6) (xMov (s.τ 75) s.H) s <| .mk fun s =>
  @sOp (some 7) (xMov (.int .i64 0) s.H) s <| .mk fun s =>
  @sLoop s ⟨fun L0 s => W7_l20 P Φ L0 s⟩
def W7_k22 (P : Program) (Φ : Exit → St → Prop) (s : St) : Prop :=
  @sOp (some 74) (xLoad 9 true (s.τ 4) s.H) s <| .mk fun s =>
  @sCall P (.func 24 []) [(s.τ 74)] (some 75) s ⟨W7_c21 P Φ⟩
def W7_b23 (P : Program) (Φ : Exit → St → Prop) (s : St) : Prop :=
  @sOp (some 70) (xFld 8 (s.τ 4) s.H) s <| .mk fun s =>
  @sOp (some 71) (xLoad 1 false (s.τ 70) s.H) s <| .mk fun s =>
  @sOp (some 72) (xSlc 9 (s.τ 71) none (some (.int .i64 1)) s.H) s <| .mk fun s =>
  @sOp (some 73) (xFld 8 (s.τ 4) s.H) s <| .mk fun s =>
  @sOp none (xStore 1 (s.τ 73) (s.τ 72) s.H) s <| .mk fun s =>
  W7_k22 P Φ s
def W7_b24 (P : Program) (Φ : Exit → St → Prop) (s : St) : Prop :=
  @sOp (some 63) (xMov (s.τ 3) s.H) s <| .mk fun s =>
  @sOp (some 64) (xBuild [.int .i64 0, .int .i64 0, .int .i64 0, .str ⟨#[]⟩, .int .i64 0, .int .i64 0, .str ⟨#[]⟩, .nils, .nils] [] s.H) s <| .mk fun s =>
  @sOp (some 65) (xBuild [.int .i64 0, .int .i64 0, .int .i64 0, .str ⟨#[]⟩, .int .i64 0, .int .i64 0, .str ⟨#[]⟩, .nils, .nils] [] s.H) s <| .mk fun s =>
  @sOp (some 66) (xLit 9 2 [.int .i64 0, .int .i64 0, .int .i64 0, .str ⟨#[]⟩, .int .i64 0, .int .i64 0, .str ⟨#[]⟩, .nils, .nils] [(0, (s.τ 64)), (1, (s.τ 65))] s.H) s <| .mk fun s =>
  @sOp (some 67) (xBuild [.int .i64 0, .int .i64 0, .int .i64 0, .str ⟨#[]⟩, .int .i64 0, .int .i64 0, .str ⟨#[]⟩, .nils, .nils] [(0, 1, (s.τ 63)), (8, 1, (s.τ 66))] s.H) s <| .mk fun s =>
  @sOp none (xStore 9 (s.τ 4) (s.τ 67) s.H) s <| .mk fun s =>
  @sOp (some 68) (xMov (s.τ 3) s.H) s <| .mk fun s =>
  @sOp (some 69) (xBin .eql false (s.τ 68) (.int .i64 7) s.H) s <| .mk fun s =>
  @sIf (s.τ 69) ⟨W7_b23 P Φ s⟩ ⟨W7_k22 P Φ s⟩
def W7_c25 (P : Program) (Φ : Exit → St → Prop) (s : St) : Prop :=
  @sOp (some 62) (xPick (s.τ 59) (.bool true) (s.τ 61) s.H) s <| .mk fun s =>
  @sIf (s.τ 62) ⟨W7_b24 P Φ s⟩ ⟨W7_k22 P Φ s⟩
def W7_c26 (P : Program) (Φ : Exit → St → Prop) (s : St) : Prop :=
  @sGrd (guardOf (s.τ 59) false) (some 61) s ⟨fun s K => @sOp (some 61) (xBin .eql false (s.τ 60) (.int .i64 7) s.H) s ⟨K⟩⟩ ⟨W7_c25 P Φ⟩
def W7_c27 (P : Program) (Φ : Exit → St → Prop) (s : St) : Prop :=
  @sOp (some 58) (xPick (s.τ 55) (.bool true) (s.τ 57) s.H) s <| .mk fun s =>
  @sOp (some 59) (xMov (s.τ 58) s.H) s <| .mk fun s =>
  @sGrd (guardOf (s.τ 59) false) (some 60) s ⟨fun s K => @sOp (some 60) (xMov (s.τ 3) s.H) s ⟨K⟩⟩ ⟨W7_c26 P Φ⟩
def W7_c28 (P : Program) (Φ : Exit → St → Prop) (s : St) : Prop :=
  @sGrd (guardOf (s.τ 55) false) (some 57) s ⟨fun s K => @sOp (some 57) (xBin .eql false (s.τ 56) (.int .i64 11) s.H) s ⟨K⟩⟩ ⟨W7_c27 P Φ⟩
def W7_k29 (P : Program) (Φ : Exit → St → Prop) (s : St) : Prop :=
  @sOp (some 53) (xMov (s.τ 3) s.H) s <| .mk fun s =>
  @sOp (some 54) (xBin .eql false (s.τ 53) (.int .i64 12) s.H) s <| .mk fun s =>
  @sOp (some 55) (xMov (s.τ 54) s.H) s <| .mk fun s =>
  @sGrd (guardOf (s.τ 55) false) (some 56) s ⟨fun s K => @sOp (some 56) (xMov (s.τ 3) s.H) s ⟨K⟩⟩ ⟨W7_c28 P Φ⟩
def W7_b30 (P : Program) (Φ : Exit → St → Prop) (s : St) : Prop :=
  @sOp (some 5) (xMov (.int .i64 0) s.H) s <| .mk fun s =>
  W7_k29 P Φ s
def W7_b31 (P : Program) (Φ : Exit → St → Prop) (s : St) : Prop :=
  @sOp (some 5) (xMov (.int .i64 2) s.H) s <| .mk fun s =>
  W7_k29 P Φ s
def W7_b32 (P : Program) (Φ : Exit → St → Prop) (s : St) : Prop :=
  @sOp (some 52) (xBin .eql false (s.τ 44) (.int .i64 10) s.H) s <| .mk fun s =>
  @sOp (some 51) (xMov (s.τ 52) s.H) s <| .mk fun s =>
  @sIf (s.τ 51) ⟨W7_b31 P Φ s⟩ ⟨W7_k29 P Φ s⟩
def W7_k33 (P : Program) (Φ : Exit → St → Prop) (s : St) : Prop :=
  @sIf (s.τ 45) ⟨W7_b30 P Φ s⟩ ⟨W7_b32 P Φ s⟩
def W7_b34 (P : Program) (Φ : Exit → St → Prop) (s : St) : Prop :=
  @sOp (some 50) (xBin .eql false (s.τ 44) (.int .i64 7) s.H) s <| .mk fun s =>
  @sOp (some 45) (xMov (s.τ 50) s.H) s <| .mk fun s =>
  W7_k33 P Φ s
def W7_b35 (P : Program) (Φ : Exit → St → Prop) (s : St) : Prop :=
  @sOp (some 49) (xBin .eql false (s.τ 44) (.int .i64 11) s.H) s <| .mk fun s =>
  @sOp (some 45) (xMov (s.τ 49) s.H) s <| .mk fun s =>
  @sIf (s.τ 45) ⟨W7_k33 P Φ s⟩ ⟨W7_b34 P Φ s⟩
def W7_b36 (P : Program) (Φ : Exit → St → Prop) (s : St) : Prop :=
  @sOp (some 48) (xBin .eql false (s.τ 44) (.int .i64 12) s.H) s <| .mk fun s =>
  @sOp (some 45) (xMov (s.τ 48) s.H) s <| .mk fun s =>
  @sIf (s.τ 45) ⟨W7_k33 P Φ s⟩ ⟨W7_b35 P Φ s⟩
def W7_b37 (P : Program) (Φ : Exit → St → Prop) (s : St) : Prop :=
  @sOp (some 47) (xBin .eql false (s.τ 44) (.int .i64 14) s.H) s <| .mk fun s =>
  @sOp (some 45) (xMov (s.τ 47) s.H) s <| .mk fun s =>
  @sIf (s.τ 45) ⟨W7_k33 P Φ s⟩ ⟨W7_b36 P Φ s⟩
def W7_k38 (P : Program) (Φ : Exit → St → Prop) (s : St) : Prop :=
  @sOp (some 5) (xMov (.int .i64 1) s.H) s <| .mk fun s =>
  @sOp (some 44) (xMov (s.τ 3) s.H) s <| .mk fun s =>
  @sOp (some 46) (xBin .eql false (s.τ 44) (.int .i64 0) s.H) s <| .mk fun s =>
  @sOp (some 45) (xMov (s.τ 46) s.H) s <| .mk fun s =>
  @sIf (s.τ 45) ⟨W7_k33 P Φ s⟩ ⟨W7_b37 P Φ s⟩
def W7_b39 (P : Program) (Φ : Exit → St → Prop) (s : St) : Prop :=
  @sOp (some 41) (xBuild [.int .i64 0, .int .i64 0, .int .i64 0, .str ⟨#[]⟩, .int .i64 0, .int .i64 0, .str ⟨#[]⟩, .nils, .nils] [] s.H) s <| .mk fun s =>
  @sOp (some 42) (xLit 9 1 [.int .i64 0, .int .i64 0, .int .i64 0, .str ⟨#[]⟩, .int .i64 0, .int .i64 0, .str ⟨#[]⟩, .nils, .nils] [(0, (s.τ 41))] s.H) s <| .mk fun s =>
  @sOp (some 43) (xFld 8 (s.τ 4) s.H) s <| .mk fun s =>
  @sOp none (xStore 1 (s.τ 43) (s.τ 42) s.H) s <| .mk fun s =>
  W7_k38 P Φ s
def W7_k40 (P : Program) (Φ : Exit → St → Prop) (s : St) : Prop :=
  @sOp (some 39) (xMov (s.τ 3) s.H) s <| .mk fun s =>
  @sOp (some 40) (xBin .eql false (s.τ 39) (.int .i64 3) s.H) s <| .mk fun s =>
  @sIf (s.τ 40) ⟨W7_b39 P Φ s⟩ ⟨W7_k38 P Φ s⟩
def W7_b41 (P : Program) (Φ : Exit → St → Prop) (s : St) : Prop :=
  @sOp (some 35) (xBuild [.int .i64 0, .int .i64 0, .int .i64 0, .str ⟨#[]⟩, .int .i64 0, .int .i64 0, .str ⟨#[]⟩, .nils, .nils] [] s.H) s <| .mk fun s =>
  @sOp (some 36) (xBuild [.int .i64 0, .int .i64 0, .int .i64 0, .str ⟨#[]⟩, .int .i64 0, .int .i64 0, .str ⟨#[]⟩, .nils, .nils] [] s.H) s <| .mk fun s =>
  @sOp (some 37) (xLit 9 2 [.int .i64 0, .int .i64 0, .int .i64 0, .str ⟨#[]⟩, .int .i64 0, .int .i64 0, .str ⟨#[]⟩, .nils, .nils] [(0, (s.τ 35)), (1, (s.τ 36))] s.H) s <| .mk fun s =>
  @sOp (some 38) (xFld 8 (s.τ 4) s.H) s <| .mk fun s =>
  @sOp none (xStore 1 (s.τ 38) (s.τ 37) s.H) s <| .mk fun s =>
  W7_k40 P Φ s
def W7_c42 (P : Program) (Φ : Exit → St → Prop) (s : St) : Prop :=
  @sOp (some 34) (xPick (s.τ 31) (.bool true) (s.τ 33) s.H) s <| .mk fun s =>
  @sIf (s.τ 34) ⟨W7_b41 P Φ s⟩ ⟨W7_k40 P Φ s⟩
def W7_c43 (P : Program) (Φ : Exit → St → Prop) (s : St) : Prop :=
  @sGrd (guardOf (s.τ 31) false) (some 33) s ⟨fun s K => @sOp (some 33) (xBin .eql false (s.τ 32) (.int .i64 10) s.H) s ⟨K⟩⟩ ⟨W7_c42 P Φ⟩
def W7_k44 (P : Program) (Φ : Exit → St → Prop) (s : St) : Prop :=
  @sOp (some 29) (xMov (s.τ 3) s.H) s <| .mk fun s =>
  @sOp (some 30) (xBin .eql false (s.τ 29) (.int .i64 9) s.H) s <| .mk fun s =>
  @sOp (some 31) (xMov (s.τ 30) s.H) s <| .mk fun s =>
  @sGrd (guardOf (s.τ 31) false) (some 32) s ⟨fun s K => @sOp (some 32) (xMov (s.τ 3) s.H) s ⟨K⟩⟩ ⟨W7_c43 P Φ⟩
def W7_b45 (P : Program) (Φ : Exit → St → Prop) (s : St) : Prop :=
  @sOp (some 27) (xBuild [.int .i64 0, .int .i64 0, .str ⟨#[]⟩, .nils] [(0, 1, (.int .i64 1)), (1, 1, (.int .i64 1))] s.H) s <| .mk fun s =>
  @sOp (some 28) (xFld 4 (s.τ 4) s.H) s <| .mk fun s =>
  @sOp none (xStore 4 (s.τ 28) (s.τ 27) s.H) s <| .mk fun s =>
  W7_k44 P Φ s
def W7_c46 (P : Program) (Φ : Exit → St → Prop) (s : St) : Prop :=
  @sOp (some 26) (xPick (s.τ 23) (.bool true) (s.τ 25) s.H) s <| .mk fun s =>
  @sIf (s.τ 26) ⟨W7_b45 P Φ s⟩ ⟨W7_k44 P Φ s⟩
def W7_c47 (P : Program) (Φ : Exit → St → Prop) (s : St) : Prop :=
  @sGrd (guardOf (s.τ 23) false) (some 25) s ⟨fun s K => @sOp (some 25) (xBin .eql false (s.τ 24) (.int .i64 9) s.H) s ⟨K⟩⟩ ⟨W7_c46 P Φ⟩
def W7_k48 (P : Program) (Φ : Exit → St → Prop) (s : St) : Prop :=
  @sOp (some 21) (xMov (s.τ 3) s.H) s <| .mk fun s =>
  @sOp (some 22) (xBin .eql false (s.τ 21) (.int .i64 2) s.H) s <| .mk fun s =>
  @sOp (some 23) (xMov (s.τ 22) s.H) s <| .mk fun s =>
  @sGrd (guardOf (s.τ 23) false) (some 24) s ⟨fun s K => @sOp (some 24) (xMov (s.τ 3) s.H) s ⟨K⟩⟩ ⟨W7_c47 P Φ⟩
def W7_b49 (P : Program) (Φ : Exit → St → Prop) (s : St) : Prop :=
  @sOp (some 20) (xFld 3 (s.τ 4) s.H) s <| .mk fun s =>
  @sOp none (xStore 1 (s.τ 20) (.str ⟨#[112, 97, 121]⟩) s.H) s <| .mk fun s =>
  W7_k48 P Φ s
def W7_c50 (P : Program) (Φ : Exit → St → Prop) (s : St) : Prop :=
  @sOp (some 19) (xPick (s.τ 16) (.bool true) (s.τ 18) s.H) s <| .mk fun s =>
  @sIf (s.τ 19) ⟨W7_b49 P Φ s⟩ ⟨W7_k48 P Φ s⟩
def W7_c51 (P : Program) (Φ : Exit → St → Prop) (s : St) : Prop :=
  @sGrd (guardOf (s.τ 16) false) (some 18) s ⟨fun s K => @sOp (some 18) (xBin .eql false (s.τ 17) (.int .i64 14) s.H) s ⟨K⟩⟩ ⟨W7_c50 P Φ⟩
def W7_c52 (P : Program) (Φ : Exit → St → Prop) (s : St) : Prop :=
  @sOp (some 3) (xMov (s.τ 11) s.H) s <| .mk fun s =>
  @sOp (some 12) (xMov (s.τ 3) s.H) s <| .mk fun s =>
  @sOp (some 13) (xBuild [.int .i64 0, .int .i64 0, .int .i64 0, .str ⟨#[]⟩, .int .i64 0, .int .i64 0, .str ⟨#[]⟩, .nils, .nils] [(0, 1, (s.τ 12))] s.H) s <| .mk fun s =>
  @sOp (some 4) (xAlloc 4 34 [.int .i64 0, .int .i64 0, .int .i64 0, .str ⟨#[]⟩, .int .i64 0, .int .i64 0, .str ⟨#[]⟩, .nils, .nils] s.H) s <| .mk fun s =>
  @sOp none (xStore 9 (s.τ 4) (s.τ 13) s.H) s <| .mk fun s =>
  @sOp (some 14) (xMov (s.τ 3) s.H) s <| .mk fun s =>
  @sOp (some 15) (xBin .eql false (s.τ 14) (.int .i64 1) s.H) s <| .mk fun s =>
  @sOp (some 16) (xMov (s.τ 15) s.H) s <| .mk fun s =>
  @sGrd (guardOf (s.τ 16) false) (some 17) s ⟨fun s K => @sOp (some 17) (xMov (s.τ 3) s.H) s ⟨K⟩⟩ ⟨W7_c51 P Φ⟩
def W7_b53 (P : Program) (Φ : Exit → St → Prop) (s : St) : Prop :=
  @sOp (some 10) (xMov (s.τ 0) s.H) s <| .mk fun s =>
  @sCall P (.func 29 []) [(s.τ 10), (.int .i64 15)] (some 11) s ⟨W7_c52 P Φ⟩
def W7_c54 (P : Program) (Φ : Exit → St → Prop) (s : St) : Prop :=
  @sOp (some 9) (xNot (s.τ 8) s.H) s <| .mk fun s =>
  @sIf (s.τ 9) ⟨W7_b1 P Φ s⟩ ⟨W7_b53 P Φ s⟩
def W7 (P : Program) (Φ : Exit → St → Prop) (s : St) : Prop :=
  @sOp (some 2) (xMov (.bool false) s.H) s <| .mk fun s =>
  @sCall P (.func 20 []) [] (some 8) s ⟨W7_c54 P Φ⟩
theorem W7_rs (τ : Nat → AV) (H : Heap) : resV Try.prog τ H [.tmp 2] = some (τ 2) := by kernel_rfl
theorem W7_eq (Φ : Exit → St → Prop) (s : St) : awp Try.prog (Try.f7.body.getD .skip) Φ s = W7 Try.prog Φ s := by kernel_rfl


end Go.Proofs.Ytkagfenchknjjaa
