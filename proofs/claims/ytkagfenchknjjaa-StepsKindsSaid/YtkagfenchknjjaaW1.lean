import Derived.Test.YtkagfenchknjjaaAmSimp
import Derived.Test.YtkagfenchknjjaaProg
import Derived.KernelRfl
set_option linter.unusedVariables false
namespace Go.Proofs.Ytkagfenchknjjaa
open Go Go.Am
-- 7 "penance/penancelaw7.StepsKinds"
def W7_b1 (P : Program) (Φ : Exit → St → Prop) (s : St) : Prop :=
  @sOp (some 2) (xMov (.bool false) s.H) s <| .mk fun s =>
  Φ .ret s
def W7_k2 (P : Program) (Φ : Exit → St → Prop) (s : St) : Prop :=
  @sOp (some 107) (xMov (s.τ 6) s.H) s <| .mk fun s =>
  @sOp (some 108) (xLen (s.τ 107) s.H) s <| .mk fun s =>
  @sOp (some 109) (xMov (s.τ 5) s.H) s <| .mk fun s =>
  @sOp (some 110) (xBin .eql false (s.τ 108) (s.τ 109) s.H) s <| .mk fun s =>
  @sOp (some 2) (xMov (s.τ 110) s.H) s <| .mk fun s =>
  Φ .ret s
def W7_b3 (P : Program) (Φ : Exit → St → Prop) (L0 : St → Prop) (s : St) : Prop :=
  @sOp (some 2) (xMov (.bool false) s.H) s <| .mk fun s =>
  Φ .ret s
def W7_b4 (P : Program) (Φ : Exit → St → Prop) (L0 : St → Prop) (s : St) : Prop :=
  @sOp (some 80) (xMov (s.τ 7) s.H) s <| .mk fun s =>
  @sOp (some 81) (xBin .add false (s.τ 80) (.int .i64 1) s.H) s <| .mk fun s =>
  @sOp (some 7) (xMov (s.τ 81) s.H) s <| .mk fun s =>
  L0 s
def W7_c5 (P : Program) (Φ : Exit → St → Prop) (L0 : St → Prop) (s : St) : Prop :=
  @sOp (some 106) (xPick (s.τ 98) (.bool true) (s.τ 105) s.H) s <| .mk fun s =>
  @sIf (s.τ 106) ⟨W7_b3 P Φ L0 s⟩ ⟨W7_b4 P Φ L0 s⟩
def W7_c6 (P : Program) (Φ : Exit → St → Prop) (L0 : St → Prop) (s : St) : Prop :=
  @sGrd (guardOf (s.τ 98) false) (some 105) s ⟨fun s K => @sOp (some 105) (xBin .neq false (s.τ 103) (s.τ 104) s.H) s ⟨K⟩⟩ ⟨W7_c5 P Φ L0⟩
def W7_c7 (P : Program) (Φ : Exit → St → Prop) (L0 : St → Prop) (s : St) : Prop :=
  @sGrd (guardOf (s.τ 98) false) (some 104) s ⟨fun s K => @sOp (some 104) (xMov (s.τ 7) s.H) s ⟨K⟩⟩ ⟨W7_c6 P Φ L0⟩
def W7_c8 (P : Program) (Φ : Exit → St → Prop) (L0 : St → Prop) (s : St) : Prop :=
  @sGrd (guardOf (s.τ 98) false) (some 103) s ⟨fun s K => @sOp (some 103) (xLoad 1 false (s.τ 102) s.H) s ⟨K⟩⟩ ⟨W7_c7 P Φ L0⟩
def W7_c9 (P : Program) (Φ : Exit → St → Prop) (L0 : St → Prop) (s : St) : Prop :=
  @sGrd (guardOf (s.τ 98) false) (some 102) s ⟨fun s K => @sOp (some 102) (xFld 2 (s.τ 101) s.H) s ⟨K⟩⟩ ⟨W7_c8 P Φ L0⟩
def W7_c10 (P : Program) (Φ : Exit → St → Prop) (L0 : St → Prop) (s : St) : Prop :=
  @sGrd (guardOf (s.τ 98) false) (some 101) s ⟨fun s K => @sOp (some 101) (xIx 3 (s.τ 99) (s.τ 100) s.H) s ⟨K⟩⟩ ⟨W7_c9 P Φ L0⟩
def W7_c11 (P : Program) (Φ : Exit → St → Prop) (L0 : St → Prop) (s : St) : Prop :=
  @sGrd (guardOf (s.τ 98) false) (some 100) s ⟨fun s K => @sOp (some 100) (xMov (s.τ 7) s.H) s ⟨K⟩⟩ ⟨W7_c10 P Φ L0⟩
def W7_c12 (P : Program) (Φ : Exit → St → Prop) (L0 : St → Prop) (s : St) : Prop :=
  @sOp (some 97) (xPick (s.τ 89) (.bool true) (s.τ 96) s.H) s <| .mk fun s =>
  @sOp (some 98) (xMov (s.τ 97) s.H) s <| .mk fun s =>
  @sGrd (guardOf (s.τ 98) false) (some 99) s ⟨fun s K => @sOp (some 99) (xMov (s.τ 6) s.H) s ⟨K⟩⟩ ⟨W7_c11 P Φ L0⟩
def W7_c13 (P : Program) (Φ : Exit → St → Prop) (L0 : St → Prop) (s : St) : Prop :=
  @sGrd (guardOf (s.τ 89) false) (some 96) s ⟨fun s K => @sOp (some 96) (xBin .neq false (s.τ 95) (.int .i64 0) s.H) s ⟨K⟩⟩ ⟨W7_c12 P Φ L0⟩
def W7_c14 (P : Program) (Φ : Exit → St → Prop) (L0 : St → Prop) (s : St) : Prop :=
  @sGrd (guardOf (s.τ 89) false) (some 95) s ⟨fun s K => @sOp (some 95) (xLen (s.τ 94) s.H) s ⟨K⟩⟩ ⟨W7_c13 P Φ L0⟩
def W7_c15 (P : Program) (Φ : Exit → St → Prop) (L0 : St → Prop) (s : St) : Prop :=
  @sGrd (guardOf (s.τ 89) false) (some 94) s ⟨fun s K => @sOp (some 94) (xLoad 1 false (s.τ 93) s.H) s ⟨K⟩⟩ ⟨W7_c14 P Φ L0⟩
def W7_c16 (P : Program) (Φ : Exit → St → Prop) (L0 : St → Prop) (s : St) : Prop :=
  @sGrd (guardOf (s.τ 89) false) (some 93) s ⟨fun s K => @sOp (some 93) (xFld 1 (s.τ 92) s.H) s ⟨K⟩⟩ ⟨W7_c15 P Φ L0⟩
def W7_c17 (P : Program) (Φ : Exit → St → Prop) (L0 : St → Prop) (s : St) : Prop :=
  @sGrd (guardOf (s.τ 89) false) (some 92) s ⟨fun s K => @sOp (some 92) (xIx 3 (s.τ 90) (s.τ 91) s.H) s ⟨K⟩⟩ ⟨W7_c16 P Φ L0⟩
def W7_c18 (P : Program) (Φ : Exit → St → Prop) (L0 : St → Prop) (s : St) : Prop :=
  @sGrd (guardOf (s.τ 89) false) (some 91) s ⟨fun s K => @sOp (some 91) (xMov (s.τ 7) s.H) s ⟨K⟩⟩ ⟨W7_c17 P Φ L0⟩
def W7_b19 (P : Program) (Φ : Exit → St → Prop) (L0 : St → Prop) (s : St) : Prop :=
  @sOp (some 82) (xMov (s.τ 6) s.H) s <| .mk fun s =>
  @sOp (some 83) (xMov (s.τ 7) s.H) s <| .mk fun s =>
  @sOp (some 84) (xIx 3 (s.τ 82) (s.τ 83) s.H) s <| .mk fun s =>
  @sOp (some 85) (xFld 0 (s.τ 84) s.H) s <| .mk fun s =>
  @sOp (some 86) (xLoad 1 false (s.τ 85) s.H) s <| .mk fun s =>
  @sOp (some 87) (xMov (s.τ 3) s.H) s <| .mk fun s =>
  @sOp (some 88) (xBin .neq false (s.τ 86) (s.τ 87) s.H) s <| .mk fun s =>
  @sOp (some 89) (xMov (s.τ 88) s.H) s <| .mk fun s =>
  @sGrd (guardOf (s.τ 89) false) (some 90) s ⟨fun s K => @sOp (some 90) (xMov (s.τ 6) s.H) s ⟨K⟩⟩ ⟨W7_c18 P Φ L0⟩
def W7_l20 (P : Program) (Φ : Exit → St → Prop) (L0 : St → Prop) (s : St) : Prop :=
  @sOp (some 76) (xMov (s.τ 7) s.H) s <| .mk fun s =>
  @sOp (some 77) (xMov (s.τ 6) s.H) s <| .mk fun s =>
  @sOp (some 78) (xLen (s.τ 77) s.H) s <| .mk fun s =>
  @sOp (some 79) (xBin .lss false (s.τ 76) (s.τ 78) s.H) s <| .mk fun s =>
  @sIf (s.τ 79) ⟨W7_b19 P Φ L0 s⟩ ⟨W7_k2 P Φ s⟩
def W7_c21 (P : Program) (Φ : Exit → St → Prop) (s : St) : Prop :=
  @sOp (some 6) (xMov (s.τ 75) s.H) s <| .mk fun s =>
  @sOp (some 7) (xMov (.int .i64 0) s.H) s <| .mk fun s =>
  @sLoop s ⟨fun L0 s => W7_l20 P Φ L0 s⟩
def W7_k22 (P : Program) (Φ : Exit → St → Prop) (s : St) : Prop :=
  @sOp (some 74) (xLoad 9 true (s.τ 4) s.H) s <| .mk fun s =>
  @sCall P (.func 24 []) [(s.τ 74)] (some 75) s ⟨W7_c21 P Φ⟩
def W7_b23 (P : Program) (Φ : Exit → St → Prop) (s : St) : Prop :=
  @sOp (some 70) (xFld 8 (s.τ 4) s.H) s <| .mk fun s =>
  @sOp (some 71) (xLoad 1 false (s.τ 70) s.H) s <| .mk fun s =>
  @sOp (some 72) (xSlc 9 (s.τ 71) none (some (.int .i64 1)) s.H) s <| .mk fun s =>
  @sOp (some 73) (xFld 8 (s.τ 4) s.H) s <| .mk fun s =>
  @sOp none (xStore 1 (s.τ 73) (s.τ 72) s.H) s <| .mk fun s =>
  W7_k22 P Φ s
def W7_b24 (P : Program) (Φ : Exit → St → Prop) (s : St) : Prop :=
  @sOp (some 63) (xMov (s.τ 3) s.H) s <| .mk fun s =>
  @sOp (some 64) (xBuild [.int .i64 0, .int .i64 0, .int .i64 0, .str ⟨#[]⟩, .int .i64 0, .int .i64 0, .str ⟨#[]⟩, .nils, .nils] [] s.H) s <| .mk fun s =>
  @sOp (some 65) (xBuild [.int .i64 0, .int .i64 0, .int .i64 0, .str ⟨#[]⟩, .int .i64 0, .int .i64 0, .str ⟨#[]⟩, .nils, .nils] [] s.H) s <| .mk fun s =>
  @sOp (some 66) (xLit 9 2 [.int .i64 0, .int .i64 0, .int .i64 0, .str ⟨#[]⟩, .int .i64 0, .int .i64 0, .str ⟨#[]⟩, .nils, .nils] [(0, (s.τ 64)), (1, (s.τ 65))] s.H) s <| .mk fun s =>
  @sOp (some 67) (xBuild [.int .i64 0, .int .i64 0, .int .i64 0, .str ⟨#[]⟩, .int .i64 0, .int .i64 0, .str ⟨#[]⟩, .nils, .nils] [(0, 1, (s.τ 63)), (8, 1, (s.τ 66))] s.H) s <| .mk fun s =>
  @sOp none (xStore 9 (s.τ 4) (s.τ 67) s.H) s <| .mk fun s =>
  @sOp (some 68) (xMov (s.τ 3) s.H) s <| .mk fun s =>
  @sOp (some 69) (xBin .eql false (s.τ 68) (.int .i64 7) s.H) s <| .mk fun s =>
  @sIf (s.τ 69) ⟨W7_b23 P Φ s⟩ ⟨W7_k22 P Φ s⟩
def W7_c25 (P : Program) (Φ : Exit → St → Prop) (s : St) : Prop :=
  @sOp (some 62) (xPick (s.τ 59) (.bool true) (s.τ 61) s.H) s <| .mk fun s =>
  @sIf (s.τ 62) ⟨W7_b24 P Φ s⟩ ⟨W7_k22 P Φ s⟩
def W7_c26 (P : Program) (Φ : Exit → St → Prop) (s : St) : Prop :=
  @sGrd (guardOf (s.τ 59) false) (some 61) s ⟨fun s K => @sOp (some 61) (xBin .eql false (s.τ 60) (.int .i64 7) s.H) s ⟨K⟩⟩ ⟨W7_c25 P Φ⟩
def W7_c27 (P : Program) (Φ : Exit → St → Prop) (s : St) : Prop :=
  @sOp (some 58) (xPick (s.τ 55) (.bool true) (s.τ 57) s.H) s <| .mk fun s =>
  @sOp (some 59) (xMov (s.τ 58) s.H) s <| .mk fun s =>
  @sGrd (guardOf (s.τ 59) false) (some 60) s ⟨fun s K => @sOp (some 60) (xMov (s.τ 3) s.H) s ⟨K⟩⟩ ⟨W7_c26 P Φ⟩
def W7_c28 (P : Program) (Φ : Exit → St → Prop) (s : St) : Prop :=
  @sGrd (guardOf (s.τ 55) false) (some 57) s ⟨fun s K => @sOp (some 57) (xBin .eql false (s.τ 56) (.int .i64 11) s.H) s ⟨K⟩⟩ ⟨W7_c27 P Φ⟩
def W7_k29 (P : Program) (Φ : Exit → St → Prop) (s : St) : Prop :=
  @sOp (some 53) (xMov (s.τ 3) s.H) s <| .mk fun s =>
  @sOp (some 54) (xBin .eql false (s.τ 53) (.int .i64 12) s.H) s <| .mk fun s =>
  @sOp (some 55) (xMov (s.τ 54) s.H) s <| .mk fun s =>
  @sGrd (guardOf (s.τ 55) false) (some 56) s ⟨fun s K => @sOp (some 56) (xMov (s.τ 3) s.H) s ⟨K⟩⟩ ⟨W7_c28 P Φ⟩
def W7_b30 (P : Program) (Φ : Exit → St → Prop) (s : St) : Prop :=
  @sOp (some 5) (xMov (.int .i64 0) s.H) s <| .mk fun s =>
  W7_k29 P Φ s
def W7_b31 (P : Program) (Φ : Exit → St → Prop) (s : St) : Prop :=
  @sOp (some 5) (xMov (.int .i64 2) s.H) s <| .mk fun s =>
  W7_k29 P Φ s
def W7_b32 (P : Program) (Φ : Exit → St → Prop) (s : St) : Prop :=
  @sOp (some 52) (xBin .eql false (s.τ 44) (.int .i64 10) s.H) s <| .mk fun s =>
  @sOp (some 51) (xMov (s.τ 52) s.H) s <| .mk fun s =>
  @sIf (s.τ 51) ⟨W7_b31 P Φ s⟩ ⟨W7_k29 P Φ s⟩
def W7_k33 (P : Program) (Φ : Exit → St → Prop) (s : St) : Prop :=
  @sIf (s.τ 45) ⟨W7_b30 P Φ s⟩ ⟨W7_b32 P Φ s⟩
def W7_b34 (P : Program) (Φ : Exit → St → Prop) (s : St) : Prop :=
  @sOp (some 50) (xBin .eql false (s.τ 44) (.int .i64 7) s.H) s <| .mk fun s =>
  @sOp (some 45) (xMov (s.τ 50) s.H) s <| .mk fun s =>
  W7_k33 P Φ s
def W7_b35 (P : Program) (Φ : Exit → St → Prop) (s : St) : Prop :=
  @sOp (some 49) (xBin .eql false (s.τ 44) (.int .i64 11) s.H) s <| .mk fun s =>
  @sOp (some 45) (xMov (s.τ 49) s.H) s <| .mk fun s =>
  @sIf (s.τ 45) ⟨W7_k33 P Φ s⟩ ⟨W7_b34 P Φ s⟩
def W7_b36 (P : Program) (Φ : Exit → St → Prop) (s : St) : Prop :=
  @sOp (some 48) (xBin .eql false (s.τ 44) (.int .i64 12) s.H) s <| .mk fun s =>
  @sOp (some 45) (xMov (s.τ 48) s.H) s <| .mk fun s =>
  @sIf (s.τ 45) ⟨W7_k33 P Φ s⟩ ⟨W7_b35 P Φ s⟩
def W7_b37 (P : Program) (Φ : Exit → St → Prop) (s : St) : Prop :=
  @sOp (some 47) (xBin .eql false (s.τ 44) (.int .i64 14) s.H) s <| .mk fun s =>
  @sOp (some 45) (xMov (s.τ 47) s.H) s <| .mk fun s =>
  @sIf (s.τ 45) ⟨W7_k33 P Φ s⟩ ⟨W7_b36 P Φ s⟩
def W7_k38 (P : Program) (Φ : Exit → St → Prop) (s : St) : Prop :=
  @sOp (some 5) (xMov (.int .i64 1) s.H) s <| .mk fun s =>
  @sOp (some 44) (xMov (s.τ 3) s.H) s <| .mk fun s =>
  @sOp (some 46) (xBin .eql false (s.τ 44) (.int .i64 0) s.H) s <| .mk fun s =>
  @sOp (some 45) (xMov (s.τ 46) s.H) s <| .mk fun s =>
  @sIf (s.τ 45) ⟨W7_k33 P Φ s⟩ ⟨W7_b37 P Φ s⟩
def W7_b39 (P : Program) (Φ : Exit → St → Prop) (s : St) : Prop :=
  @sOp (some 41) (xBuild [.int .i64 0, .int .i64 0, .int .i64 0, .str ⟨#[]⟩, .int .i64 0, .int .i64 0, .str ⟨#[]⟩, .nils, .nils] [] s.H) s <| .mk fun s =>
  @sOp (some 42) (xLit 9 1 [.int .i64 0, .int .i64 0, .int .i64 0, .str ⟨#[]⟩, .int .i64 0, .int .i64 0, .str ⟨#[]⟩, .nils, .nils] [(0, (s.τ 41))] s.H) s <| .mk fun s =>
  @sOp (some 43) (xFld 8 (s.τ 4) s.H) s <| .mk fun s =>
  @sOp none (xStore 1 (s.τ 43) (s.τ 42) s.H) s <| .mk fun s =>
  W7_k38 P Φ s
def W7_k40 (P : Program) (Φ : Exit → St → Prop) (s : St) : Prop :=
  @sOp (some 39) (xMov (s.τ 3) s.H) s <| .mk fun s =>
  @sOp (some 40) (xBin .eql false (s.τ 39) (.int .i64 3) s.H) s <| .mk fun s =>
  @sIf (s.τ 40) ⟨W7_b39 P Φ s⟩ ⟨W7_k38 P Φ s⟩
def W7_b41 (P : Program) (Φ : Exit → St → Prop) (s : St) : Prop :=
  @sOp (some 35) (xBuild [.int .i64 0, .int .i64 0, .int .i64 0, .str ⟨#[]⟩, .int .i64 0, .int .i64 0, .str ⟨#[]⟩, .nils, .nils] [] s.H) s <| .mk fun s =>
  @sOp (some 36) (xBuild [.int .i64 0, .int .i64 0, .int .i64 0, .str ⟨#[]⟩, .int .i64 0, .int .i64 0, .str ⟨#[]⟩, .nils, .nils] [] s.H) s <| .mk fun s =>
  @sOp (some 37) (xLit 9 2 [.int .i64 0, .int .i64 0, .int .i64 0, .str ⟨#[]⟩, .int .i64 0, .int .i64 0, .str ⟨#[]⟩, .nils, .nils] [(0, (s.τ 35)), (1, (s.τ 36))] s.H) s <| .mk fun s =>
  @sOp (some 38) (xFld 8 (s.τ 4) s.H) s <| .mk fun s =>
  @sOp none (xStore 1 (s.τ 38) (s.τ 37) s.H) s <| .mk fun s =>
  W7_k40 P Φ s
def W7_c42 (P : Program) (Φ : Exit → St → Prop) (s : St) : Prop :=
  @sOp (some 34) (xPick (s.τ 31) (.bool true) (s.τ 33) s.H) s <| .mk fun s =>
  @sIf (s.τ 34) ⟨W7_b41 P Φ s⟩ ⟨W7_k40 P Φ s⟩
def W7_c43 (P : Program) (Φ : Exit → St → Prop) (s : St) : Prop :=
  @sGrd (guardOf (s.τ 31) false) (some 33) s ⟨fun s K => @sOp (some 33) (xBin .eql false (s.τ 32) (.int .i64 10) s.H) s ⟨K⟩⟩ ⟨W7_c42 P Φ⟩
def W7_k44 (P : Program) (Φ : Exit → St → Prop) (s : St) : Prop :=
  @sOp (some 29) (xMov (s.τ 3) s.H) s <| .mk fun s =>
  @sOp (some 30) (xBin .eql false (s.τ 29) (.int .i64 9) s.H) s <| .mk fun s =>
  @sOp (some 31) (xMov (s.τ 30) s.H) s <| .mk fun s =>
  @sGrd (guardOf (s.τ 31) false) (some 32) s ⟨fun s K => @sOp (some 32) (xMov (s.τ 3) s.H) s ⟨K⟩⟩ ⟨W7_c43 P Φ⟩
def W7_b45 (P : Program) (Φ : Exit → St → Prop) (s : St) : Prop :=
  @sOp (some 27) (xBuild [.int .i64 0, .int .i64 0, .str ⟨#[]⟩, .nils] [(0, 1, (.int .i64 1)), (1, 1, (.int .i64 1))] s.H) s <| .mk fun s =>
  @sOp (some 28) (xFld 4 (s.τ 4) s.H) s <| .mk fun s =>
  @sOp none (xStore 4 (s.τ 28) (s.τ 27) s.H) s <| .mk fun s =>
  W7_k44 P Φ s
def W7_c46 (P : Program) (Φ : Exit → St → Prop) (s : St) : Prop :=
  @sOp (some 26) (xPick (s.τ 23) (.bool true) (s.τ 25) s.H) s <| .mk fun s =>
  @sIf (s.τ 26) ⟨W7_b45 P Φ s⟩ ⟨W7_k44 P Φ s⟩
def W7_c47 (P : Program) (Φ : Exit → St → Prop) (s : St) : Prop :=
  @sGrd (guardOf (s.τ 23) false) (some 25) s ⟨fun s K => @sOp (some 25) (xBin .eql false (s.τ 24) (.int .i64 9) s.H) s ⟨K⟩⟩ ⟨W7_c46 P Φ⟩
def W7_k48 (P : Program) (Φ : Exit → St → Prop) (s : St) : Prop :=
  @sOp (some 21) (xMov (s.τ 3) s.H) s <| .mk fun s =>
  @sOp (some 22) (xBin .eql false (s.τ 21) (.int .i64 2) s.H) s <| .mk fun s =>
  @sOp (some 23) (xMov (s.τ 22) s.H) s <| .mk fun s =>
  @sGrd (guardOf (s.τ 23) false) (some 24) s ⟨fun s K => @sOp (some 24) (xMov (s.τ 3) s.H) s ⟨K⟩⟩ ⟨W7_c47 P Φ⟩
def W7_b49 (P : Program) (Φ : Exit → St → Prop) (s : St) : Prop :=
  @sOp (some 20) (xFld 3 (s.τ 4) s.H) s <| .mk fun s =>
  @sOp none (xStore 1 (s.τ 20) (.str ⟨#[112, 97, 121]⟩) s.H) s <| .mk fun s =>
  W7_k48 P Φ s
def W7_c50 (P : Program) (Φ : Exit → St → Prop) (s : St) : Prop :=
  @sOp (some 19) (xPick (s.τ 16) (.bool true) (s.τ 18) s.H) s <| .mk fun s =>
  @sIf (s.τ 19) ⟨W7_b49 P Φ s⟩ ⟨W7_k48 P Φ s⟩
def W7_c51 (P : Program) (Φ : Exit → St → Prop) (s : St) : Prop :=
  @sGrd (guardOf (s.τ 16) false) (some 18) s ⟨fun s K => @sOp (some 18) (xBin .eql false (s.τ 17) (.int .i64 14) s.H) s ⟨K⟩⟩ ⟨W7_c50 P Φ⟩
def W7_c52 (P : Program) (Φ : Exit → St → Prop) (s : St) : Prop :=
  @sOp (some 3) (xMov (s.τ 11) s.H) s <| .mk fun s =>
  @sOp (some 12) (xMov (s.τ 3) s.H) s <| .mk fun s =>
  @sOp (some 13) (xBuild [.int .i64 0, .int .i64 0, .int .i64 0, .str ⟨#[]⟩, .int .i64 0, .int .i64 0, .str ⟨#[]⟩, .nils, .nils] [(0, 1, (s.τ 12))] s.H) s <| .mk fun s =>
  @sOp (some 4) (xAlloc 4 34 [.int .i64 0, .int .i64 0, .int .i64 0, .str ⟨#[]⟩, .int .i64 0, .int .i64 0, .str ⟨#[]⟩, .nils, .nils] s.H) s <| .mk fun s =>
  @sOp none (xStore 9 (s.τ 4) (s.τ 13) s.H) s <| .mk fun s =>
  @sOp (some 14) (xMov (s.τ 3) s.H) s <| .mk fun s =>
  @sOp (some 15) (xBin .eql false (s.τ 14) (.int .i64 1) s.H) s <| .mk fun s =>
  @sOp (some 16) (xMov (s.τ 15) s.H) s <| .mk fun s =>
  @sGrd (guardOf (s.τ 16) false) (some 17) s ⟨fun s K => @sOp (some 17) (xMov (s.τ 3) s.H) s ⟨K⟩⟩ ⟨W7_c51 P Φ⟩
def W7_b53 (P : Program) (Φ : Exit → St → Prop) (s : St) : Prop :=
  @sOp (some 10) (xMov (s.τ 0) s.H) s <| .mk fun s =>
  @sCall P (.func 29 []) [(s.τ 10), (.int .i64 15)] (some 11) s ⟨W7_c52 P Φ⟩
def W7_c54 (P : Program) (Φ : Exit → St → Prop) (s : St) : Prop :=
  @sOp (some 9) (xNot (s.τ 8) s.H) s <| .mk fun s =>
  @sIf (s.τ 9) ⟨W7_b1 P Φ s⟩ ⟨W7_b53 P Φ s⟩
def W7 (P : Program) (Φ : Exit → St → Prop) (s : St) : Prop :=
  @sOp (some 2) (xMov (.bool false) s.H) s <| .mk fun s =>
  @sCall P (.func 20 []) [] (some 8) s ⟨W7_c54 P Φ⟩
theorem W7_rs (τ : Nat → AV) (H : Heap) : resV Try.prog τ H [.tmp 2] = some (τ 2) := by kernel_rfl
theorem W7_eq (Φ : Exit → St → Prop) (s : St) : awp Try.prog (Try.f7.body.getD .skip) Φ s = W7 Try.prog Φ s := by kernel_rfl

-- 8 "penance/penancelaw7.StepsBlocks"
def W8_b1 (P : Program) (Φ : Exit → St → Prop) (s : St) : Prop :=
  @sOp (some 4) (xMov (.bool false) s.H) s <| .mk fun s =>
  Φ .ret s
def W8_b2 (P : Program) (Φ : Exit → St → Prop) (s : St) : Prop :=
  @sOp (some 4) (xMov (.bool true) s.H) s <| .mk fun s =>
  Φ .ret s
def W8_b3 (P : Program) (Φ : Exit → St → Prop) (s : St) : Prop :=
  @sOp (some 4) (xMov (.bool false) s.H) s <| .mk fun s =>
  Φ .ret s
def W8_c4 (P : Program) (Φ : Exit → St → Prop) (s : St) : Prop :=
  @sOp (some 108) (xBin .eql false (s.τ 105) (s.τ 107) s.H) s <| .mk fun u5 =>
  @sOp (some 4) (xMov (u5.τ 108) u5.H) u5 <| .mk fun s =>
  Φ .ret s
def W8_c5 (P : Program) (Φ : Exit → St → Prop) (u1 : St) (s : St) : Prop :=
  @sChk (compat ([105] ++ (occ (.func 30 []) ++ occL [(u1.τ 104)]), [105] ++ (occ (.func 30 []) ++ occL [(u1.τ 104)])) (occ (s.τ 6), [])) <| .mk <|
  @sOp (some 106) (xLoad 9 true (s.τ 6) s.H) s <| .mk fun u3 =>
  @sCall0 P (.func 30 []) [(u3.τ 106)] (some 107) u3 ⟨W8_c4 P Φ⟩
def W8_k6 (P : Program) (Φ : Exit → St → Prop) (s : St) : Prop :=
  @sOp (some 104) (xLoad 9 true (s.τ 5) s.H) s <| .mk fun u1 =>
  @sCall0 P (.func 30 []) [(u1.τ 104)] (some 105) u1 ⟨W8_c5 P Φ u1⟩
def W8_b7 (P : Program) (Φ : Exit → St → Prop) (L0 : St → Prop) (s : St) : Prop :=
  @sOp (some 4) (xMov (.bool false) s.H) s <| .mk fun s =>
  Φ .ret s
def W8_b8 (P : Program) (Φ : Exit → St → Prop) (L0 : St → Prop) (s : St) : Prop :=
  @sOp (some 43) (xMov (s.τ 10) s.H) s <| .mk fun s =>
  @sOp (some 44) (xBin .add false (s.τ 43) (.int .i64 1) s.H) s <| .mk fun s =>
  @sOp (some 10) (xMov (s.τ 44) s.H) s <| .mk fun s =>
  L0 s
def W8_c9 (P : Program) (Φ : Exit → St → Prop) (L0 : St → Prop) (s : St) : Prop :=
  @sOp (some 103) (xPick (s.τ 87) (.bool true) (s.τ 102) s.H) s <| .mk fun s =>
  @sIf (s.τ 103) ⟨W8_b7 P Φ L0 s⟩ ⟨W8_b8 P Φ L0 s⟩
def W8_c10 (P : Program) (Φ : Exit → St → Prop) (L0 : St → Prop) (s : St) : Prop :=
  @sGrd (guardOf (s.τ 87) false) (some 102) s ⟨fun s K => @sOp (some 102) (xNot (s.τ 101) s.H) s ⟨K⟩⟩ ⟨W8_c9 P Φ L0⟩
def W8_c11 (P : Program) (Φ : Exit → St → Prop) (L0 : St → Prop) (s : St) : Prop :=
  @sGrd (guardOf (s.τ 87) false) (some 101) s ⟨fun s K => @sCall0 P (.func 27 []) [(s.τ 95), (s.τ 100)] (some 101) s ⟨K⟩⟩ ⟨W8_c10 P Φ L0⟩
def W8_c12 (P : Program) (Φ : Exit → St → Prop) (L0 : St → Prop) (u49 : St) (s : St) : Prop :=
  @sChk (compat ([94] ++ (occ (.func 29 []) ++ occL [(u49.τ 93), (.int .i64 6)]), [94] ++ (occ (.func 29 []) ++ occL [(u49.τ 93), (.int .i64 6)])) (occ (s.τ 99), [])) <| .mk <|
  @sGrd (guardOf (s.τ 87) false) (some 100) s ⟨fun s K => @sOp (some 100) (xLoad 1 false (s.τ 99) s.H) s ⟨K⟩⟩ ⟨W8_c11 P Φ L0⟩
def W8_c13 (P : Program) (Φ : Exit → St → Prop) (L0 : St → Prop) (u49 : St) (s : St) : Prop :=
  @sChk (compat ([94] ++ (occ (.func 29 []) ++ occL [(u49.τ 93), (.int .i64 6)]), [94] ++ (occ (.func 29 []) ++ occL [(u49.τ 93), (.int .i64 6)])) (occ (s.τ 98), [])) <| .mk <|
  @sGrd (guardOf (s.τ 87) false) (some 99) s ⟨fun s K => @sOp (some 99) (xFld 1 (s.τ 98) s.H) s ⟨K⟩⟩ ⟨W8_c12 P Φ L0 u49⟩
def W8_c14 (P : Program) (Φ : Exit → St → Prop) (L0 : St → Prop) (u49 : St) (s : St) : Prop :=
  @sChk (compat ([94] ++ (occ (.func 29 []) ++ occL [(u49.τ 93), (.int .i64 6)]), [94] ++ (occ (.func 29 []) ++ occL [(u49.τ 93), (.int .i64 6)])) (occ (s.τ 96), [])) <| .mk <|
  @sGrd (guardOf (s.τ 87) false) (some 98) s ⟨fun s K => @sOp (some 98) (xIx 3 (s.τ 96) (s.τ 97) s.H) s ⟨K⟩⟩ ⟨W8_c13 P Φ L0 u49⟩
def W8_c15 (P : Program) (Φ : Exit → St → Prop) (L0 : St → Prop) (u49 : St) (s : St) : Prop :=
  @sGrd (guardOf (s.τ 87) false) (some 97) s ⟨fun s K => @sOp (some 97) (xMov (s.τ 10) s.H) s ⟨K⟩⟩ ⟨W8_c14 P Φ L0 u49⟩
def W8_c16 (P : Program) (Φ : Exit → St → Prop) (L0 : St → Prop) (u49 : St) (s : St) : Prop :=
  @sGrd (guardOf (s.τ 87) false) (some 96) s ⟨fun s K => @sOp (some 96) (xMov (s.τ 8) s.H) s ⟨K⟩⟩ ⟨W8_c15 P Φ L0 u49⟩
def W8_c17 (P : Program) (Φ : Exit → St → Prop) (L0 : St → Prop) (u49 : St) (s : St) : Prop :=
  @sGrd (guardOf (s.τ 87) false) (some 95) s ⟨fun s K => @sOp (some 95) (xSlc 1 (s.τ 92) (some (s.τ 94)) none s.H) s ⟨K⟩⟩ ⟨W8_c16 P Φ L0 u49⟩
def W8_c18 (P : Program) (Φ : Exit → St → Prop) (L0 : St → Prop) (u45 : St) (u46 : St) (u47 : St) (s : St) : Prop :=
  @sChk (compat (occ (u45.τ 88), []) ([94] ++ (occ (.func 29 []) ++ occL [(s.τ 93), (.int .i64 6)]), [94] ++ (occ (.func 29 []) ++ occL [(s.τ 93), (.int .i64 6)]))) <| .mk <|
  @sChk (compat (occ (u46.τ 90), []) ([94] ++ (occ (.func 29 []) ++ occL [(s.τ 93), (.int .i64 6)]), [94] ++ (occ (.func 29 []) ++ occL [(s.τ 93), (.int .i64 6)]))) <| .mk <|
  @sChk (compat (occ (u47.τ 91), []) ([94] ++ (occ (.func 29 []) ++ occL [(s.τ 93), (.int .i64 6)]), [94] ++ (occ (.func 29 []) ++ occL [(s.τ 93), (.int .i64 6)]))) <| .mk <|
  @sGrd (guardOf (s.τ 87) false) (some 94) s ⟨fun s K => @sCall0 P (.func 29 []) [(s.τ 93), (.int .i64 6)] (some 94) s ⟨K⟩⟩ ⟨W8_c17 P Φ L0 s⟩
def W8_c19 (P : Program) (Φ : Exit → St → Prop) (L0 : St → Prop) (u45 : St) (u46 : St) (u47 : St) (s : St) : Prop :=
  @sGrd (guardOf (s.τ 87) false) (some 93) s ⟨fun s K => @sOp (some 93) (xMov (s.τ 1) s.H) s ⟨K⟩⟩ ⟨W8_c18 P Φ L0 u45 u46 u47⟩
def W8_c20 (P : Program) (Φ : Exit → St → Prop) (L0 : St → Prop) (u45 : St) (u46 : St) (s : St) : Prop :=
  @sGrd (guardOf (s.τ 87) false) (some 92) s ⟨fun s K => @sOp (some 92) (xLoad 1 false (s.τ 91) s.H) s ⟨K⟩⟩ ⟨W8_c19 P Φ L0 u45 u46 s⟩
def W8_c21 (P : Program) (Φ : Exit → St → Prop) (L0 : St → Prop) (u45 : St) (s : St) : Prop :=
  @sGrd (guardOf (s.τ 87) false) (some 91) s ⟨fun s K => @sOp (some 91) (xFld 1 (s.τ 90) s.H) s ⟨K⟩⟩ ⟨W8_c20 P Φ L0 u45 s⟩
def W8_c22 (P : Program) (Φ : Exit → St → Prop) (L0 : St → Prop) (s : St) : Prop :=
  @sGrd (guardOf (s.τ 87) false) (some 90) s ⟨fun s K => @sOp (some 90) (xIx 3 (s.τ 88) (s.τ 89) s.H) s ⟨K⟩⟩ ⟨W8_c21 P Φ L0 s⟩
def W8_c23 (P : Program) (Φ : Exit → St → Prop) (L0 : St → Prop) (s : St) : Prop :=
  @sGrd (guardOf (s.τ 87) false) (some 89) s ⟨fun s K => @sOp (some 89) (xMov (s.τ 10) s.H) s ⟨K⟩⟩ ⟨W8_c22 P Φ L0⟩
def W8_c24 (P : Program) (Φ : Exit → St → Prop) (L0 : St → Prop) (s : St) : Prop :=
  @sOp (some 86) (xPick (s.τ 69) (.bool true) (s.τ 85) s.H) s <| .mk fun u42 =>
  @sOp (some 87) (xMov (u42.τ 86) u42.H) u42 <| .mk fun u43 =>
  @sGrd (guardOf (u43.τ 87) false) (some 88) u43 ⟨fun s K => @sOp (some 88) (xMov (s.τ 9) s.H) s ⟨K⟩⟩ ⟨W8_c23 P Φ L0⟩
def W8_c25 (P : Program) (Φ : Exit → St → Prop) (L0 : St → Prop) (s : St) : Prop :=
  @sGrd (guardOf (s.τ 69) false) (some 85) s ⟨fun s K => @sOp (some 85) (xBin .neq false (s.τ 75) (s.τ 84) s.H) s ⟨K⟩⟩ ⟨W8_c24 P Φ L0⟩
def W8_c26 (P : Program) (Φ : Exit → St → Prop) (L0 : St → Prop) (s : St) : Prop :=
  @sGrd (guardOf (s.τ 69) false) (some 84) s ⟨fun s K => @sOp (some 84) (xBin .add false (s.τ 81) (s.τ 83) s.H) s ⟨K⟩⟩ ⟨W8_c25 P Φ L0⟩
def W8_c27 (P : Program) (Φ : Exit → St → Prop) (L0 : St → Prop) (u27 : St) (u28 : St) (u29 : St) (u30 : St) (u33 : St) (u34 : St) (u35 : St) (u36 : St) (s : St) : Prop :=
  @sChk (compat (occ (u27.τ 70), []) ([83] ++ (occ (.func 29 []) ++ occL [(s.τ 82), (.int .i64 6)]), [83] ++ (occ (.func 29 []) ++ occL [(s.τ 82), (.int .i64 6)]))) <| .mk <|
  @sChk (compat (occ (u28.τ 72), []) ([83] ++ (occ (.func 29 []) ++ occL [(s.τ 82), (.int .i64 6)]), [83] ++ (occ (.func 29 []) ++ occL [(s.τ 82), (.int .i64 6)]))) <| .mk <|
  @sChk (compat (occ (u29.τ 73), []) ([83] ++ (occ (.func 29 []) ++ occL [(s.τ 82), (.int .i64 6)]), [83] ++ (occ (.func 29 []) ++ occL [(s.τ 82), (.int .i64 6)]))) <| .mk <|
  @sChk (compat (occ (u30.τ 74), []) ([83] ++ (occ (.func 29 []) ++ occL [(s.τ 82), (.int .i64 6)]), [83] ++ (occ (.func 29 []) ++ occL [(s.τ 82), (.int .i64 6)]))) <| .mk <|
  @sChk (compat (occ (u33.τ 76), []) ([83] ++ (occ (.func 29 []) ++ occL [(s.τ 82), (.int .i64 6)]), [83] ++ (occ (.func 29 []) ++ occL [(s.τ 82), (.int .i64 6)]))) <| .mk <|
  @sChk (compat (occ (u34.τ 78), []) ([83] ++ (occ (.func 29 []) ++ occL [(s.τ 82), (.int .i64 6)]), [83] ++ (occ (.func 29 []) ++ occL [(s.τ 82), (.int .i64 6)]))) <| .mk <|
  @sChk (compat (occ (u35.τ 79), []) ([83] ++ (occ (.func 29 []) ++ occL [(s.τ 82), (.int .i64 6)]), [83] ++ (occ (.func 29 []) ++ occL [(s.τ 82), (.int .i64 6)]))) <| .mk <|
  @sChk (compat (occ (u36.τ 80), []) ([83] ++ (occ (.func 29 []) ++ occL [(s.τ 82), (.int .i64 6)]), [83] ++ (occ (.func 29 []) ++ occL [(s.τ 82), (.int .i64 6)]))) <| .mk <|
  @sGrd (guardOf (s.τ 69) false) (some 83) s ⟨fun s K => @sCall0 P (.func 29 []) [(s.τ 82), (.int .i64 6)] (some 83) s ⟨K⟩⟩ ⟨W8_c26 P Φ L0⟩
def W8_c28 (P : Program) (Φ : Exit → St → Prop) (L0 : St → Prop) (u27 : St) (u28 : St) (u29 : St) (u30 : St) (u33 : St) (u34 : St) (u35 : St) (u36 : St) (s : St) : Prop :=
  @sGrd (guardOf (s.τ 69) false) (some 82) s ⟨fun s K => @sOp (some 82) (xMov (s.τ 1) s.H) s ⟨K⟩⟩ ⟨W8_c27 P Φ L0 u27 u28 u29 u30 u33 u34 u35 u36⟩
def W8_c29 (P : Program) (Φ : Exit → St → Prop) (L0 : St → Prop) (u27 : St) (u28 : St) (u29 : St) (u30 : St) (u33 : St) (u34 : St) (u35 : St) (s : St) : Prop :=
  @sGrd (guardOf (s.τ 69) false) (some 81) s ⟨fun s K => @sOp (some 81) (xLen (s.τ 80) s.H) s ⟨K⟩⟩ ⟨W8_c28 P Φ L0 u27 u28 u29 u30 u33 u34 u35 s⟩
def W8_c30 (P : Program) (Φ : Exit → St → Prop) (L0 : St → Prop) (u27 : St) (u28 : St) (u29 : St) (u30 : St) (u33 : St) (u34 : St) (s : St) : Prop :=
  @sGrd (guardOf (s.τ 69) false) (some 80) s ⟨fun s K => @sOp (some 80) (xLoad 1 false (s.τ 79) s.H) s ⟨K⟩⟩ ⟨W8_c29 P Φ L0 u27 u28 u29 u30 u33 u34 s⟩
def W8_c31 (P : Program) (Φ : Exit → St → Prop) (L0 : St → Prop) (u27 : St) (u28 : St) (u29 : St) (u30 : St) (u33 : St) (s : St) : Prop :=
  @sGrd (guardOf (s.τ 69) false) (some 79) s ⟨fun s K => @sOp (some 79) (xFld 1 (s.τ 78) s.H) s ⟨K⟩⟩ ⟨W8_c30 P Φ L0 u27 u28 u29 u30 u33 s⟩
def W8_c32 (P : Program) (Φ : Exit → St → Prop) (L0 : St → Prop) (u27 : St) (u28 : St) (u29 : St) (u30 : St) (s : St) : Prop :=
  @sGrd (guardOf (s.τ 69) false) (some 78) s ⟨fun s K => @sOp (some 78) (xIx 3 (s.τ 76) (s.τ 77) s.H) s ⟨K⟩⟩ ⟨W8_c31 P Φ L0 u27 u28 u29 u30 s⟩
def W8_c33 (P : Program) (Φ : Exit → St → Prop) (L0 : St → Prop) (u27 : St) (u28 : St) (u29 : St) (u30 : St) (s : St) : Prop :=
  @sGrd (guardOf (s.τ 69) false) (some 77) s ⟨fun s K => @sOp (some 77) (xMov (s.τ 10) s.H) s ⟨K⟩⟩ ⟨W8_c32 P Φ L0 u27 u28 u29 u30⟩
def W8_c34 (P : Program) (Φ : Exit → St → Prop) (L0 : St → Prop) (u27 : St) (u28 : St) (u29 : St) (u30 : St) (s : St) : Prop :=
  @sGrd (guardOf (s.τ 69) false) (some 76) s ⟨fun s K => @sOp (some 76) (xMov (s.τ 8) s.H) s ⟨K⟩⟩ ⟨W8_c33 P Φ L0 u27 u28 u29 u30⟩
def W8_c35 (P : Program) (Φ : Exit → St → Prop) (L0 : St → Prop) (u27 : St) (u28 : St) (u29 : St) (s : St) : Prop :=
  @sGrd (guardOf (s.τ 69) false) (some 75) s ⟨fun s K => @sOp (some 75) (xLen (s.τ 74) s.H) s ⟨K⟩⟩ ⟨W8_c34 P Φ L0 u27 u28 u29 s⟩
def W8_c36 (P : Program) (Φ : Exit → St → Prop) (L0 : St → Prop) (u27 : St) (u28 : St) (s : St) : Prop :=
  @sGrd (guardOf (s.τ 69) false) (some 74) s ⟨fun s K => @sOp (some 74) (xLoad 1 false (s.τ 73) s.H) s ⟨K⟩⟩ ⟨W8_c35 P Φ L0 u27 u28 s⟩
def W8_c37 (P : Program) (Φ : Exit → St → Prop) (L0 : St → Prop) (u27 : St) (s : St) : Prop :=
  @sGrd (guardOf (s.τ 69) false) (some 73) s ⟨fun s K => @sOp (some 73) (xFld 1 (s.τ 72) s.H) s ⟨K⟩⟩ ⟨W8_c36 P Φ L0 u27 s⟩
def W8_c38 (P : Program) (Φ : Exit → St → Prop) (L0 : St → Prop) (s : St) : Prop :=
  @sGrd (guardOf (s.τ 69) false) (some 72) s ⟨fun s K => @sOp (some 72) (xIx 3 (s.τ 70) (s.τ 71) s.H) s ⟨K⟩⟩ ⟨W8_c37 P Φ L0 s⟩
def W8_c39 (P : Program) (Φ : Exit → St → Prop) (L0 : St → Prop) (s : St) : Prop :=
  @sGrd (guardOf (s.τ 69) false) (some 71) s ⟨fun s K => @sOp (some 71) (xMov (s.τ 10) s.H) s ⟨K⟩⟩ ⟨W8_c38 P Φ L0⟩
def W8_c40 (P : Program) (Φ : Exit → St → Prop) (L0 : St → Prop) (s : St) : Prop :=
  @sOp (some 68) (xPick (s.τ 56) (.bool true) (s.τ 67) s.H) s <| .mk fun u24 =>
  @sOp (some 69) (xMov (u24.τ 68) u24.H) u24 <| .mk fun u25 =>
  @sGrd (guardOf (u25.τ 69) false) (some 70) u25 ⟨fun s K => @sOp (some 70) (xMov (s.τ 9) s.H) s ⟨K⟩⟩ ⟨W8_c39 P Φ L0⟩
def W8_c41 (P : Program) (Φ : Exit → St → Prop) (L0 : St → Prop) (s : St) : Prop :=
  @sGrd (guardOf (s.τ 56) false) (some 67) s ⟨fun s K => @sOp (some 67) (xBin .neq false (s.τ 61) (s.τ 66) s.H) s ⟨K⟩⟩ ⟨W8_c40 P Φ L0⟩
def W8_c42 (P : Program) (Φ : Exit → St → Prop) (L0 : St → Prop) (s : St) : Prop :=
  @sGrd (guardOf (s.τ 56) false) (some 66) s ⟨fun s K => @sOp (some 66) (xLoad 1 false (s.τ 65) s.H) s ⟨K⟩⟩ ⟨W8_c41 P Φ L0⟩
def W8_c43 (P : Program) (Φ : Exit → St → Prop) (L0 : St → Prop) (s : St) : Prop :=
  @sGrd (guardOf (s.τ 56) false) (some 65) s ⟨fun s K => @sOp (some 65) (xFld 2 (s.τ 64) s.H) s ⟨K⟩⟩ ⟨W8_c42 P Φ L0⟩
def W8_c44 (P : Program) (Φ : Exit → St → Prop) (L0 : St → Prop) (s : St) : Prop :=
  @sGrd (guardOf (s.τ 56) false) (some 64) s ⟨fun s K => @sOp (some 64) (xIx 3 (s.τ 62) (s.τ 63) s.H) s ⟨K⟩⟩ ⟨W8_c43 P Φ L0⟩
def W8_c45 (P : Program) (Φ : Exit → St → Prop) (L0 : St → Prop) (s : St) : Prop :=
  @sGrd (guardOf (s.τ 56) false) (some 63) s ⟨fun s K => @sOp (some 63) (xMov (s.τ 10) s.H) s ⟨K⟩⟩ ⟨W8_c44 P Φ L0⟩
def W8_c46 (P : Program) (Φ : Exit → St → Prop) (L0 : St → Prop) (s : St) : Prop :=
  @sGrd (guardOf (s.τ 56) false) (some 62) s ⟨fun s K => @sOp (some 62) (xMov (s.τ 9) s.H) s ⟨K⟩⟩ ⟨W8_c45 P Φ L0⟩
def W8_c47 (P : Program) (Φ : Exit → St → Prop) (L0 : St → Prop) (s : St) : Prop :=
  @sGrd (guardOf (s.τ 56) false) (some 61) s ⟨fun s K => @sOp (some 61) (xLoad 1 false (s.τ 60) s.H) s ⟨K⟩⟩ ⟨W8_c46 P Φ L0⟩
def W8_c48 (P : Program) (Φ : Exit → St → Prop) (L0 : St → Prop) (s : St) : Prop :=
  @sGrd (guardOf (s.τ 56) false) (some 60) s ⟨fun s K => @sOp (some 60) (xFld 2 (s.τ 59) s.H) s ⟨K⟩⟩ ⟨W8_c47 P Φ L0⟩
def W8_c49 (P : Program) (Φ : Exit → St → Prop) (L0 : St → Prop) (s : St) : Prop :=
  @sGrd (guardOf (s.τ 56) false) (some 59) s ⟨fun s K => @sOp (some 59) (xIx 3 (s.τ 57) (s.τ 58) s.H) s ⟨K⟩⟩ ⟨W8_c48 P Φ L0⟩
def W8_c50 (P : Program) (Φ : Exit → St → Prop) (L0 : St → Prop) (s : St) : Prop :=
  @sGrd (guardOf (s.τ 56) false) (some 58) s ⟨fun s K => @sOp (some 58) (xMov (s.τ 10) s.H) s ⟨K⟩⟩ ⟨W8_c49 P Φ L0⟩
def W8_b51 (P : Program) (Φ : Exit → St → Prop) (L0 : St → Prop) (s : St) : Prop :=
  @sOp (some 45) (xMov (s.τ 8) s.H) s <| .mk fun u1 =>
  @sOp (some 46) (xMov (u1.τ 10) u1.H) u1 <| .mk fun u2 =>
  @sOp (some 47) (xIx 3 (u2.τ 45) (u2.τ 46) u2.H) u2 <| .mk fun u3 =>
  @sOp (some 48) (xFld 0 (u3.τ 47) u3.H) u3 <| .mk fun u4 =>
  @sOp (some 49) (xLoad 1 false (u4.τ 48) u4.H) u4 <| .mk fun u5 =>
  @sOp (some 50) (xMov (u5.τ 9) u5.H) u5 <| .mk fun u6 =>
  @sOp (some 51) (xMov (u6.τ 10) u6.H) u6 <| .mk fun u7 =>
  @sOp (some 52) (xIx 3 (u7.τ 50) (u7.τ 51) u7.H) u7 <| .mk fun u8 =>
  @sOp (some 53) (xFld 0 (u8.τ 52) u8.H) u8 <| .mk fun u9 =>
  @sOp (some 54) (xLoad 1 false (u9.τ 53) u9.H) u9 <| .mk fun u10 =>
  @sOp (some 55) (xBin .neq false (u10.τ 49) (u10.τ 54) u10.H) u10 <| .mk fun u11 =>
  @sOp (some 56) (xMov (u11.τ 55) u11.H) u11 <| .mk fun u12 =>
  @sGrd (guardOf (u12.τ 56) false) (some 57) u12 ⟨fun s K => @sOp (some 57) (xMov (s.τ 8) s.H) s ⟨K⟩⟩ ⟨W8_c50 P Φ L0⟩
def W8_l52 (P : Program) (Φ : Exit → St → Prop) (L0 : St → Prop) (s : St) : Prop :=
  @sOp (some 39) (xMov (s.τ 10) s.H) s <| .mk fun s =>
  @sOp (some 40) (xMov (s.τ 8) s.H) s <| .mk fun s =>
  @sOp (some 41) (xLen (s.τ 40) s.H) s <| .mk fun s =>
  @sOp (some 42) (xBin .lss false (s.τ 39) (s.τ 41) s.H) s <| .mk fun s =>
  @sIf (s.τ 42) ⟨W8_b51 P Φ L0 s⟩ ⟨W8_k6 P Φ s⟩
def W8_b53 (P : Program) (Φ : Exit → St → Prop) (s : St) : Prop :=
  @sOp (some 10) (xMov (.int .i64 0) s.H) s <| .mk fun s =>
  @sLoop s ⟨fun L0 s => W8_l52 P Φ L0 s⟩
def W8_c54 (P : Program) (Φ : Exit → St → Prop) (s : St) : Prop :=
  @sOp (some 8) (xMov (s.τ 31) s.H) s <| .mk fun u5 =>
  @sOp (some 9) (xMov (u5.τ 33) u5.H) u5 <| .mk fun s =>
  @sOp (some 34) (xMov (s.τ 8) s.H) s <| .mk fun s =>
  @sOp (some 35) (xLen (s.τ 34) s.H) s <| .mk fun s =>
  @sOp (some 36) (xMov (s.τ 9) s.H) s <| .mk fun s =>
  @sOp (some 37) (xLen (s.τ 36) s.H) s <| .mk fun s =>
  @sOp (some 38) (xBin .neq false (s.τ 35) (s.τ 37) s.H) s <| .mk fun s =>
  @sIf (s.τ 38) ⟨W8_b3 P Φ s⟩ ⟨W8_b53 P Φ s⟩
def W8_c55 (P : Program) (Φ : Exit → St → Prop) (u1 : St) (s : St) : Prop :=
  @sChk (compat ([31] ++ (occ (.func 24 []) ++ occL [(u1.τ 30)]), [31] ++ (occ (.func 24 []) ++ occL [(u1.τ 30)])) (occ (s.τ 6), [])) <| .mk <|
  @sOp (some 32) (xLoad 9 true (s.τ 6) s.H) s <| .mk fun u3 =>
  @sCall0 P (.func 24 []) [(u3.τ 32)] (some 33) u3 ⟨W8_c54 P Φ⟩
def W8_k56 (P : Program) (Φ : Exit → St → Prop) (s : St) : Prop :=
  @sOp (some 30) (xLoad 9 true (s.τ 5) s.H) s <| .mk fun u1 =>
  @sCall0 P (.func 24 []) [(u1.τ 30)] (some 31) u1 ⟨W8_c55 P Φ u1⟩
def W8_b57 (P : Program) (Φ : Exit → St → Prop) (L0 : St → Prop) (s : St) : Prop :=
  @sOp (some 27) (xLoad 9 true (s.τ 6) s.H) s <| .mk fun s =>
  @sOp (some 28) (xLit 9 1 [.int .i64 0, .int .i64 0, .int .i64 0, .str ⟨#[]⟩, .int .i64 0, .int .i64 0, .str ⟨#[]⟩, .nils, .nils] [(0, (s.τ 27))] s.H) s <| .mk fun s =>
  @sOp (some 29) (xBuild [.int .i64 0, .int .i64 0, .int .i64 0, .str ⟨#[]⟩, .int .i64 0, .int .i64 0, .str ⟨#[]⟩, .nils, .nils] [(0, 1, (.int .i64 7)), (8, 1, (s.τ 28))] s.H) s <| .mk fun s =>
  @sOp none (xStore 9 (s.τ 6) (s.τ 29) s.H) s <| .mk fun s =>
  @sOp (some 25) (xMov (s.τ 7) s.H) s <| .mk fun s =>
  @sOp (some 26) (xBin .add false (s.τ 25) (.int .i64 1) s.H) s <| .mk fun s =>
  @sOp (some 7) (xMov (s.τ 26) s.H) s <| .mk fun s =>
  L0 s
def W8_c58 (P : Program) (Φ : Exit → St → Prop) (L0 : St → Prop) (s : St) : Prop :=
  @sOp (some 24) (xBin .lss false (s.τ 21) (s.τ 23) s.H) s <| .mk fun s =>
  @sIf (s.τ 24) ⟨W8_b57 P Φ L0 s⟩ ⟨W8_k56 P Φ s⟩
def W8_l59 (P : Program) (Φ : Exit → St → Prop) (L0 : St → Prop) (s : St) : Prop :=
  @sOp (some 21) (xMov (s.τ 7) s.H) s <| .mk fun s =>
  @sOp (some 22) (xMov (s.τ 1) s.H) s <| .mk fun s =>
  @sCall P (.func 29 []) [(s.τ 22), (.int .i64 6)] (some 23) s ⟨W8_c58 P Φ L0⟩
def W8_c60 (P : Program) (Φ : Exit → St → Prop) (s : St) : Prop :=
  @sOp (some 5) (xAlloc 5 34 [.int .i64 0, .int .i64 0, .int .i64 0, .str ⟨#[]⟩, .int .i64 0, .int .i64 0, .str ⟨#[]⟩, .nils, .nils] s.H) s <| .mk fun s =>
  @sOp none (xStore 9 (s.τ 5) (s.τ 19) s.H) s <| .mk fun s =>
  @sOp (some 20) (xLoad 9 true (s.τ 5) s.H) s <| .mk fun s =>
  @sOp (some 6) (xAlloc 6 34 [.int .i64 0, .int .i64 0, .int .i64 0, .str ⟨#[]⟩, .int .i64 0, .int .i64 0, .str ⟨#[]⟩, .nils, .nils] s.H) s <| .mk fun s =>
  @sOp none (xStore 9 (s.τ 6) (s.τ 20) s.H) s <| .mk fun s =>
  @sOp (some 7) (xMov (.int .i64 0) s.H) s <| .mk fun s =>
  @sLoop s ⟨fun L0 s => W8_l59 P Φ L0 s⟩
def W8_b61 (P : Program) (Φ : Exit → St → Prop) (s : St) : Prop :=
  @sOp (some 18) (xLoad 5 true (s.τ 2) s.H) s <| .mk fun s =>
  @sCall P (.func 23 []) [(s.τ 18), (.int .i64 0)] (some 19) s ⟨W8_c60 P Φ⟩
def W8_c62 (P : Program) (Φ : Exit → St → Prop) (s : St) : Prop :=
  @sOp (some 17) (xNot (s.τ 16) s.H) s <| .mk fun s =>
  @sIf (s.τ 17) ⟨W8_b2 P Φ s⟩ ⟨W8_b61 P Φ s⟩
def W8_b63 (P : Program) (Φ : Exit → St → Prop) (s : St) : Prop :=
  @sOp (some 13) (xLoad 5 true (s.τ 2) s.H) s <| .mk fun s =>
  @sOp (some 14) (xLit 5 1 [.int .i64 0, .int .i64 0, .int .i64 0, .nils, .nils] [(0, (s.τ 13))] s.H) s <| .mk fun s =>
  @sOp (some 15) (xBuild [.int .i64 0, .int .i64 0, .nils] [(2, 1, (s.τ 14))] s.H) s <| .mk fun s =>
  @sCall P (.func 21 []) [(s.τ 15)] (some 16) s ⟨W8_c62 P Φ⟩
def W8_c64 (P : Program) (Φ : Exit → St → Prop) (s : St) : Prop :=
  @sOp (some 12) (xNot (s.τ 11) s.H) s <| .mk fun s =>
  @sIf (s.τ 12) ⟨W8_b1 P Φ s⟩ ⟨W8_b63 P Φ s⟩
def W8 (P : Program) (Φ : Exit → St → Prop) (s : St) : Prop :=
  @sOp (some 2) (xBox 2 25 (s.τ 0) s.H) s <| .mk fun s =>
  @sOp (some 4) (xMov (.bool false) s.H) s <| .mk fun s =>
  @sCall P (.func 20 []) [] (some 11) s ⟨W8_c64 P Φ⟩
theorem W8_rs (τ : Nat → AV) (H : Heap) : resV Try.prog τ H [.tmp 4] = some (τ 4) := by kernel_rfl
theorem W8_eq (Φ : Exit → St → Prop) (s : St) : awp Try.prog (Try.f8.body.getD .skip) Φ s = W8 Try.prog Φ s := by kernel_rfl

-- 9 "penance/penancelaw7.StepsWait"
def W9_b1 (P : Program) (Φ : Exit → St → Prop) (s : St) : Prop :=
  @sOp (some 2) (xMov (.bool false) s.H) s <| .mk fun s =>
  Φ .ret s
def W9_b2 (P : Program) (Φ : Exit → St → Prop) (s : St) : Prop :=
  @sOp (some 2) (xMov (.bool true) s.H) s <| .mk fun s =>
  Φ .ret s
def W9_k3 (P : Program) (Φ : Exit → St → Prop) (s : St) : Prop :=
  @sOp (some 87) (xMov (s.τ 7) s.H) s <| .mk fun s =>
  @sOp (some 88) (xMov (s.τ 6) s.H) s <| .mk fun s =>
  @sOp (some 89) (xLen (s.τ 88) s.H) s <| .mk fun s =>
  @sOp (some 90) (xBin .eql false (s.τ 87) (s.τ 89) s.H) s <| .mk fun s =>
  @sOp (some 2) (xMov (s.τ 90) s.H) s <| .mk fun s =>
  Φ .ret s
def W9_k4 (P : Program) (Φ : Exit → St → Prop) (L0 : St → Prop) (s : St) : Prop :=
  @sOp (some 31) (xMov (s.τ 8) s.H) s <| .mk fun s =>
  @sOp (some 32) (xBin .add false (s.τ 31) (.int .i64 1) s.H) s <| .mk fun s =>
  @sOp (some 8) (xMov (s.τ 32) s.H) s <| .mk fun s =>
  L0 s
def W9_b5 (P : Program) (Φ : Exit → St → Prop) (L0 : St → Prop) (s : St) : Prop :=
  @sOp (some 79) (xMov (s.τ 7) s.H) s <| .mk fun s =>
  @sOp (some 80) (xBin .add false (s.τ 79) (.int .i64 1) s.H) s <| .mk fun s =>
  @sOp (some 7) (xMov (s.τ 80) s.H) s <| .mk fun s =>
  W9_k4 P Φ L0 s
def W9_b6 (P : Program) (Φ : Exit → St → Prop) (L0 : St → Prop) (s : St) : Prop :=
  @sOp (some 2) (xMov (.bool false) s.H) s <| .mk fun s =>
  Φ .ret s
def W9_b7 (P : Program) (Φ : Exit → St → Prop) (L0 : St → Prop) (s : St) : Prop :=
  @sOp (some 81) (xMov (s.τ 5) s.H) s <| .mk fun s =>
  @sOp (some 82) (xMov (s.τ 8) s.H) s <| .mk fun s =>
  @sOp (some 83) (xIx 3 (s.τ 81) (s.τ 82) s.H) s <| .mk fun s =>
  @sOp (some 84) (xFld 0 (s.τ 83) s.H) s <| .mk fun s =>
  @sOp (some 85) (xLoad 1 false (s.τ 84) s.H) s <| .mk fun s =>
  @sOp (some 86) (xBin .neq false (s.τ 85) (.int .i64 8) s.H) s <| .mk fun s =>
  @sIf (s.τ 86) ⟨W9_b6 P Φ L0 s⟩ ⟨W9_k4 P Φ L0 s⟩
def W9_c8 (P : Program) (Φ : Exit → St → Prop) (L0 : St → Prop) (s : St) : Prop :=
  @sOp (some 77) (xPick (s.τ 63) (s.τ 76) (.bool false) s.H) s <| .mk fun u45 =>
  @sOp (some 9) (xMov (u45.τ 77) u45.H) u45 <| .mk fun s =>
  @sOp (some 78) (xMov (s.τ 9) s.H) s <| .mk fun s =>
  @sIf (s.τ 78) ⟨W9_b5 P Φ L0 s⟩ ⟨W9_b7 P Φ L0 s⟩
def W9_c9 (P : Program) (Φ : Exit → St → Prop) (L0 : St → Prop) (s : St) : Prop :=
  @sGrd (guardOf (s.τ 63) true) (some 76) s ⟨fun s K => @sCall0 P (.func 27 []) [(s.τ 68), (s.τ 75)] (some 76) s ⟨K⟩⟩ ⟨W9_c8 P Φ L0⟩
def W9_c10 (P : Program) (Φ : Exit → St → Prop) (L0 : St → Prop) (u33 : St) (u34 : St) (u35 : St) (s : St) : Prop :=
  @sChk (compat (occ (u33.τ 64), []) ([75] ++ (occ (s.τ 69) ++ occ (s.τ 74)), [75] ++ occ (s.τ 69))) <| .mk <|
  @sChk (compat (occ (u34.τ 66), []) ([75] ++ (occ (s.τ 69) ++ occ (s.τ 74)), [75] ++ occ (s.τ 69))) <| .mk <|
  @sChk (compat (occ (u35.τ 67), []) ([75] ++ (occ (s.τ 69) ++ occ (s.τ 74)), [75] ++ occ (s.τ 69))) <| .mk <|
  @sGrd (guardOf (s.τ 63) true) (some 75) s ⟨fun s K => @sOp (some 75) (xApp P 3 1 8 (some 75) (s.τ 69) (s.τ 74) s.H) s ⟨K⟩⟩ ⟨W9_c9 P Φ L0⟩
def W9_c11 (P : Program) (Φ : Exit → St → Prop) (L0 : St → Prop) (u33 : St) (u34 : St) (u35 : St) (u36 : St) (s : St) : Prop :=
  @sChk (compat ([69] ++ occL [(.int .i64 0)], [69] ++ occL [(.int .i64 0)]) (occ (s.τ 73), [])) <| .mk <|
  @sGrd (guardOf (s.τ 63) true) (some 74) s ⟨fun s K => @sOp (some 74) (xLoad 1 false (s.τ 73) s.H) s ⟨K⟩⟩ ⟨W9_c10 P Φ L0 u33 u34 u35⟩
def W9_c12 (P : Program) (Φ : Exit → St → Prop) (L0 : St → Prop) (u33 : St) (u34 : St) (u35 : St) (u36 : St) (s : St) : Prop :=
  @sChk (compat ([69] ++ occL [(.int .i64 0)], [69] ++ occL [(.int .i64 0)]) (occ (s.τ 72), [])) <| .mk <|
  @sGrd (guardOf (s.τ 63) true) (some 73) s ⟨fun s K => @sOp (some 73) (xFld 1 (s.τ 72) s.H) s ⟨K⟩⟩ ⟨W9_c11 P Φ L0 u33 u34 u35 u36⟩
def W9_c13 (P : Program) (Φ : Exit → St → Prop) (L0 : St → Prop) (u33 : St) (u34 : St) (u35 : St) (u36 : St) (s : St) : Prop :=
  @sChk (compat ([69] ++ occL [(.int .i64 0)], [69] ++ occL [(.int .i64 0)]) (occ (s.τ 70), [])) <| .mk <|
  @sGrd (guardOf (s.τ 63) true) (some 72) s ⟨fun s K => @sOp (some 72) (xIx 3 (s.τ 70) (s.τ 71) s.H) s ⟨K⟩⟩ ⟨W9_c12 P Φ L0 u33 u34 u35 u36⟩
def W9_c14 (P : Program) (Φ : Exit → St → Prop) (L0 : St → Prop) (u33 : St) (u34 : St) (u35 : St) (u36 : St) (s : St) : Prop :=
  @sGrd (guardOf (s.τ 63) true) (some 71) s ⟨fun s K => @sOp (some 71) (xMov (s.τ 8) s.H) s ⟨K⟩⟩ ⟨W9_c13 P Φ L0 u33 u34 u35 u36⟩
def W9_c15 (P : Program) (Φ : Exit → St → Prop) (L0 : St → Prop) (u33 : St) (u34 : St) (u35 : St) (u36 : St) (s : St) : Prop :=
  @sGrd (guardOf (s.τ 63) true) (some 70) s ⟨fun s K => @sOp (some 70) (xMov (s.τ 5) s.H) s ⟨K⟩⟩ ⟨W9_c14 P Φ L0 u33 u34 u35 u36⟩
def W9_c16 (P : Program) (Φ : Exit → St → Prop) (L0 : St → Prop) (u33 : St) (u34 : St) (u35 : St) (s : St) : Prop :=
  @sChk (compat (occ (u33.τ 64), []) ([69] ++ occL [(.int .i64 0)], [69] ++ occL [(.int .i64 0)])) <| .mk <|
  @sChk (compat (occ (u34.τ 66), []) ([69] ++ occL [(.int .i64 0)], [69] ++ occL [(.int .i64 0)])) <| .mk <|
  @sChk (compat (occ (u35.τ 67), []) ([69] ++ occL [(.int .i64 0)], [69] ++ occL [(.int .i64 0)])) <| .mk <|
  @sGrd (guardOf (s.τ 63) true) (some 69) s ⟨fun s K => @sOp (some 69) (xRow 69 3 1 1 [.int .i64 0] [(0, (.int .i64 0))] s.H) s ⟨K⟩⟩ ⟨W9_c15 P Φ L0 u33 u34 u35 s⟩
def W9_c17 (P : Program) (Φ : Exit → St → Prop) (L0 : St → Prop) (u33 : St) (u34 : St) (s : St) : Prop :=
  @sGrd (guardOf (s.τ 63) true) (some 68) s ⟨fun s K => @sOp (some 68) (xLoad 1 false (s.τ 67) s.H) s ⟨K⟩⟩ ⟨W9_c16 P Φ L0 u33 u34 s⟩
def W9_c18 (P : Program) (Φ : Exit → St → Prop) (L0 : St → Prop) (u33 : St) (s : St) : Prop :=
  @sGrd (guardOf (s.τ 63) true) (some 67) s ⟨fun s K => @sOp (some 67) (xFld 1 (s.τ 66) s.H) s ⟨K⟩⟩ ⟨W9_c17 P Φ L0 u33 s⟩
def W9_c19 (P : Program) (Φ : Exit → St → Prop) (L0 : St → Prop) (s : St) : Prop :=
  @sGrd (guardOf (s.τ 63) true) (some 66) s ⟨fun s K => @sOp (some 66) (xIx 3 (s.τ 64) (s.τ 65) s.H) s ⟨K⟩⟩ ⟨W9_c18 P Φ L0 s⟩
def W9_c20 (P : Program) (Φ : Exit → St → Prop) (L0 : St → Prop) (s : St) : Prop :=
  @sGrd (guardOf (s.τ 63) true) (some 65) s ⟨fun s K => @sOp (some 65) (xMov (s.τ 7) s.H) s ⟨K⟩⟩ ⟨W9_c19 P Φ L0⟩
def W9_c21 (P : Program) (Φ : Exit → St → Prop) (L0 : St → Prop) (s : St) : Prop :=
  @sOp (some 62) (xPick (s.τ 50) (s.τ 61) (.bool false) s.H) s <| .mk fun u30 =>
  @sOp (some 63) (xMov (u30.τ 62) u30.H) u30 <| .mk fun u31 =>
  @sGrd (guardOf (u31.τ 63) true) (some 64) u31 ⟨fun s K => @sOp (some 64) (xMov (s.τ 6) s.H) s ⟨K⟩⟩ ⟨W9_c20 P Φ L0⟩
def W9_c22 (P : Program) (Φ : Exit → St → Prop) (L0 : St → Prop) (s : St) : Prop :=
  @sGrd (guardOf (s.τ 50) true) (some 61) s ⟨fun s K => @sOp (some 61) (xBin .eql false (s.τ 55) (s.τ 60) s.H) s ⟨K⟩⟩ ⟨W9_c21 P Φ L0⟩
def W9_c23 (P : Program) (Φ : Exit → St → Prop) (L0 : St → Prop) (s : St) : Prop :=
  @sGrd (guardOf (s.τ 50) true) (some 60) s ⟨fun s K => @sOp (some 60) (xLoad 1 false (s.τ 59) s.H) s ⟨K⟩⟩ ⟨W9_c22 P Φ L0⟩
def W9_c24 (P : Program) (Φ : Exit → St → Prop) (L0 : St → Prop) (s : St) : Prop :=
  @sGrd (guardOf (s.τ 50) true) (some 59) s ⟨fun s K => @sOp (some 59) (xFld 2 (s.τ 58) s.H) s ⟨K⟩⟩ ⟨W9_c23 P Φ L0⟩
def W9_c25 (P : Program) (Φ : Exit → St → Prop) (L0 : St → Prop) (s : St) : Prop :=
  @sGrd (guardOf (s.τ 50) true) (some 58) s ⟨fun s K => @sOp (some 58) (xIx 3 (s.τ 56) (s.τ 57) s.H) s ⟨K⟩⟩ ⟨W9_c24 P Φ L0⟩
def W9_c26 (P : Program) (Φ : Exit → St → Prop) (L0 : St → Prop) (s : St) : Prop :=
  @sGrd (guardOf (s.τ 50) true) (some 57) s ⟨fun s K => @sOp (some 57) (xMov (s.τ 8) s.H) s ⟨K⟩⟩ ⟨W9_c25 P Φ L0⟩
def W9_c27 (P : Program) (Φ : Exit → St → Prop) (L0 : St → Prop) (s : St) : Prop :=
  @sGrd (guardOf (s.τ 50) true) (some 56) s ⟨fun s K => @sOp (some 56) (xMov (s.τ 5) s.H) s ⟨K⟩⟩ ⟨W9_c26 P Φ L0⟩
def W9_c28 (P : Program) (Φ : Exit → St → Prop) (L0 : St → Prop) (s : St) : Prop :=
  @sGrd (guardOf (s.τ 50) true) (some 55) s ⟨fun s K => @sOp (some 55) (xLoad 1 false (s.τ 54) s.H) s ⟨K⟩⟩ ⟨W9_c27 P Φ L0⟩
def W9_c29 (P : Program) (Φ : Exit → St → Prop) (L0 : St → Prop) (s : St) : Prop :=
  @sGrd (guardOf (s.τ 50) true) (some 54) s ⟨fun s K => @sOp (some 54) (xFld 2 (s.τ 53) s.H) s ⟨K⟩⟩ ⟨W9_c28 P Φ L0⟩
def W9_c30 (P : Program) (Φ : Exit → St → Prop) (L0 : St → Prop) (s : St) : Prop :=
  @sGrd (guardOf (s.τ 50) true) (some 53) s ⟨fun s K => @sOp (some 53) (xIx 3 (s.τ 51) (s.τ 52) s.H) s ⟨K⟩⟩ ⟨W9_c29 P Φ L0⟩
def W9_c31 (P : Program) (Φ : Exit → St → Prop) (L0 : St → Prop) (s : St) : Prop :=
  @sGrd (guardOf (s.τ 50) true) (some 52) s ⟨fun s K => @sOp (some 52) (xMov (s.τ 7) s.H) s ⟨K⟩⟩ ⟨W9_c30 P Φ L0⟩
def W9_c32 (P : Program) (Φ : Exit → St → Prop) (L0 : St → Prop) (s : St) : Prop :=
  @sOp (some 49) (xPick (s.τ 37) (s.τ 48) (.bool false) s.H) s <| .mk fun u17 =>
  @sOp (some 50) (xMov (u17.τ 49) u17.H) u17 <| .mk fun u18 =>
  @sGrd (guardOf (u18.τ 50) true) (some 51) u18 ⟨fun s K => @sOp (some 51) (xMov (s.τ 6) s.H) s ⟨K⟩⟩ ⟨W9_c31 P Φ L0⟩
def W9_c33 (P : Program) (Φ : Exit → St → Prop) (L0 : St → Prop) (s : St) : Prop :=
  @sGrd (guardOf (s.τ 37) true) (some 48) s ⟨fun s K => @sOp (some 48) (xBin .eql false (s.τ 42) (s.τ 47) s.H) s ⟨K⟩⟩ ⟨W9_c32 P Φ L0⟩
def W9_c34 (P : Program) (Φ : Exit → St → Prop) (L0 : St → Prop) (s : St) : Prop :=
  @sGrd (guardOf (s.τ 37) true) (some 47) s ⟨fun s K => @sOp (some 47) (xLoad 1 false (s.τ 46) s.H) s ⟨K⟩⟩ ⟨W9_c33 P Φ L0⟩
def W9_c35 (P : Program) (Φ : Exit → St → Prop) (L0 : St → Prop) (s : St) : Prop :=
  @sGrd (guardOf (s.τ 37) true) (some 46) s ⟨fun s K => @sOp (some 46) (xFld 0 (s.τ 45) s.H) s ⟨K⟩⟩ ⟨W9_c34 P Φ L0⟩
def W9_c36 (P : Program) (Φ : Exit → St → Prop) (L0 : St → Prop) (s : St) : Prop :=
  @sGrd (guardOf (s.τ 37) true) (some 45) s ⟨fun s K => @sOp (some 45) (xIx 3 (s.τ 43) (s.τ 44) s.H) s ⟨K⟩⟩ ⟨W9_c35 P Φ L0⟩
def W9_c37 (P : Program) (Φ : Exit → St → Prop) (L0 : St → Prop) (s : St) : Prop :=
  @sGrd (guardOf (s.τ 37) true) (some 44) s ⟨fun s K => @sOp (some 44) (xMov (s.τ 8) s.H) s ⟨K⟩⟩ ⟨W9_c36 P Φ L0⟩
def W9_c38 (P : Program) (Φ : Exit → St → Prop) (L0 : St → Prop) (s : St) : Prop :=
  @sGrd (guardOf (s.τ 37) true) (some 43) s ⟨fun s K => @sOp (some 43) (xMov (s.τ 5) s.H) s ⟨K⟩⟩ ⟨W9_c37 P Φ L0⟩
def W9_c39 (P : Program) (Φ : Exit → St → Prop) (L0 : St → Prop) (s : St) : Prop :=
  @sGrd (guardOf (s.τ 37) true) (some 42) s ⟨fun s K => @sOp (some 42) (xLoad 1 false (s.τ 41) s.H) s ⟨K⟩⟩ ⟨W9_c38 P Φ L0⟩
def W9_c40 (P : Program) (Φ : Exit → St → Prop) (L0 : St → Prop) (s : St) : Prop :=
  @sGrd (guardOf (s.τ 37) true) (some 41) s ⟨fun s K => @sOp (some 41) (xFld 0 (s.τ 40) s.H) s ⟨K⟩⟩ ⟨W9_c39 P Φ L0⟩
def W9_c41 (P : Program) (Φ : Exit → St → Prop) (L0 : St → Prop) (s : St) : Prop :=
  @sGrd (guardOf (s.τ 37) true) (some 40) s ⟨fun s K => @sOp (some 40) (xIx 3 (s.τ 38) (s.τ 39) s.H) s ⟨K⟩⟩ ⟨W9_c40 P Φ L0⟩
def W9_c42 (P : Program) (Φ : Exit → St → Prop) (L0 : St → Prop) (s : St) : Prop :=
  @sGrd (guardOf (s.τ 37) true) (some 39) s ⟨fun s K => @sOp (some 39) (xMov (s.τ 7) s.H) s ⟨K⟩⟩ ⟨W9_c41 P Φ L0⟩
def W9_b43 (P : Program) (Φ : Exit → St → Prop) (L0 : St → Prop) (s : St) : Prop :=
  @sOp (some 33) (xMov (s.τ 7) s.H) s <| .mk fun u1 =>
  @sOp (some 34) (xMov (u1.τ 6) u1.H) u1 <| .mk fun u2 =>
  @sOp (some 35) (xLen (u2.τ 34) u2.H) u2 <| .mk fun u3 =>
  @sOp (some 36) (xBin .lss false (u3.τ 33) (u3.τ 35) u3.H) u3 <| .mk fun u4 =>
  @sOp (some 37) (xMov (u4.τ 36) u4.H) u4 <| .mk fun u5 =>
  @sGrd (guardOf (u5.τ 37) true) (some 38) u5 ⟨fun s K => @sOp (some 38) (xMov (s.τ 6) s.H) s ⟨K⟩⟩ ⟨W9_c42 P Φ L0⟩
def W9_l44 (P : Program) (Φ : Exit → St → Prop) (L0 : St → Prop) (s : St) : Prop :=
  @sOp (some 27) (xMov (s.τ 8) s.H) s <| .mk fun s =>
  @sOp (some 28) (xMov (s.τ 5) s.H) s <| .mk fun s =>
  @sOp (some 29) (xLen (s.τ 28) s.H) s <| .mk fun s =>
  @sOp (some 30) (xBin .lss false (s.τ 27) (s.τ 29) s.H) s <| .mk fun s =>
  @sIf (s.τ 30) ⟨W9_b43 P Φ L0 s⟩ ⟨W9_k3 P Φ s⟩
def W9_c45 (P : Program) (Φ : Exit → St → Prop) (s : St) : Prop :=
  @sOp (some 5) (xMov (s.τ 21) s.H) s <| .mk fun u8 =>
  @sOp (some 6) (xMov (u8.τ 26) u8.H) u8 <| .mk fun s =>
  @sOp (some 7) (xMov (.int .i64 0) s.H) s <| .mk fun s =>
  @sOp (some 8) (xMov (.int .i64 0) s.H) s <| .mk fun s =>
  @sLoop s ⟨fun L0 s => W9_l44 P Φ L0 s⟩
def W9_c46 (P : Program) (Φ : Exit → St → Prop) (u0 : St) (u1 : St) (s : St) : Prop :=
  @sChk (compat ([21] ++ (occ (.func 24 []) ++ occL [(u1.τ 20)]), [21] ++ (occ (.func 24 []) ++ occL [(u1.τ 20)])) (occ (s.τ 3), [])) <| .mk <|
  @sOp (some 22) (xLoad 9 true (s.τ 3) s.H) s <| .mk fun u3 =>
  @sChk (compat ([21] ++ (occ (.func 24 []) ++ occL [(u1.τ 20)]), [21] ++ (occ (.func 24 []) ++ occL [(u1.τ 20)])) (occ (u3.τ 4), [])) <| .mk <|
  @sOp (some 23) (xLoad 9 true (u3.τ 4) u3.H) u3 <| .mk fun u4 =>
  @sChk (compat (occ (u0.τ 3), []) ([24] ++ occL [(u4.τ 22), (u4.τ 23)], [24] ++ occL [(u4.τ 22), (u4.τ 23)])) <| .mk <|
  @sChk (compat ([21] ++ (occ (.func 24 []) ++ occL [(u1.τ 20)]), [21] ++ (occ (.func 24 []) ++ occL [(u1.τ 20)])) ([24] ++ occL [(u4.τ 22), (u4.τ 23)], [24] ++ occL [(u4.τ 22), (u4.τ 23)])) <| .mk <|
  @sOp (some 24) (xLit 9 2 [.int .i64 0, .int .i64 0, .int .i64 0, .str ⟨#[]⟩, .int .i64 0, .int .i64 0, .str ⟨#[]⟩, .nils, .nils] [(0, (u4.τ 22)), (1, (u4.τ 23))] u4.H) u4 <| .mk fun u5 =>
  @sOp (some 25) (xBuild [.int .i64 0, .int .i64 0, .int .i64 0, .str ⟨#[]⟩, .int .i64 0, .int .i64 0, .str ⟨#[]⟩, .nils, .nils] [(0, 1, (.int .i64 11)), (8, 1, (u5.τ 24))] u5.H) u5 <| .mk fun u6 =>
  @sCall0 P (.func 24 []) [(u6.τ 25)] (some 26) u6 ⟨W9_c45 P Φ⟩
def W9_c47 (P : Program) (Φ : Exit → St → Prop) (s : St) : Prop :=
  @sOp (some 3) (xAlloc 3 34 [.int .i64 0, .int .i64 0, .int .i64 0, .str ⟨#[]⟩, .int .i64 0, .int .i64 0, .str ⟨#[]⟩, .nils, .nils] s.H) s <| .mk fun s =>
  @sOp none (xStore 9 (s.τ 3) (s.τ 18) s.H) s <| .mk fun s =>
  @sOp (some 19) (xBuild [.int .i64 0, .int .i64 0, .int .i64 0, .str ⟨#[]⟩, .int .i64 0, .int .i64 0, .str ⟨#[]⟩, .nils, .nils] [(0, 1, (.int .i64 14)), (2, 1, (.int .i64 (-1))), (3, 1, (.str ⟨#[112, 97, 121]⟩))] s.H) s <| .mk fun s =>
  @sOp (some 4) (xAlloc 4 34 [.int .i64 0, .int .i64 0, .int .i64 0, .str ⟨#[]⟩, .int .i64 0, .int .i64 0, .str ⟨#[]⟩, .nils, .nils] s.H) s <| .mk fun s =>
  @sOp none (xStore 9 (s.τ 4) (s.τ 19) s.H) s <| .mk fun s =>
  @sOp (some 20) (xLoad 9 true (s.τ 3) s.H) s <| .mk fun u1 =>
  @sCall0 P (.func 24 []) [(u1.τ 20)] (some 21) u1 ⟨W9_c46 P Φ s u1⟩
def W9_b48 (P : Program) (Φ : Exit → St → Prop) (s : St) : Prop :=
  @sOp (some 17) (xLoad 5 true (s.τ 1) s.H) s <| .mk fun s =>
  @sCall P (.func 23 []) [(s.τ 17), (.int .i64 0)] (some 18) s ⟨W9_c47 P Φ⟩
def W9_c49 (P : Program) (Φ : Exit → St → Prop) (s : St) : Prop :=
  @sOp (some 16) (xNot (s.τ 15) s.H) s <| .mk fun s =>
  @sIf (s.τ 16) ⟨W9_b2 P Φ s⟩ ⟨W9_b48 P Φ s⟩
def W9_b50 (P : Program) (Φ : Exit → St → Prop) (s : St) : Prop :=
  @sOp (some 12) (xLoad 5 true (s.τ 1) s.H) s <| .mk fun s =>
  @sOp (some 13) (xLit 5 1 [.int .i64 0, .int .i64 0, .int .i64 0, .nils, .nils] [(0, (s.τ 12))] s.H) s <| .mk fun s =>
  @sOp (some 14) (xBuild [.int .i64 0, .int .i64 0, .nils] [(2, 1, (s.τ 13))] s.H) s <| .mk fun s =>
  @sCall P (.func 21 []) [(s.τ 14)] (some 15) s ⟨W9_c49 P Φ⟩
def W9_c51 (P : Program) (Φ : Exit → St → Prop) (s : St) : Prop :=
  @sOp (some 11) (xNot (s.τ 10) s.H) s <| .mk fun s =>
  @sIf (s.τ 11) ⟨W9_b1 P Φ s⟩ ⟨W9_b50 P Φ s⟩
def W9 (P : Program) (Φ : Exit → St → Prop) (s : St) : Prop :=
  @sOp (some 1) (xBox 1 25 (s.τ 0) s.H) s <| .mk fun s =>
  @sOp (some 2) (xMov (.bool false) s.H) s <| .mk fun s =>
  @sCall P (.func 20 []) [] (some 10) s ⟨W9_c51 P Φ⟩
theorem W9_rs (τ : Nat → AV) (H : Heap) : resV Try.prog τ H [.tmp 2] = some (τ 2) := by kernel_rfl
theorem W9_eq (Φ : Exit → St → Prop) (s : St) : awp Try.prog (Try.f9.body.getD .skip) Φ s = W9 Try.prog Φ s := by kernel_rfl

end Go.Proofs.Ytkagfenchknjjaa
