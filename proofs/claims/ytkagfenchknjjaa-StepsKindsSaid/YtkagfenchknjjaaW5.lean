import Derived.Test.YtkagfenchknjjaaAmSimp
import Derived.Test.YtkagfenchknjjaaProg
import Derived.KernelRfl
set_option linter.unusedVariables false
namespace Go.Proofs.Ytkagfenchknjjaa
open Go Go.Am
-- 35 "penance/penanceref5.Right"
def W35_b1 (P : Program) (Φ : Exit → St → Prop) (s : St) : Prop :=
  @sOp (some 8) (xMov (.bool false) s.H) s <| .mk fun s =>
  Φ .ret s
def W35_b2 (P : Program) (Φ : Exit → St → Prop) (s : St) : Prop :=
  @sOp (some 8) (xMov (.bool false) s.H) s <| .mk fun s =>
  Φ .ret s
def W35_b3 (P : Program) (Φ : Exit → St → Prop) (s : St) : Prop :=
  @sOp (some 8) (xMov (.bool false) s.H) s <| .mk fun s =>
  Φ .ret s
def W35_c4 (P : Program) (Φ : Exit → St → Prop) (s : St) : Prop :=
  @sOp (some 122) (xPick (s.τ 115) (.bool true) (s.τ 121) s.H) s <| .mk fun s =>
  @sOp (some 8) (xMov (s.τ 122) s.H) s <| .mk fun s =>
  Φ .ret s
def W35_c5 (P : Program) (Φ : Exit → St → Prop) (s : St) : Prop :=
  @sGrd (guardOf (s.τ 115) false) (some 121) s ⟨fun s K => @sOp (some 121) (xNot (s.τ 120) s.H) s ⟨K⟩⟩ ⟨W35_c4 P Φ⟩
def W35_c6 (P : Program) (Φ : Exit → St → Prop) (s : St) : Prop :=
  @sGrd (guardOf (s.τ 115) false) (some 120) s ⟨fun s K => @sCall P (.func 57 []) [(s.τ 119)] (some 120) s ⟨K⟩⟩ ⟨W35_c5 P Φ⟩
def W35_c7 (P : Program) (Φ : Exit → St → Prop) (s : St) : Prop :=
  @sGrd (guardOf (s.τ 115) false) (some 119) s ⟨fun s K => @sOp (some 119) (xLoad 9 true (s.τ 118) s.H) s ⟨K⟩⟩ ⟨W35_c6 P Φ⟩
def W35_c8 (P : Program) (Φ : Exit → St → Prop) (s : St) : Prop :=
  @sGrd (guardOf (s.τ 115) false) (some 118) s ⟨fun s K => @sOp (some 118) (xIx 9 (s.τ 117) (.int .i64 0) s.H) s ⟨K⟩⟩ ⟨W35_c7 P Φ⟩
def W35_c9 (P : Program) (Φ : Exit → St → Prop) (s : St) : Prop :=
  @sGrd (guardOf (s.τ 115) false) (some 117) s ⟨fun s K => @sOp (some 117) (xLoad 1 false (s.τ 116) s.H) s ⟨K⟩⟩ ⟨W35_c8 P Φ⟩
def W35_k10 (P : Program) (Φ : Exit → St → Prop) (s : St) : Prop :=
  @sOp (some 112) (xFld 0 (s.τ 4) s.H) s <| .mk fun s =>
  @sOp (some 113) (xLoad 1 false (s.τ 112) s.H) s <| .mk fun s =>
  @sOp (some 114) (xBin .neq false (s.τ 113) (.int .i64 3) s.H) s <| .mk fun s =>
  @sOp (some 115) (xMov (s.τ 114) s.H) s <| .mk fun s =>
  @sGrd (guardOf (s.τ 115) false) (some 116) s ⟨fun s K => @sOp (some 116) (xFld 8 (s.τ 4) s.H) s ⟨K⟩⟩ ⟨W35_c9 P Φ⟩
def W35_b11 (P : Program) (Φ : Exit → St → Prop) (L0 : St → Prop) (s : St) : Prop :=
  @sOp (some 8) (xMov (.bool false) s.H) s <| .mk fun s =>
  Φ .ret s
def W35_b12 (P : Program) (Φ : Exit → St → Prop) (L0 : St → Prop) (s : St) : Prop :=
  @sOp (some 100) (xMov (s.τ 10) s.H) s <| .mk fun s =>
  @sOp (some 101) (xBin .add false (s.τ 100) (.int .i64 1) s.H) s <| .mk fun s =>
  @sOp (some 10) (xMov (s.τ 101) s.H) s <| .mk fun s =>
  L0 s
def W35_c13 (P : Program) (Φ : Exit → St → Prop) (L0 : St → Prop) (s : St) : Prop :=
  @sOp (some 111) (xNot (s.τ 110) s.H) s <| .mk fun s =>
  @sIf (s.τ 111) ⟨W35_b11 P Φ L0 s⟩ ⟨W35_b12 P Φ L0 s⟩
def W35_b14 (P : Program) (Φ : Exit → St → Prop) (L0 : St → Prop) (s : St) : Prop :=
  @sOp (some 102) (xFld 8 (s.τ 4) s.H) s <| .mk fun s =>
  @sOp (some 103) (xLoad 1 false (s.τ 102) s.H) s <| .mk fun s =>
  @sOp (some 104) (xMov (s.τ 10) s.H) s <| .mk fun s =>
  @sOp (some 105) (xIx 9 (s.τ 103) (s.τ 104) s.H) s <| .mk fun s =>
  @sOp (some 106) (xLoad 9 true (s.τ 105) s.H) s <| .mk fun s =>
  @sOp (some 107) (xMov (s.τ 1) s.H) s <| .mk fun s =>
  @sOp (some 108) (xMov (s.τ 2) s.H) s <| .mk fun s =>
  @sOp (some 109) (xMov (s.τ 3) s.H) s <| .mk fun s =>
  @sCall P (.func 35 []) [(s.τ 106), (s.τ 107), (s.τ 108), (s.τ 109)] (some 110) s ⟨W35_c13 P Φ L0⟩
def W35_l15 (P : Program) (Φ : Exit → St → Prop) (L0 : St → Prop) (s : St) : Prop :=
  @sOp (some 95) (xMov (s.τ 10) s.H) s <| .mk fun s =>
  @sOp (some 96) (xFld 8 (s.τ 4) s.H) s <| .mk fun s =>
  @sOp (some 97) (xLoad 1 false (s.τ 96) s.H) s <| .mk fun s =>
  @sOp (some 98) (xLen (s.τ 97) s.H) s <| .mk fun s =>
  @sOp (some 99) (xBin .lss false (s.τ 95) (s.τ 98) s.H) s <| .mk fun s =>
  @sIf (s.τ 99) ⟨W35_b14 P Φ L0 s⟩ ⟨W35_k10 P Φ s⟩
def W35_b16 (P : Program) (Φ : Exit → St → Prop) (s : St) : Prop :=
  @sOp (some 10) (xMov (.int .i64 0) s.H) s <| .mk fun s =>
  @sLoop s ⟨fun L0 s => W35_l15 P Φ L0 s⟩
def W35_c17 (P : Program) (Φ : Exit → St → Prop) (s : St) : Prop :=
  @sOp (some 94) (xPick (s.τ 83) (.bool true) (s.τ 93) s.H) s <| .mk fun s =>
  @sIf (s.τ 94) ⟨W35_b3 P Φ s⟩ ⟨W35_b16 P Φ s⟩
def W35_c18 (P : Program) (Φ : Exit → St → Prop) (s : St) : Prop :=
  @sGrd (guardOf (s.τ 83) false) (some 93) s ⟨fun s K => @sOp (some 93) (xPick (s.τ 87) (s.τ 92) (.bool false) s.H) s ⟨K⟩⟩ ⟨W35_c17 P Φ⟩
def W35_c19 (P : Program) (Φ : Exit → St → Prop) (s : St) : Prop :=
  @sGrd (guardOf (s.τ 87) true) (some 92) s ⟨fun s K => @sOp (some 92) (xNot (s.τ 91) s.H) s ⟨K⟩⟩ ⟨W35_c18 P Φ⟩
def W35_c20 (P : Program) (Φ : Exit → St → Prop) (s : St) : Prop :=
  @sGrd (guardOf (s.τ 87) true) (some 91) s ⟨fun s K => @sCall P (.func 56 []) [(s.τ 89), (s.τ 90)] (some 91) s ⟨K⟩⟩ ⟨W35_c19 P Φ⟩
def W35_c21 (P : Program) (Φ : Exit → St → Prop) (s : St) : Prop :=
  @sGrd (guardOf (s.τ 87) true) (some 90) s ⟨fun s K => @sOp (some 90) (xBuild [.int .i64 0, .int .i64 0, .str ⟨#[]⟩, .nils] [] s.H) s ⟨K⟩⟩ ⟨W35_c20 P Φ⟩
def W35_c22 (P : Program) (Φ : Exit → St → Prop) (s : St) : Prop :=
  @sGrd (guardOf (s.τ 87) true) (some 89) s ⟨fun s K => @sOp (some 89) (xLoad 4 true (s.τ 88) s.H) s ⟨K⟩⟩ ⟨W35_c21 P Φ⟩
def W35_c23 (P : Program) (Φ : Exit → St → Prop) (s : St) : Prop :=
  @sGrd (guardOf (s.τ 87) true) (some 88) s ⟨fun s K => @sOp (some 88) (xFld 4 (s.τ 4) s.H) s ⟨K⟩⟩ ⟨W35_c22 P Φ⟩
def W35_c24 (P : Program) (Φ : Exit → St → Prop) (s : St) : Prop :=
  @sGrd (guardOf (s.τ 83) false) (some 87) s ⟨fun s K => @sOp (some 87) (xMov (s.τ 86) s.H) s ⟨K⟩⟩ ⟨W35_c23 P Φ⟩
def W35_c25 (P : Program) (Φ : Exit → St → Prop) (s : St) : Prop :=
  @sGrd (guardOf (s.τ 83) false) (some 86) s ⟨fun s K => @sOp (some 86) (xNot (s.τ 85) s.H) s ⟨K⟩⟩ ⟨W35_c24 P Φ⟩
def W35_c26 (P : Program) (Φ : Exit → St → Prop) (s : St) : Prop :=
  @sGrd (guardOf (s.τ 83) false) (some 85) s ⟨fun s K => @sOp (some 85) (xLoad 1 false (s.τ 84) s.H) s ⟨K⟩⟩ ⟨W35_c25 P Φ⟩
def W35_c27 (P : Program) (Φ : Exit → St → Prop) (s : St) : Prop :=
  @sOp (some 82) (xPick (s.τ 76) (s.τ 81) (.bool false) s.H) s <| .mk fun s =>
  @sOp (some 83) (xMov (s.τ 82) s.H) s <| .mk fun s =>
  @sGrd (guardOf (s.τ 83) false) (some 84) s ⟨fun s K => @sOp (some 84) (xFld 3 (s.τ 9) s.H) s ⟨K⟩⟩ ⟨W35_c26 P Φ⟩
def W35_c28 (P : Program) (Φ : Exit → St → Prop) (s : St) : Prop :=
  @sGrd (guardOf (s.τ 76) true) (some 81) s ⟨fun s K => @sOp (some 81) (xNot (s.τ 80) s.H) s ⟨K⟩⟩ ⟨W35_c27 P Φ⟩
def W35_c29 (P : Program) (Φ : Exit → St → Prop) (s : St) : Prop :=
  @sGrd (guardOf (s.τ 76) true) (some 80) s ⟨fun s K => @sCall P (.func 55 []) [(s.τ 78), (s.τ 79)] (some 80) s ⟨K⟩⟩ ⟨W35_c28 P Φ⟩
def W35_c30 (P : Program) (Φ : Exit → St → Prop) (s : St) : Prop :=
  @sGrd (guardOf (s.τ 76) true) (some 79) s ⟨fun s K => @sOp (some 79) (xMov (s.τ 1) s.H) s ⟨K⟩⟩ ⟨W35_c29 P Φ⟩
def W35_c31 (P : Program) (Φ : Exit → St → Prop) (s : St) : Prop :=
  @sGrd (guardOf (s.τ 76) true) (some 78) s ⟨fun s K => @sOp (some 78) (xLoad 4 true (s.τ 77) s.H) s ⟨K⟩⟩ ⟨W35_c30 P Φ⟩
def W35_b32 (P : Program) (Φ : Exit → St → Prop) (s : St) : Prop :=
  @sOp (some 74) (xFld 3 (s.τ 9) s.H) s <| .mk fun s =>
  @sOp (some 75) (xLoad 1 false (s.τ 74) s.H) s <| .mk fun s =>
  @sOp (some 76) (xMov (s.τ 75) s.H) s <| .mk fun s =>
  @sGrd (guardOf (s.τ 76) true) (some 77) s ⟨fun s K => @sOp (some 77) (xFld 4 (s.τ 4) s.H) s ⟨K⟩⟩ ⟨W35_c31 P Φ⟩
def W35_c33 (P : Program) (Φ : Exit → St → Prop) (s : St) : Prop :=
  @sOp (some 73) (xPick (s.τ 64) (.bool true) (s.τ 72) s.H) s <| .mk fun s =>
  @sIf (s.τ 73) ⟨W35_b2 P Φ s⟩ ⟨W35_b32 P Φ s⟩
def W35_c34 (P : Program) (Φ : Exit → St → Prop) (s : St) : Prop :=
  @sGrd (guardOf (s.τ 64) false) (some 72) s ⟨fun s K => @sOp (some 72) (xPick (s.τ 67) (s.τ 71) (.bool false) s.H) s ⟨K⟩⟩ ⟨W35_c33 P Φ⟩
def W35_c35 (P : Program) (Φ : Exit → St → Prop) (s : St) : Prop :=
  @sGrd (guardOf (s.τ 67) true) (some 71) s ⟨fun s K => @sOp (some 71) (xNot (s.τ 70) s.H) s ⟨K⟩⟩ ⟨W35_c34 P Φ⟩
def W35_c36 (P : Program) (Φ : Exit → St → Prop) (s : St) : Prop :=
  @sGrd (guardOf (s.τ 67) true) (some 70) s ⟨fun s K => @sCall P (.func 54 []) [(s.τ 69)] (some 70) s ⟨K⟩⟩ ⟨W35_c35 P Φ⟩
def W35_c37 (P : Program) (Φ : Exit → St → Prop) (s : St) : Prop :=
  @sGrd (guardOf (s.τ 67) true) (some 69) s ⟨fun s K => @sOp (some 69) (xLoad 1 false (s.τ 68) s.H) s ⟨K⟩⟩ ⟨W35_c36 P Φ⟩
def W35_c38 (P : Program) (Φ : Exit → St → Prop) (s : St) : Prop :=
  @sGrd (guardOf (s.τ 67) true) (some 68) s ⟨fun s K => @sOp (some 68) (xFld 3 (s.τ 4) s.H) s ⟨K⟩⟩ ⟨W35_c37 P Φ⟩
def W35_c39 (P : Program) (Φ : Exit → St → Prop) (s : St) : Prop :=
  @sGrd (guardOf (s.τ 64) false) (some 67) s ⟨fun s K => @sOp (some 67) (xMov (s.τ 66) s.H) s ⟨K⟩⟩ ⟨W35_c38 P Φ⟩
def W35_c40 (P : Program) (Φ : Exit → St → Prop) (s : St) : Prop :=
  @sGrd (guardOf (s.τ 64) false) (some 66) s ⟨fun s K => @sOp (some 66) (xLoad 1 false (s.τ 65) s.H) s ⟨K⟩⟩ ⟨W35_c39 P Φ⟩
def W35_c41 (P : Program) (Φ : Exit → St → Prop) (s : St) : Prop :=
  @sOp (some 63) (xPick (s.τ 56) (.bool true) (s.τ 62) s.H) s <| .mk fun s =>
  @sOp (some 64) (xMov (s.τ 63) s.H) s <| .mk fun s =>
  @sGrd (guardOf (s.τ 64) false) (some 65) s ⟨fun s K => @sOp (some 65) (xFld 2 (s.τ 9) s.H) s ⟨K⟩⟩ ⟨W35_c40 P Φ⟩
def W35_c42 (P : Program) (Φ : Exit → St → Prop) (s : St) : Prop :=
  @sGrd (guardOf (s.τ 56) false) (some 62) s ⟨fun s K => @sOp (some 62) (xBin .neq true (s.τ 58) (s.τ 61) s.H) s ⟨K⟩⟩ ⟨W35_c41 P Φ⟩
def W35_c43 (P : Program) (Φ : Exit → St → Prop) (s : St) : Prop :=
  @sGrd (guardOf (s.τ 56) false) (some 61) s ⟨fun s K => @sOp (some 61) (xBin .neq false (s.τ 60) (.str ⟨#[]⟩) s.H) s ⟨K⟩⟩ ⟨W35_c42 P Φ⟩
def W35_c44 (P : Program) (Φ : Exit → St → Prop) (s : St) : Prop :=
  @sGrd (guardOf (s.τ 56) false) (some 60) s ⟨fun s K => @sOp (some 60) (xLoad 1 false (s.τ 59) s.H) s ⟨K⟩⟩ ⟨W35_c43 P Φ⟩
def W35_c45 (P : Program) (Φ : Exit → St → Prop) (s : St) : Prop :=
  @sGrd (guardOf (s.τ 56) false) (some 59) s ⟨fun s K => @sOp (some 59) (xFld 3 (s.τ 4) s.H) s ⟨K⟩⟩ ⟨W35_c44 P Φ⟩
def W35_c46 (P : Program) (Φ : Exit → St → Prop) (s : St) : Prop :=
  @sGrd (guardOf (s.τ 56) false) (some 58) s ⟨fun s K => @sOp (some 58) (xLoad 1 false (s.τ 57) s.H) s ⟨K⟩⟩ ⟨W35_c45 P Φ⟩
def W35_c47 (P : Program) (Φ : Exit → St → Prop) (s : St) : Prop :=
  @sOp (some 55) (xPick (s.τ 46) (.bool true) (s.τ 54) s.H) s <| .mk fun s =>
  @sOp (some 56) (xMov (s.τ 55) s.H) s <| .mk fun s =>
  @sGrd (guardOf (s.τ 56) false) (some 57) s ⟨fun s K => @sOp (some 57) (xFld 2 (s.τ 9) s.H) s ⟨K⟩⟩ ⟨W35_c46 P Φ⟩
def W35_c48 (P : Program) (Φ : Exit → St → Prop) (s : St) : Prop :=
  @sGrd (guardOf (s.τ 46) false) (some 54) s ⟨fun s K => @sOp (some 54) (xPick (s.τ 50) (s.τ 53) (.bool false) s.H) s ⟨K⟩⟩ ⟨W35_c47 P Φ⟩
def W35_c49 (P : Program) (Φ : Exit → St → Prop) (s : St) : Prop :=
  @sGrd (guardOf (s.τ 50) true) (some 53) s ⟨fun s K => @sOp (some 53) (xBin .neq false (s.τ 52) (.int .i64 0) s.H) s ⟨K⟩⟩ ⟨W35_c48 P Φ⟩
def W35_c50 (P : Program) (Φ : Exit → St → Prop) (s : St) : Prop :=
  @sGrd (guardOf (s.τ 50) true) (some 52) s ⟨fun s K => @sOp (some 52) (xLoad 1 false (s.τ 51) s.H) s ⟨K⟩⟩ ⟨W35_c49 P Φ⟩
def W35_c51 (P : Program) (Φ : Exit → St → Prop) (s : St) : Prop :=
  @sGrd (guardOf (s.τ 50) true) (some 51) s ⟨fun s K => @sOp (some 51) (xFld 2 (s.τ 4) s.H) s ⟨K⟩⟩ ⟨W35_c50 P Φ⟩
def W35_c52 (P : Program) (Φ : Exit → St → Prop) (s : St) : Prop :=
  @sGrd (guardOf (s.τ 46) false) (some 50) s ⟨fun s K => @sOp (some 50) (xMov (s.τ 49) s.H) s ⟨K⟩⟩ ⟨W35_c51 P Φ⟩
def W35_c53 (P : Program) (Φ : Exit → St → Prop) (s : St) : Prop :=
  @sGrd (guardOf (s.τ 46) false) (some 49) s ⟨fun s K => @sOp (some 49) (xNot (s.τ 48) s.H) s ⟨K⟩⟩ ⟨W35_c52 P Φ⟩
def W35_c54 (P : Program) (Φ : Exit → St → Prop) (s : St) : Prop :=
  @sGrd (guardOf (s.τ 46) false) (some 48) s ⟨fun s K => @sOp (some 48) (xLoad 1 false (s.τ 47) s.H) s ⟨K⟩⟩ ⟨W35_c53 P Φ⟩
def W35_c55 (P : Program) (Φ : Exit → St → Prop) (s : St) : Prop :=
  @sOp (some 45) (xPick (s.τ 41) (s.τ 44) (.bool false) s.H) s <| .mk fun s =>
  @sOp (some 46) (xMov (s.τ 45) s.H) s <| .mk fun s =>
  @sGrd (guardOf (s.τ 46) false) (some 47) s ⟨fun s K => @sOp (some 47) (xFld 1 (s.τ 9) s.H) s ⟨K⟩⟩ ⟨W35_c54 P Φ⟩
def W35_c56 (P : Program) (Φ : Exit → St → Prop) (s : St) : Prop :=
  @sGrd (guardOf (s.τ 41) true) (some 44) s ⟨fun s K => @sOp (some 44) (xBin .neq false (s.τ 43) (.int .i64 0) s.H) s ⟨K⟩⟩ ⟨W35_c55 P Φ⟩
def W35_c57 (P : Program) (Φ : Exit → St → Prop) (s : St) : Prop :=
  @sGrd (guardOf (s.τ 41) true) (some 43) s ⟨fun s K => @sOp (some 43) (xLoad 1 false (s.τ 42) s.H) s ⟨K⟩⟩ ⟨W35_c56 P Φ⟩
def W35_b58 (P : Program) (Φ : Exit → St → Prop) (s : St) : Prop :=
  @sOp (some 38) (xFld 0 (s.τ 9) s.H) s <| .mk fun s =>
  @sOp (some 39) (xLoad 1 false (s.τ 38) s.H) s <| .mk fun s =>
  @sOp (some 40) (xNot (s.τ 39) s.H) s <| .mk fun s =>
  @sOp (some 41) (xMov (s.τ 40) s.H) s <| .mk fun s =>
  @sGrd (guardOf (s.τ 41) true) (some 42) s ⟨fun s K => @sOp (some 42) (xFld 1 (s.τ 4) s.H) s ⟨K⟩⟩ ⟨W35_c57 P Φ⟩
def W35_c59 (P : Program) (Φ : Exit → St → Prop) (s : St) : Prop :=
  @sOp (some 37) (xPick (s.τ 30) (.bool true) (s.τ 36) s.H) s <| .mk fun s =>
  @sIf (s.τ 37) ⟨W35_b1 P Φ s⟩ ⟨W35_b58 P Φ s⟩
def W35_c60 (P : Program) (Φ : Exit → St → Prop) (s : St) : Prop :=
  @sGrd (guardOf (s.τ 30) false) (some 36) s ⟨fun s K => @sOp (some 36) (xNot (s.τ 35) s.H) s ⟨K⟩⟩ ⟨W35_c59 P Φ⟩
def W35_c61 (P : Program) (Φ : Exit → St → Prop) (s : St) : Prop :=
  @sGrd (guardOf (s.τ 30) false) (some 35) s ⟨fun s K => @sCall P (.func 53 []) [(s.τ 31), (s.τ 32), (s.τ 33), (s.τ 34)] (some 35) s ⟨K⟩⟩ ⟨W35_c60 P Φ⟩
def W35_c62 (P : Program) (Φ : Exit → St → Prop) (s : St) : Prop :=
  @sGrd (guardOf (s.τ 30) false) (some 34) s ⟨fun s K => @sOp (some 34) (xMov (s.τ 3) s.H) s ⟨K⟩⟩ ⟨W35_c61 P Φ⟩
def W35_c63 (P : Program) (Φ : Exit → St → Prop) (s : St) : Prop :=
  @sGrd (guardOf (s.τ 30) false) (some 33) s ⟨fun s K => @sOp (some 33) (xMov (s.τ 2) s.H) s ⟨K⟩⟩ ⟨W35_c62 P Φ⟩
def W35_c64 (P : Program) (Φ : Exit → St → Prop) (s : St) : Prop :=
  @sGrd (guardOf (s.τ 30) false) (some 32) s ⟨fun s K => @sOp (some 32) (xMov (s.τ 1) s.H) s ⟨K⟩⟩ ⟨W35_c63 P Φ⟩
def W35_c65 (P : Program) (Φ : Exit → St → Prop) (s : St) : Prop :=
  @sOp (some 29) (xPick (s.τ 22) (.bool true) (s.τ 28) s.H) s <| .mk fun s =>
  @sOp (some 30) (xMov (s.τ 29) s.H) s <| .mk fun s =>
  @sGrd (guardOf (s.τ 30) false) (some 31) s ⟨fun s K => @sOp (some 31) (xLoad 9 true (s.τ 4) s.H) s ⟨K⟩⟩ ⟨W35_c64 P Φ⟩
def W35_c66 (P : Program) (Φ : Exit → St → Prop) (s : St) : Prop :=
  @sGrd (guardOf (s.τ 22) false) (some 28) s ⟨fun s K => @sOp (some 28) (xBin .neq false (s.τ 25) (s.τ 27) s.H) s ⟨K⟩⟩ ⟨W35_c65 P Φ⟩
def W35_c67 (P : Program) (Φ : Exit → St → Prop) (s : St) : Prop :=
  @sGrd (guardOf (s.τ 22) false) (some 27) s ⟨fun s K => @sOp (some 27) (xLoad 1 false (s.τ 26) s.H) s ⟨K⟩⟩ ⟨W35_c66 P Φ⟩
def W35_c68 (P : Program) (Φ : Exit → St → Prop) (s : St) : Prop :=
  @sGrd (guardOf (s.τ 22) false) (some 26) s ⟨fun s K => @sOp (some 26) (xFld 4 (s.τ 9) s.H) s ⟨K⟩⟩ ⟨W35_c67 P Φ⟩
def W35_c69 (P : Program) (Φ : Exit → St → Prop) (s : St) : Prop :=
  @sGrd (guardOf (s.τ 22) false) (some 25) s ⟨fun s K => @sOp (some 25) (xLen (s.τ 24) s.H) s ⟨K⟩⟩ ⟨W35_c68 P Φ⟩
def W35_c70 (P : Program) (Φ : Exit → St → Prop) (s : St) : Prop :=
  @sGrd (guardOf (s.τ 22) false) (some 24) s ⟨fun s K => @sOp (some 24) (xLoad 1 false (s.τ 23) s.H) s ⟨K⟩⟩ ⟨W35_c69 P Φ⟩
def W35_c71 (P : Program) (Φ : Exit → St → Prop) (s : St) : Prop :=
  @sOp (some 21) (xPick (s.τ 17) (.bool true) (s.τ 20) s.H) s <| .mk fun s =>
  @sOp (some 22) (xMov (s.τ 21) s.H) s <| .mk fun s =>
  @sGrd (guardOf (s.τ 22) false) (some 23) s ⟨fun s K => @sOp (some 23) (xFld 8 (s.τ 4) s.H) s ⟨K⟩⟩ ⟨W35_c70 P Φ⟩
def W35_c72 (P : Program) (Φ : Exit → St → Prop) (s : St) : Prop :=
  @sGrd (guardOf (s.τ 17) false) (some 20) s ⟨fun s K => @sOp (some 20) (xBin .gtr false (s.τ 19) (.int .i64 14) s.H) s ⟨K⟩⟩ ⟨W35_c71 P Φ⟩
def W35_c73 (P : Program) (Φ : Exit → St → Prop) (s : St) : Prop :=
  @sGrd (guardOf (s.τ 17) false) (some 19) s ⟨fun s K => @sOp (some 19) (xLoad 1 false (s.τ 18) s.H) s ⟨K⟩⟩ ⟨W35_c72 P Φ⟩
def W35_c74 (P : Program) (Φ : Exit → St → Prop) (s : St) : Prop :=
  @sOp (some 9) (xAlloc 9 90 [.bool false, .bool false, .bool false, .bool false, .int .i64 0] s.H) s <| .mk fun s =>
  @sOp none (xStore 5 (s.τ 9) (s.τ 13) s.H) s <| .mk fun s =>
  @sOp (some 14) (xFld 0 (s.τ 4) s.H) s <| .mk fun s =>
  @sOp (some 15) (xLoad 1 false (s.τ 14) s.H) s <| .mk fun s =>
  @sOp (some 16) (xBin .lss false (s.τ 15) (.int .i64 0) s.H) s <| .mk fun s =>
  @sOp (some 17) (xMov (s.τ 16) s.H) s <| .mk fun s =>
  @sGrd (guardOf (s.τ 17) false) (some 18) s ⟨fun s K => @sOp (some 18) (xFld 0 (s.τ 4) s.H) s ⟨K⟩⟩ ⟨W35_c73 P Φ⟩
def W35 (P : Program) (Φ : Exit → St → Prop) (s : St) : Prop :=
  @sOp (some 4) (xBox 4 34 (s.τ 0) s.H) s <| .mk fun s =>
  @sOp (some 8) (xMov (.bool false) s.H) s <| .mk fun s =>
  @sOp (some 11) (xFld 0 (s.τ 4) s.H) s <| .mk fun s =>
  @sOp (some 12) (xLoad 1 false (s.τ 11) s.H) s <| .mk fun s =>
  @sCall P (.func 52 []) [(s.τ 12)] (some 13) s ⟨W35_c74 P Φ⟩
theorem W35_rs (τ : Nat → AV) (H : Heap) : resV Try.prog τ H [.tmp 8] = some (τ 8) := by kernel_rfl
theorem W35_eq (Φ : Exit → St → Prop) (s : St) : awp Try.prog (Try.f35.body.getD .skip) Φ s = W35 Try.prog Φ s := by kernel_rfl

-- 36 "penance/term.Size"
def W36_k1 (P : Program) (Φ : Exit → St → Prop) (s : St) : Prop :=
  @sOp (some 18) (xMov (s.τ 3) s.H) s <| .mk fun s =>
  @sOp (some 2) (xMov (s.τ 18) s.H) s <| .mk fun s =>
  Φ .ret s
def W36_c2 (P : Program) (Φ : Exit → St → Prop) (L0 : St → Prop) (s : St) : Prop :=
  @sOp (some 16) (xBin .add false (s.τ 13) (s.τ 15) s.H) s <| .mk fun s =>
  @sOp (some 3) (xMov (s.τ 16) s.H) s <| .mk fun s =>
  @sOp (some 17) (xBin .add false (s.τ 9) (.int .i64 1) s.H) s <| .mk fun s =>
  @sOp (some 9) (xMov (s.τ 17) s.H) s <| .mk fun s =>
  L0 s
def W36_b3 (P : Program) (Φ : Exit → St → Prop) (L0 : St → Prop) (s : St) : Prop :=
  @sOp (some 11) (xIx 9 (s.τ 7) (s.τ 9) s.H) s <| .mk fun s =>
  @sOp (some 12) (xLoad 9 true (s.τ 11) s.H) s <| .mk fun s =>
  @sOp (some 5) (xAlloc 5 34 [.int .i64 0, .int .i64 0, .int .i64 0, .str ⟨#[]⟩, .int .i64 0, .int .i64 0, .str ⟨#[]⟩, .nils, .nils] s.H) s <| .mk fun s =>
  @sOp none (xStore 9 (s.τ 5) (s.τ 12) s.H) s <| .mk fun s =>
  @sOp (some 13) (xMov (s.τ 3) s.H) s <| .mk fun s =>
  @sOp (some 14) (xLoad 9 true (s.τ 5) s.H) s <| .mk fun s =>
  @sCall P (.func 36 []) [(s.τ 14)] (some 15) s ⟨W36_c2 P Φ L0⟩
def W36_l4 (P : Program) (Φ : Exit → St → Prop) (L0 : St → Prop) (s : St) : Prop :=
  @sOp (some 10) (xBin .lss false (s.τ 9) (s.τ 8) s.H) s <| .mk fun s =>
  @sIf (s.τ 10) ⟨W36_b3 P Φ L0 s⟩ ⟨W36_k1 P Φ s⟩
def W36 (P : Program) (Φ : Exit → St → Prop) (s : St) : Prop :=
  @sOp (some 1) (xBox 1 34 (s.τ 0) s.H) s <| .mk fun s =>
  @sOp (some 2) (xMov (.int .i64 0) s.H) s <| .mk fun s =>
  @sOp (some 3) (xMov (.int .i64 1) s.H) s <| .mk fun s =>
  @sOp (some 6) (xFld 8 (s.τ 1) s.H) s <| .mk fun s =>
  @sOp (some 7) (xLoad 1 false (s.τ 6) s.H) s <| .mk fun s =>
  @sOp (some 8) (xLen (s.τ 7) s.H) s <| .mk fun s =>
  @sOp (some 9) (xMov (.int .i64 0) s.H) s <| .mk fun s =>
  @sLoop s ⟨fun L0 s => W36_l4 P Φ L0 s⟩
theorem W36_rs (τ : Nat → AV) (H : Heap) : resV Try.prog τ H [.tmp 2] = some (τ 2) := by kernel_rfl
theorem W36_eq (Φ : Exit → St → Prop) (s : St) : awp Try.prog (Try.f36.body.getD .skip) Φ s = W36 Try.prog Φ s := by kernel_rfl

-- 37 "penance/penanceref5.Size"
def W37_k1 (P : Program) (Φ : Exit → St → Prop) (s : St) : Prop :=
  @sOp (some 20) (xMov (s.τ 3) s.H) s <| .mk fun s =>
  @sOp (some 2) (xMov (s.τ 20) s.H) s <| .mk fun s =>
  Φ .ret s
def W37_c2 (P : Program) (Φ : Exit → St → Prop) (L0 : St → Prop) (s : St) : Prop :=
  @sOp (some 19) (xBin .add false (s.τ 12) (s.τ 18) s.H) s <| .mk fun s =>
  @sOp (some 3) (xMov (s.τ 19) s.H) s <| .mk fun s =>
  @sOp (some 10) (xMov (s.τ 4) s.H) s <| .mk fun s =>
  @sOp (some 11) (xBin .add false (s.τ 10) (.int .i64 1) s.H) s <| .mk fun s =>
  @sOp (some 4) (xMov (s.τ 11) s.H) s <| .mk fun s =>
  L0 s
def W37_b3 (P : Program) (Φ : Exit → St → Prop) (L0 : St → Prop) (s : St) : Prop :=
  @sOp (some 12) (xMov (s.τ 3) s.H) s <| .mk fun s =>
  @sOp (some 13) (xFld 8 (s.τ 1) s.H) s <| .mk fun s =>
  @sOp (some 14) (xLoad 1 false (s.τ 13) s.H) s <| .mk fun s =>
  @sOp (some 15) (xMov (s.τ 4) s.H) s <| .mk fun s =>
  @sOp (some 16) (xIx 9 (s.τ 14) (s.τ 15) s.H) s <| .mk fun s =>
  @sOp (some 17) (xLoad 9 true (s.τ 16) s.H) s <| .mk fun s =>
  @sCall P (.func 37 []) [(s.τ 17)] (some 18) s ⟨W37_c2 P Φ L0⟩
def W37_l4 (P : Program) (Φ : Exit → St → Prop) (L0 : St → Prop) (s : St) : Prop :=
  @sOp (some 5) (xMov (s.τ 4) s.H) s <| .mk fun s =>
  @sOp (some 6) (xFld 8 (s.τ 1) s.H) s <| .mk fun s =>
  @sOp (some 7) (xLoad 1 false (s.τ 6) s.H) s <| .mk fun s =>
  @sOp (some 8) (xLen (s.τ 7) s.H) s <| .mk fun s =>
  @sOp (some 9) (xBin .lss false (s.τ 5) (s.τ 8) s.H) s <| .mk fun s =>
  @sIf (s.τ 9) ⟨W37_b3 P Φ L0 s⟩ ⟨W37_k1 P Φ s⟩
def W37 (P : Program) (Φ : Exit → St → Prop) (s : St) : Prop :=
  @sOp (some 1) (xBox 1 34 (s.τ 0) s.H) s <| .mk fun s =>
  @sOp (some 2) (xMov (.int .i64 0) s.H) s <| .mk fun s =>
  @sOp (some 3) (xMov (.int .i64 1) s.H) s <| .mk fun s =>
  @sOp (some 4) (xMov (.int .i64 0) s.H) s <| .mk fun s =>
  @sLoop s ⟨fun L0 s => W37_l4 P Φ L0 s⟩
theorem W37_rs (τ : Nat → AV) (H : Heap) : resV Try.prog τ H [.tmp 2] = some (τ 2) := by kernel_rfl
theorem W37_eq (Φ : Exit → St → Prop) (s : St) : awp Try.prog (Try.f37.body.getD .skip) Φ s = W37 Try.prog Φ s := by kernel_rfl

-- 38 "penance/term.Same"
def W38_c1 (P : Program) (Φ : Exit → St → Prop) (s : St) : Prop :=
  @sOp (some 40) (xPick (s.τ 34) (s.τ 39) (.bool false) s.H) s <| .mk fun s =>
  @sOp (some 4) (xMov (s.τ 40) s.H) s <| .mk fun s =>
  Φ .ret s
def W38_c2 (P : Program) (Φ : Exit → St → Prop) (s : St) : Prop :=
  @sGrd (guardOf (s.τ 34) true) (some 39) s ⟨fun s K => @sCall P (.func 59 []) [(s.τ 36), (s.τ 38), (.func 38 [])] (some 39) s ⟨K⟩⟩ ⟨W38_c1 P Φ⟩
def W38_c3 (P : Program) (Φ : Exit → St → Prop) (s : St) : Prop :=
  @sGrd (guardOf (s.τ 34) true) (some 38) s ⟨fun s K => @sOp (some 38) (xLoad 1 false (s.τ 37) s.H) s ⟨K⟩⟩ ⟨W38_c2 P Φ⟩
def W38_c4 (P : Program) (Φ : Exit → St → Prop) (s : St) : Prop :=
  @sGrd (guardOf (s.τ 34) true) (some 37) s ⟨fun s K => @sOp (some 37) (xFld 8 (s.τ 3) s.H) s ⟨K⟩⟩ ⟨W38_c3 P Φ⟩
def W38_c5 (P : Program) (Φ : Exit → St → Prop) (s : St) : Prop :=
  @sGrd (guardOf (s.τ 34) true) (some 36) s ⟨fun s K => @sOp (some 36) (xLoad 1 false (s.τ 35) s.H) s ⟨K⟩⟩ ⟨W38_c4 P Φ⟩
def W38_c6 (P : Program) (Φ : Exit → St → Prop) (s : St) : Prop :=
  @sOp (some 33) (xPick (s.τ 27) (s.τ 32) (.bool false) s.H) s <| .mk fun s =>
  @sOp (some 34) (xMov (s.τ 33) s.H) s <| .mk fun s =>
  @sGrd (guardOf (s.τ 34) true) (some 35) s ⟨fun s K => @sOp (some 35) (xFld 8 (s.τ 2) s.H) s ⟨K⟩⟩ ⟨W38_c5 P Φ⟩
def W38_c7 (P : Program) (Φ : Exit → St → Prop) (s : St) : Prop :=
  @sGrd (guardOf (s.τ 27) true) (some 32) s ⟨fun s K => @sCall P (.func 58 []) [(s.τ 29), (s.τ 31)] (some 32) s ⟨K⟩⟩ ⟨W38_c6 P Φ⟩
def W38_c8 (P : Program) (Φ : Exit → St → Prop) (s : St) : Prop :=
  @sGrd (guardOf (s.τ 27) true) (some 31) s ⟨fun s K => @sOp (some 31) (xLoad 4 true (s.τ 30) s.H) s ⟨K⟩⟩ ⟨W38_c7 P Φ⟩
def W38_c9 (P : Program) (Φ : Exit → St → Prop) (s : St) : Prop :=
  @sGrd (guardOf (s.τ 27) true) (some 30) s ⟨fun s K => @sOp (some 30) (xFld 4 (s.τ 3) s.H) s ⟨K⟩⟩ ⟨W38_c8 P Φ⟩
def W38_c10 (P : Program) (Φ : Exit → St → Prop) (s : St) : Prop :=
  @sGrd (guardOf (s.τ 27) true) (some 29) s ⟨fun s K => @sOp (some 29) (xLoad 4 true (s.τ 28) s.H) s ⟨K⟩⟩ ⟨W38_c9 P Φ⟩
def W38_c11 (P : Program) (Φ : Exit → St → Prop) (s : St) : Prop :=
  @sOp (some 26) (xPick (s.τ 20) (s.τ 25) (.bool false) s.H) s <| .mk fun s =>
  @sOp (some 27) (xMov (s.τ 26) s.H) s <| .mk fun s =>
  @sGrd (guardOf (s.τ 27) true) (some 28) s ⟨fun s K => @sOp (some 28) (xFld 4 (s.τ 2) s.H) s ⟨K⟩⟩ ⟨W38_c10 P Φ⟩
def W38_c12 (P : Program) (Φ : Exit → St → Prop) (s : St) : Prop :=
  @sGrd (guardOf (s.τ 20) true) (some 25) s ⟨fun s K => @sOp (some 25) (xBin .eql false (s.τ 22) (s.τ 24) s.H) s ⟨K⟩⟩ ⟨W38_c11 P Φ⟩
def W38_c13 (P : Program) (Φ : Exit → St → Prop) (s : St) : Prop :=
  @sGrd (guardOf (s.τ 20) true) (some 24) s ⟨fun s K => @sOp (some 24) (xLoad 1 false (s.τ 23) s.H) s ⟨K⟩⟩ ⟨W38_c12 P Φ⟩
def W38_c14 (P : Program) (Φ : Exit → St → Prop) (s : St) : Prop :=
  @sGrd (guardOf (s.τ 20) true) (some 23) s ⟨fun s K => @sOp (some 23) (xFld 3 (s.τ 3) s.H) s ⟨K⟩⟩ ⟨W38_c13 P Φ⟩
def W38_c15 (P : Program) (Φ : Exit → St → Prop) (s : St) : Prop :=
  @sGrd (guardOf (s.τ 20) true) (some 22) s ⟨fun s K => @sOp (some 22) (xLoad 1 false (s.τ 21) s.H) s ⟨K⟩⟩ ⟨W38_c14 P Φ⟩
def W38 (P : Program) (Φ : Exit → St → Prop) (s : St) : Prop :=
  @sOp (some 2) (xBox 2 34 (s.τ 0) s.H) s <| .mk fun s =>
  @sOp (some 3) (xBox 3 34 (s.τ 1) s.H) s <| .mk fun s =>
  @sOp (some 4) (xMov (.bool false) s.H) s <| .mk fun s =>
  @sOp (some 5) (xFld 0 (s.τ 2) s.H) s <| .mk fun s =>
  @sOp (some 6) (xLoad 1 false (s.τ 5) s.H) s <| .mk fun s =>
  @sOp (some 7) (xFld 1 (s.τ 2) s.H) s <| .mk fun s =>
  @sOp (some 8) (xLoad 1 false (s.τ 7) s.H) s <| .mk fun s =>
  @sOp (some 9) (xFld 2 (s.τ 2) s.H) s <| .mk fun s =>
  @sOp (some 10) (xLoad 1 false (s.τ 9) s.H) s <| .mk fun s =>
  @sOp (some 11) (xBuild [.int .i64 0, .int .i64 0, .int .i64 0] [(0, 1, (s.τ 6)), (1, 1, (s.τ 8)), (2, 1, (s.τ 10))] s.H) s <| .mk fun s =>
  @sOp (some 12) (xFld 0 (s.τ 3) s.H) s <| .mk fun s =>
  @sOp (some 13) (xLoad 1 false (s.τ 12) s.H) s <| .mk fun s =>
  @sOp (some 14) (xFld 1 (s.τ 3) s.H) s <| .mk fun s =>
  @sOp (some 15) (xLoad 1 false (s.τ 14) s.H) s <| .mk fun s =>
  @sOp (some 16) (xFld 2 (s.τ 3) s.H) s <| .mk fun s =>
  @sOp (some 17) (xLoad 1 false (s.τ 16) s.H) s <| .mk fun s =>
  @sOp (some 18) (xBuild [.int .i64 0, .int .i64 0, .int .i64 0] [(0, 1, (s.τ 13)), (1, 1, (s.τ 15)), (2, 1, (s.τ 17))] s.H) s <| .mk fun s =>
  @sOp (some 19) (xEq false [(0, .int), (1, .int), (2, .int)] (s.τ 11) (s.τ 18) s.H) s <| .mk fun s =>
  @sOp (some 20) (xMov (s.τ 19) s.H) s <| .mk fun s =>
  @sGrd (guardOf (s.τ 20) true) (some 21) s ⟨fun s K => @sOp (some 21) (xFld 3 (s.τ 2) s.H) s ⟨K⟩⟩ ⟨W38_c15 P Φ⟩
theorem W38_rs (τ : Nat → AV) (H : Heap) : resV Try.prog τ H [.tmp 4] = some (τ 4) := by kernel_rfl
theorem W38_eq (Φ : Exit → St → Prop) (s : St) : awp Try.prog (Try.f38.body.getD .skip) Φ s = W38 Try.prog Φ s := by kernel_rfl

-- 39 "penance/penanceref5.Same"
def W39_b1 (P : Program) (Φ : Exit → St → Prop) (s : St) : Prop :=
  @sOp (some 4) (xMov (.bool false) s.H) s <| .mk fun s =>
  Φ .ret s
def W39_k2 (P : Program) (Φ : Exit → St → Prop) (s : St) : Prop :=
  @sOp (some 4) (xMov (.bool true) s.H) s <| .mk fun s =>
  Φ .ret s
def W39_b3 (P : Program) (Φ : Exit → St → Prop) (L0 : St → Prop) (s : St) : Prop :=
  @sOp (some 4) (xMov (.bool false) s.H) s <| .mk fun s =>
  Φ .ret s
def W39_b4 (P : Program) (Φ : Exit → St → Prop) (L0 : St → Prop) (s : St) : Prop :=
  @sOp (some 54) (xMov (s.τ 5) s.H) s <| .mk fun s =>
  @sOp (some 55) (xBin .add false (s.τ 54) (.int .i64 1) s.H) s <| .mk fun s =>
  @sOp (some 5) (xMov (s.τ 55) s.H) s <| .mk fun s =>
  L0 s
def W39_c5 (P : Program) (Φ : Exit → St → Prop) (L0 : St → Prop) (s : St) : Prop :=
  @sOp (some 67) (xNot (s.τ 66) s.H) s <| .mk fun s =>
  @sIf (s.τ 67) ⟨W39_b3 P Φ L0 s⟩ ⟨W39_b4 P Φ L0 s⟩
def W39_b6 (P : Program) (Φ : Exit → St → Prop) (L0 : St → Prop) (s : St) : Prop :=
  @sOp (some 56) (xFld 8 (s.τ 2) s.H) s <| .mk fun s =>
  @sOp (some 57) (xLoad 1 false (s.τ 56) s.H) s <| .mk fun s =>
  @sOp (some 58) (xMov (s.τ 5) s.H) s <| .mk fun s =>
  @sOp (some 59) (xIx 9 (s.τ 57) (s.τ 58) s.H) s <| .mk fun s =>
  @sOp (some 60) (xLoad 9 true (s.τ 59) s.H) s <| .mk fun s =>
  @sOp (some 61) (xFld 8 (s.τ 3) s.H) s <| .mk fun s =>
  @sOp (some 62) (xLoad 1 false (s.τ 61) s.H) s <| .mk fun s =>
  @sOp (some 63) (xMov (s.τ 5) s.H) s <| .mk fun s =>
  @sOp (some 64) (xIx 9 (s.τ 62) (s.τ 63) s.H) s <| .mk fun s =>
  @sOp (some 65) (xLoad 9 true (s.τ 64) s.H) s <| .mk fun s =>
  @sCall0 P (.func 39 []) [(s.τ 60), (s.τ 65)] (some 66) s ⟨W39_c5 P Φ L0⟩
def W39_l7 (P : Program) (Φ : Exit → St → Prop) (L0 : St → Prop) (s : St) : Prop :=
  @sOp (some 49) (xMov (s.τ 5) s.H) s <| .mk fun s =>
  @sOp (some 50) (xFld 8 (s.τ 2) s.H) s <| .mk fun s =>
  @sOp (some 51) (xLoad 1 false (s.τ 50) s.H) s <| .mk fun s =>
  @sOp (some 52) (xLen (s.τ 51) s.H) s <| .mk fun s =>
  @sOp (some 53) (xBin .lss false (s.τ 49) (s.τ 52) s.H) s <| .mk fun s =>
  @sIf (s.τ 53) ⟨W39_b6 P Φ L0 s⟩ ⟨W39_k2 P Φ s⟩
def W39_b8 (P : Program) (Φ : Exit → St → Prop) (s : St) : Prop :=
  @sOp (some 5) (xMov (.int .i64 0) s.H) s <| .mk fun s =>
  @sLoop s ⟨fun L0 s => W39_l7 P Φ L0 s⟩
def W39_c9 (P : Program) (Φ : Exit → St → Prop) (s : St) : Prop :=
  @sOp (some 48) (xPick (s.τ 40) (.bool true) (s.τ 47) s.H) s <| .mk fun s =>
  @sIf (s.τ 48) ⟨W39_b1 P Φ s⟩ ⟨W39_b8 P Φ s⟩
def W39_c10 (P : Program) (Φ : Exit → St → Prop) (s : St) : Prop :=
  @sGrd (guardOf (s.τ 40) false) (some 47) s ⟨fun s K => @sOp (some 47) (xBin .neq false (s.τ 43) (s.τ 46) s.H) s ⟨K⟩⟩ ⟨W39_c9 P Φ⟩
def W39_c11 (P : Program) (Φ : Exit → St → Prop) (s : St) : Prop :=
  @sGrd (guardOf (s.τ 40) false) (some 46) s ⟨fun s K => @sOp (some 46) (xLen (s.τ 45) s.H) s ⟨K⟩⟩ ⟨W39_c10 P Φ⟩
def W39_c12 (P : Program) (Φ : Exit → St → Prop) (s : St) : Prop :=
  @sGrd (guardOf (s.τ 40) false) (some 45) s ⟨fun s K => @sOp (some 45) (xLoad 1 false (s.τ 44) s.H) s ⟨K⟩⟩ ⟨W39_c11 P Φ⟩
def W39_c13 (P : Program) (Φ : Exit → St → Prop) (s : St) : Prop :=
  @sGrd (guardOf (s.τ 40) false) (some 44) s ⟨fun s K => @sOp (some 44) (xFld 8 (s.τ 3) s.H) s ⟨K⟩⟩ ⟨W39_c12 P Φ⟩
def W39_c14 (P : Program) (Φ : Exit → St → Prop) (s : St) : Prop :=
  @sGrd (guardOf (s.τ 40) false) (some 43) s ⟨fun s K => @sOp (some 43) (xLen (s.τ 42) s.H) s ⟨K⟩⟩ ⟨W39_c13 P Φ⟩
def W39_c15 (P : Program) (Φ : Exit → St → Prop) (s : St) : Prop :=
  @sGrd (guardOf (s.τ 40) false) (some 42) s ⟨fun s K => @sOp (some 42) (xLoad 1 false (s.τ 41) s.H) s ⟨K⟩⟩ ⟨W39_c14 P Φ⟩
def W39_c16 (P : Program) (Φ : Exit → St → Prop) (s : St) : Prop :=
  @sOp (some 39) (xPick (s.τ 32) (.bool true) (s.τ 38) s.H) s <| .mk fun s =>
  @sOp (some 40) (xMov (s.τ 39) s.H) s <| .mk fun s =>
  @sGrd (guardOf (s.τ 40) false) (some 41) s ⟨fun s K => @sOp (some 41) (xFld 8 (s.τ 2) s.H) s ⟨K⟩⟩ ⟨W39_c15 P Φ⟩
def W39_c17 (P : Program) (Φ : Exit → St → Prop) (s : St) : Prop :=
  @sGrd (guardOf (s.τ 32) false) (some 38) s ⟨fun s K => @sOp (some 38) (xNot (s.τ 37) s.H) s ⟨K⟩⟩ ⟨W39_c16 P Φ⟩
def W39_c18 (P : Program) (Φ : Exit → St → Prop) (s : St) : Prop :=
  @sGrd (guardOf (s.τ 32) false) (some 37) s ⟨fun s K => @sCall P (.func 56 []) [(s.τ 34), (s.τ 36)] (some 37) s ⟨K⟩⟩ ⟨W39_c17 P Φ⟩
def W39_c19 (P : Program) (Φ : Exit → St → Prop) (s : St) : Prop :=
  @sGrd (guardOf (s.τ 32) false) (some 36) s ⟨fun s K => @sOp (some 36) (xLoad 4 true (s.τ 35) s.H) s ⟨K⟩⟩ ⟨W39_c18 P Φ⟩
def W39_c20 (P : Program) (Φ : Exit → St → Prop) (s : St) : Prop :=
  @sGrd (guardOf (s.τ 32) false) (some 35) s ⟨fun s K => @sOp (some 35) (xFld 4 (s.τ 3) s.H) s ⟨K⟩⟩ ⟨W39_c19 P Φ⟩
def W39_c21 (P : Program) (Φ : Exit → St → Prop) (s : St) : Prop :=
  @sGrd (guardOf (s.τ 32) false) (some 34) s ⟨fun s K => @sOp (some 34) (xLoad 4 true (s.τ 33) s.H) s ⟨K⟩⟩ ⟨W39_c20 P Φ⟩
def W39_c22 (P : Program) (Φ : Exit → St → Prop) (s : St) : Prop :=
  @sOp (some 31) (xPick (s.τ 25) (.bool true) (s.τ 30) s.H) s <| .mk fun s =>
  @sOp (some 32) (xMov (s.τ 31) s.H) s <| .mk fun s =>
  @sGrd (guardOf (s.τ 32) false) (some 33) s ⟨fun s K => @sOp (some 33) (xFld 4 (s.τ 2) s.H) s ⟨K⟩⟩ ⟨W39_c21 P Φ⟩
def W39_c23 (P : Program) (Φ : Exit → St → Prop) (s : St) : Prop :=
  @sGrd (guardOf (s.τ 25) false) (some 30) s ⟨fun s K => @sOp (some 30) (xBin .neq false (s.τ 27) (s.τ 29) s.H) s ⟨K⟩⟩ ⟨W39_c22 P Φ⟩
def W39_c24 (P : Program) (Φ : Exit → St → Prop) (s : St) : Prop :=
  @sGrd (guardOf (s.τ 25) false) (some 29) s ⟨fun s K => @sOp (some 29) (xLoad 1 false (s.τ 28) s.H) s ⟨K⟩⟩ ⟨W39_c23 P Φ⟩
def W39_c25 (P : Program) (Φ : Exit → St → Prop) (s : St) : Prop :=
  @sGrd (guardOf (s.τ 25) false) (some 28) s ⟨fun s K => @sOp (some 28) (xFld 3 (s.τ 3) s.H) s ⟨K⟩⟩ ⟨W39_c24 P Φ⟩
def W39_c26 (P : Program) (Φ : Exit → St → Prop) (s : St) : Prop :=
  @sGrd (guardOf (s.τ 25) false) (some 27) s ⟨fun s K => @sOp (some 27) (xLoad 1 false (s.τ 26) s.H) s ⟨K⟩⟩ ⟨W39_c25 P Φ⟩
def W39_c27 (P : Program) (Φ : Exit → St → Prop) (s : St) : Prop :=
  @sOp (some 24) (xPick (s.τ 18) (.bool true) (s.τ 23) s.H) s <| .mk fun s =>
  @sOp (some 25) (xMov (s.τ 24) s.H) s <| .mk fun s =>
  @sGrd (guardOf (s.τ 25) false) (some 26) s ⟨fun s K => @sOp (some 26) (xFld 3 (s.τ 2) s.H) s ⟨K⟩⟩ ⟨W39_c26 P Φ⟩
def W39_c28 (P : Program) (Φ : Exit → St → Prop) (s : St) : Prop :=
  @sGrd (guardOf (s.τ 18) false) (some 23) s ⟨fun s K => @sOp (some 23) (xBin .neq false (s.τ 20) (s.τ 22) s.H) s ⟨K⟩⟩ ⟨W39_c27 P Φ⟩
def W39_c29 (P : Program) (Φ : Exit → St → Prop) (s : St) : Prop :=
  @sGrd (guardOf (s.τ 18) false) (some 22) s ⟨fun s K => @sOp (some 22) (xLoad 1 false (s.τ 21) s.H) s ⟨K⟩⟩ ⟨W39_c28 P Φ⟩
def W39_c30 (P : Program) (Φ : Exit → St → Prop) (s : St) : Prop :=
  @sGrd (guardOf (s.τ 18) false) (some 21) s ⟨fun s K => @sOp (some 21) (xFld 2 (s.τ 3) s.H) s ⟨K⟩⟩ ⟨W39_c29 P Φ⟩
def W39_c31 (P : Program) (Φ : Exit → St → Prop) (s : St) : Prop :=
  @sGrd (guardOf (s.τ 18) false) (some 20) s ⟨fun s K => @sOp (some 20) (xLoad 1 false (s.τ 19) s.H) s ⟨K⟩⟩ ⟨W39_c30 P Φ⟩
def W39_c32 (P : Program) (Φ : Exit → St → Prop) (s : St) : Prop :=
  @sOp (some 17) (xPick (s.τ 11) (.bool true) (s.τ 16) s.H) s <| .mk fun s =>
  @sOp (some 18) (xMov (s.τ 17) s.H) s <| .mk fun s =>
  @sGrd (guardOf (s.τ 18) false) (some 19) s ⟨fun s K => @sOp (some 19) (xFld 2 (s.τ 2) s.H) s ⟨K⟩⟩ ⟨W39_c31 P Φ⟩
def W39_c33 (P : Program) (Φ : Exit → St → Prop) (s : St) : Prop :=
  @sGrd (guardOf (s.τ 11) false) (some 16) s ⟨fun s K => @sOp (some 16) (xBin .neq false (s.τ 13) (s.τ 15) s.H) s ⟨K⟩⟩ ⟨W39_c32 P Φ⟩
def W39_c34 (P : Program) (Φ : Exit → St → Prop) (s : St) : Prop :=
  @sGrd (guardOf (s.τ 11) false) (some 15) s ⟨fun s K => @sOp (some 15) (xLoad 1 false (s.τ 14) s.H) s ⟨K⟩⟩ ⟨W39_c33 P Φ⟩
def W39_c35 (P : Program) (Φ : Exit → St → Prop) (s : St) : Prop :=
  @sGrd (guardOf (s.τ 11) false) (some 14) s ⟨fun s K => @sOp (some 14) (xFld 1 (s.τ 3) s.H) s ⟨K⟩⟩ ⟨W39_c34 P Φ⟩
def W39_c36 (P : Program) (Φ : Exit → St → Prop) (s : St) : Prop :=
  @sGrd (guardOf (s.τ 11) false) (some 13) s ⟨fun s K => @sOp (some 13) (xLoad 1 false (s.τ 12) s.H) s ⟨K⟩⟩ ⟨W39_c35 P Φ⟩
def W39 (P : Program) (Φ : Exit → St → Prop) (s : St) : Prop :=
  @sOp (some 2) (xBox 2 34 (s.τ 0) s.H) s <| .mk fun s =>
  @sOp (some 3) (xBox 3 34 (s.τ 1) s.H) s <| .mk fun s =>
  @sOp (some 4) (xMov (.bool false) s.H) s <| .mk fun s =>
  @sOp (some 6) (xFld 0 (s.τ 2) s.H) s <| .mk fun s =>
  @sOp (some 7) (xLoad 1 false (s.τ 6) s.H) s <| .mk fun s =>
  @sOp (some 8) (xFld 0 (s.τ 3) s.H) s <| .mk fun s =>
  @sOp (some 9) (xLoad 1 false (s.τ 8) s.H) s <| .mk fun s =>
  @sOp (some 10) (xBin .neq false (s.τ 7) (s.τ 9) s.H) s <| .mk fun s =>
  @sOp (some 11) (xMov (s.τ 10) s.H) s <| .mk fun s =>
  @sGrd (guardOf (s.τ 11) false) (some 12) s ⟨fun s K => @sOp (some 12) (xFld 1 (s.τ 2) s.H) s ⟨K⟩⟩ ⟨W39_c36 P Φ⟩
theorem W39_rs (τ : Nat → AV) (H : Heap) : resV Try.prog τ H [.tmp 4] = some (τ 4) := by kernel_rfl
theorem W39_eq (Φ : Exit → St → Prop) (s : St) : awp Try.prog (Try.f39.body.getD .skip) Φ s = W39 Try.prog Φ s := by kernel_rfl

-- 40 "penance/term.Norm"
def W40_c1 (P : Program) (Φ : Exit → St → Prop) (s : St) : Prop :=
  @sOp none (xStore 9 (s.τ 2) (s.τ 30) s.H) s <| .mk fun s =>
  Φ .ret s
def W40_b2 (P : Program) (Φ : Exit → St → Prop) (s : St) : Prop :=
  @sOp (some 26) (xFld 8 (s.τ 1) s.H) s <| .mk fun s =>
  @sOp (some 27) (xLoad 1 false (s.τ 26) s.H) s <| .mk fun s =>
  @sOp (some 28) (xIx 9 (s.τ 27) (.int .i64 1) s.H) s <| .mk fun s =>
  @sOp (some 29) (xLoad 9 true (s.τ 28) s.H) s <| .mk fun s =>
  @sCall P (.func 40 []) [(s.τ 29)] (some 30) s ⟨W40_c1 P Φ⟩
def W40_c3 (P : Program) (Φ : Exit → St → Prop) (s : St) : Prop :=
  @sOp (some 37) (xLit 9 2 [.int .i64 0, .int .i64 0, .int .i64 0, .str ⟨#[]⟩, .int .i64 0, .int .i64 0, .str ⟨#[]⟩, .nils, .nils] [(0, (s.τ 31)), (1, (s.τ 36))] s.H) s <| .mk fun u7 =>
  @sOp (some 38) (xBuild [.int .i64 0, .int .i64 0, .int .i64 0, .str ⟨#[]⟩, .int .i64 0, .int .i64 0, .str ⟨#[]⟩, .nils, .nils] [(0, 1, (.int .i64 12)), (8, 1, (u7.τ 37))] u7.H) u7 <| .mk fun u8 =>
  @sOp none (xStore 9 (u8.τ 2) (u8.τ 38) u8.H) u8 <| .mk fun s =>
  Φ .ret s
def W40_b4 (P : Program) (Φ : Exit → St → Prop) (s : St) : Prop :=
  @sOp (some 31) (xLoad 9 true (s.τ 4) s.H) s <| .mk fun u1 =>
  @sOp (some 32) (xFld 8 (u1.τ 1) u1.H) u1 <| .mk fun u2 =>
  @sOp (some 33) (xLoad 1 false (u2.τ 32) u2.H) u2 <| .mk fun u3 =>
  @sOp (some 34) (xIx 9 (u3.τ 33) (.int .i64 1) u3.H) u3 <| .mk fun u4 =>
  @sOp (some 35) (xLoad 9 true (u4.τ 34) u4.H) u4 <| .mk fun u5 =>
  @sChk (compat (occ (s.τ 4), []) ([36] ++ (occ (.func 61 []) ++ occL [(u5.τ 35)]), [36] ++ (occ (.func 61 []) ++ occL [(u5.τ 35)]))) <| .mk <|
  @sCall0 P (.func 61 []) [(u5.τ 35)] (some 36) u5 ⟨W40_c3 P Φ⟩
def W40_c5 (P : Program) (Φ : Exit → St → Prop) (s : St) : Prop :=
  @sIf (s.τ 25) ⟨W40_b2 P Φ s⟩ ⟨W40_b4 P Φ s⟩
def W40_c6 (P : Program) (Φ : Exit → St → Prop) (s : St) : Prop :=
  @sOp (some 4) (xAlloc 4 34 [.int .i64 0, .int .i64 0, .int .i64 0, .str ⟨#[]⟩, .int .i64 0, .int .i64 0, .str ⟨#[]⟩, .nils, .nils] s.H) s <| .mk fun s =>
  @sOp none (xStore 9 (s.τ 4) (s.τ 22) s.H) s <| .mk fun s =>
  @sOp (some 23) (xMov (s.τ 3) s.H) s <| .mk fun s =>
  @sOp (some 24) (xLoad 9 true (s.τ 4) s.H) s <| .mk fun s =>
  @sCall P (s.τ 23) [(s.τ 24)] (some 25) s ⟨W40_c5 P Φ⟩
def W40_b7 (P : Program) (Φ : Exit → St → Prop) (s : St) : Prop :=
  @sOp (some 18) (xFld 8 (s.τ 1) s.H) s <| .mk fun s =>
  @sOp (some 19) (xLoad 1 false (s.τ 18) s.H) s <| .mk fun s =>
  @sOp (some 20) (xIx 9 (s.τ 19) (.int .i64 0) s.H) s <| .mk fun s =>
  @sOp (some 21) (xLoad 9 true (s.τ 20) s.H) s <| .mk fun s =>
  @sCall P (.func 40 []) [(s.τ 21)] (some 22) s ⟨W40_c6 P Φ⟩
def W40_b8 (P : Program) (Φ : Exit → St → Prop) (s : St) : Prop :=
  @sOp (some 67) (xBuild [.int .i64 0, .int .i64 0, .int .i64 0, .str ⟨#[]⟩, .int .i64 0, .int .i64 0, .str ⟨#[]⟩, .nils, .nils] [] s.H) s <| .mk fun s =>
  @sOp none (xStore 9 (s.τ 2) (s.τ 67) s.H) s <| .mk fun s =>
  Φ .ret s
def W40_b9 (P : Program) (Φ : Exit → St → Prop) (s : St) : Prop :=
  @sOp (some 68) (xLoad 9 true (s.τ 5) s.H) s <| .mk fun s =>
  @sOp (some 69) (xLoad 9 true (s.τ 6) s.H) s <| .mk fun s =>
  @sOp (some 70) (xLit 9 2 [.int .i64 0, .int .i64 0, .int .i64 0, .str ⟨#[]⟩, .int .i64 0, .int .i64 0, .str ⟨#[]⟩, .nils, .nils] [(0, (s.τ 68)), (1, (s.τ 69))] s.H) s <| .mk fun s =>
  @sOp (some 71) (xBuild [.int .i64 0, .int .i64 0, .int .i64 0, .str ⟨#[]⟩, .int .i64 0, .int .i64 0, .str ⟨#[]⟩, .nils, .nils] [(0, 1, (.int .i64 11)), (8, 1, (s.τ 70))] s.H) s <| .mk fun s =>
  @sOp none (xStore 9 (s.τ 2) (s.τ 71) s.H) s <| .mk fun s =>
  Φ .ret s
def W40_c10 (P : Program) (Φ : Exit → St → Prop) (s : St) : Prop :=
  @sOp (some 66) (xPick (s.τ 62) (s.τ 65) (.bool false) s.H) s <| .mk fun s =>
  @sIf (s.τ 66) ⟨W40_b8 P Φ s⟩ ⟨W40_b9 P Φ s⟩
def W40_c11 (P : Program) (Φ : Exit → St → Prop) (s : St) : Prop :=
  @sGrd (guardOf (s.τ 62) true) (some 65) s ⟨fun s K => @sCall P (s.τ 63) [(s.τ 64)] (some 65) s ⟨K⟩⟩ ⟨W40_c10 P Φ⟩
def W40_c12 (P : Program) (Φ : Exit → St → Prop) (s : St) : Prop :=
  @sGrd (guardOf (s.τ 62) true) (some 64) s ⟨fun s K => @sOp (some 64) (xLoad 9 true (s.τ 6) s.H) s ⟨K⟩⟩ ⟨W40_c11 P Φ⟩
def W40_c13 (P : Program) (Φ : Exit → St → Prop) (s : St) : Prop :=
  @sOp (some 62) (xMov (s.τ 61) s.H) s <| .mk fun s =>
  @sGrd (guardOf (s.τ 62) true) (some 63) s ⟨fun s K => @sOp (some 63) (xMov (s.τ 3) s.H) s ⟨K⟩⟩ ⟨W40_c12 P Φ⟩
def W40_c14 (P : Program) (Φ : Exit → St → Prop) (u0 : St) (u1 : St) (u2 : St) (u3 : St) (u4 : St) (u5 : St) (u6 : St) (u7 : St) (u8 : St) (u9 : St) (s : St) : Prop :=
  @sChk (compat (occ (u0.τ 1), []) ([5], [5])) <| .mk <|
  @sChk (compat (occ (u1.τ 49), []) ([5], [5])) <| .mk <|
  @sChk (compat (occ (u2.τ 50), []) ([5], [5])) <| .mk <|
  @sChk (compat (occ (u3.τ 51), []) ([5], [5])) <| .mk <|
  @sChk (compat ([53] ++ (occ (.func 40 []) ++ occL [(u4.τ 52)]), [53] ++ (occ (.func 40 []) ++ occL [(u4.τ 52)])) ([5], [5])) <| .mk <|
  @sChk (compat (occ (u5.τ 1), []) ([5], [5])) <| .mk <|
  @sChk (compat (occ (u6.τ 54), []) ([5], [5])) <| .mk <|
  @sChk (compat (occ (u7.τ 55), []) ([5], [5])) <| .mk <|
  @sChk (compat (occ (u8.τ 56), []) ([5], [5])) <| .mk <|
  @sChk (compat ([58] ++ (occ (.func 40 []) ++ occL [(u9.τ 57)]), [58] ++ (occ (.func 40 []) ++ occL [(u9.τ 57)])) ([5], [5])) <| .mk <|
  @sOp (some 5) (xAlloc 5 34 [.int .i64 0, .int .i64 0, .int .i64 0, .str ⟨#[]⟩, .int .i64 0, .int .i64 0, .str ⟨#[]⟩, .nils, .nils] s.H) s <| .mk fun u11 =>
  @sChk (compat (occ (u0.τ 1), []) ([6], [6])) <| .mk <|
  @sChk (compat (occ (u1.τ 49), []) ([6], [6])) <| .mk <|
  @sChk (compat (occ (u2.τ 50), []) ([6], [6])) <| .mk <|
  @sChk (compat (occ (u3.τ 51), []) ([6], [6])) <| .mk <|
  @sChk (compat ([53] ++ (occ (.func 40 []) ++ occL [(u4.τ 52)]), [53] ++ (occ (.func 40 []) ++ occL [(u4.τ 52)])) ([6], [6])) <| .mk <|
  @sChk (compat (occ (u5.τ 1), []) ([6], [6])) <| .mk <|
  @sChk (compat (occ (u6.τ 54), []) ([6], [6])) <| .mk <|
  @sChk (compat (occ (u7.τ 55), []) ([6], [6])) <| .mk <|
  @sChk (compat (occ (u8.τ 56), []) ([6], [6])) <| .mk <|
  @sChk (compat ([58] ++ (occ (.func 40 []) ++ occL [(u9.τ 57)]), [58] ++ (occ (.func 40 []) ++ occL [(u9.τ 57)])) ([6], [6])) <| .mk <|
  @sChk (compat ([5], [5]) ([6], [6])) <| .mk <|
  @sOp (some 6) (xAlloc 6 34 [.int .i64 0, .int .i64 0, .int .i64 0, .str ⟨#[]⟩, .int .i64 0, .int .i64 0, .str ⟨#[]⟩, .nils, .nils] u11.H) u11 <| .mk fun u12 =>
  @sOp none (xStore 9 (u12.τ 5) (u12.τ 53) u12.H) u12 <| .mk fun u13 =>
  @sOp none (xStore 9 (u13.τ 6) (u13.τ 58) u13.H) u13 <| .mk fun s =>
  @sOp (some 59) (xMov (s.τ 3) s.H) s <| .mk fun s =>
  @sOp (some 60) (xLoad 9 true (s.τ 5) s.H) s <| .mk fun s =>
  @sCall P (s.τ 59) [(s.τ 60)] (some 61) s ⟨W40_c13 P Φ⟩
def W40_c15 (P : Program) (Φ : Exit → St → Prop) (u0 : St) (u1 : St) (u2 : St) (u3 : St) (u4 : St) (s : St) : Prop :=
  @sChk (compat ([53] ++ (occ (.func 40 []) ++ occL [(u4.τ 52)]), [53] ++ (occ (.func 40 []) ++ occL [(u4.τ 52)])) (occ (s.τ 1), [])) <| .mk <|
  @sOp (some 54) (xFld 8 (s.τ 1) s.H) s <| .mk fun u6 =>
  @sChk (compat ([53] ++ (occ (.func 40 []) ++ occL [(u4.τ 52)]), [53] ++ (occ (.func 40 []) ++ occL [(u4.τ 52)])) (occ (u6.τ 54), [])) <| .mk <|
  @sOp (some 55) (xLoad 1 false (u6.τ 54) u6.H) u6 <| .mk fun u7 =>
  @sChk (compat ([53] ++ (occ (.func 40 []) ++ occL [(u4.τ 52)]), [53] ++ (occ (.func 40 []) ++ occL [(u4.τ 52)])) (occ (u7.τ 55), [])) <| .mk <|
  @sOp (some 56) (xIx 9 (u7.τ 55) (.int .i64 1) u7.H) u7 <| .mk fun u8 =>
  @sChk (compat ([53] ++ (occ (.func 40 []) ++ occL [(u4.τ 52)]), [53] ++ (occ (.func 40 []) ++ occL [(u4.τ 52)])) (occ (u8.τ 56), [])) <| .mk <|
  @sOp (some 57) (xLoad 9 true (u8.τ 56) u8.H) u8 <| .mk fun u9 =>
  @sCall0 P (.func 40 []) [(u9.τ 57)] (some 58) u9 ⟨W40_c14 P Φ u0 u1 u2 u3 u4 s u6 u7 u8 u9⟩
def W40_b16 (P : Program) (Φ : Exit → St → Prop) (s : St) : Prop :=
  @sOp (some 49) (xFld 8 (s.τ 1) s.H) s <| .mk fun u1 =>
  @sOp (some 50) (xLoad 1 false (u1.τ 49) u1.H) u1 <| .mk fun u2 =>
  @sOp (some 51) (xIx 9 (u2.τ 50) (.int .i64 0) u2.H) u2 <| .mk fun u3 =>
  @sOp (some 52) (xLoad 9 true (u3.τ 51) u3.H) u3 <| .mk fun u4 =>
  @sCall0 P (.func 40 []) [(u4.τ 52)] (some 53) u4 ⟨W40_c15 P Φ s u1 u2 u3 u4⟩
def W40_b17 (P : Program) (Φ : Exit → St → Prop) (s : St) : Prop :=
  @sOp (some 90) (xBuild [.int .i64 0, .int .i64 0, .int .i64 0, .str ⟨#[]⟩, .int .i64 0, .int .i64 0, .str ⟨#[]⟩, .nils, .nils] [] s.H) s <| .mk fun s =>
  @sOp none (xStore 9 (s.τ 2) (s.τ 90) s.H) s <| .mk fun s =>
  Φ .ret s
def W40_b18 (P : Program) (Φ : Exit → St → Prop) (s : St) : Prop :=
  @sOp (some 91) (xLoad 9 true (s.τ 7) s.H) s <| .mk fun s =>
  @sOp (some 92) (xLit 9 1 [.int .i64 0, .int .i64 0, .int .i64 0, .str ⟨#[]⟩, .int .i64 0, .int .i64 0, .str ⟨#[]⟩, .nils, .nils] [(0, (s.τ 91))] s.H) s <| .mk fun s =>
  @sOp (some 93) (xBuild [.int .i64 0, .int .i64 0, .int .i64 0, .str ⟨#[]⟩, .int .i64 0, .int .i64 0, .str ⟨#[]⟩, .nils, .nils] [(0, 1, (.int .i64 7)), (8, 1, (s.τ 92))] s.H) s <| .mk fun s =>
  @sOp none (xStore 9 (s.τ 2) (s.τ 93) s.H) s <| .mk fun s =>
  Φ .ret s
def W40_c19 (P : Program) (Φ : Exit → St → Prop) (s : St) : Prop :=
  @sIf (s.τ 89) ⟨W40_b17 P Φ s⟩ ⟨W40_b18 P Φ s⟩
def W40_c20 (P : Program) (Φ : Exit → St → Prop) (s : St) : Prop :=
  @sOp (some 7) (xAlloc 7 34 [.int .i64 0, .int .i64 0, .int .i64 0, .str ⟨#[]⟩, .int .i64 0, .int .i64 0, .str ⟨#[]⟩, .nils, .nils] s.H) s <| .mk fun s =>
  @sOp none (xStore 9 (s.τ 7) (s.τ 86) s.H) s <| .mk fun s =>
  @sOp (some 87) (xMov (s.τ 3) s.H) s <| .mk fun s =>
  @sOp (some 88) (xLoad 9 true (s.τ 7) s.H) s <| .mk fun s =>
  @sCall P (s.τ 87) [(s.τ 88)] (some 89) s ⟨W40_c19 P Φ⟩
def W40_b21 (P : Program) (Φ : Exit → St → Prop) (s : St) : Prop :=
  @sOp (some 82) (xFld 8 (s.τ 1) s.H) s <| .mk fun s =>
  @sOp (some 83) (xLoad 1 false (s.τ 82) s.H) s <| .mk fun s =>
  @sOp (some 84) (xIx 9 (s.τ 83) (.int .i64 0) s.H) s <| .mk fun s =>
  @sOp (some 85) (xLoad 9 true (s.τ 84) s.H) s <| .mk fun s =>
  @sCall P (.func 40 []) [(s.τ 85)] (some 86) s ⟨W40_c20 P Φ⟩
def W40_c22 (P : Program) (Φ : Exit → St → Prop) (s : St) : Prop :=
  @sOp none (xStore 9 (s.τ 2) (s.τ 95) s.H) s <| .mk fun s =>
  Φ .ret s
def W40_b23 (P : Program) (Φ : Exit → St → Prop) (s : St) : Prop :=
  @sOp (some 94) (xLoad 9 true (s.τ 1) s.H) s <| .mk fun s =>
  @sCall P (.func 61 []) [(s.τ 94)] (some 95) s ⟨W40_c22 P Φ⟩
def W40_c24 (P : Program) (Φ : Exit → St → Prop) (s : St) : Prop :=
  @sOp (some 81) (xPick (s.τ 76) (s.τ 80) (.bool false) s.H) s <| .mk fun s =>
  @sOp (some 72) (xMov (s.τ 81) s.H) s <| .mk fun s =>
  @sIf (s.τ 72) ⟨W40_b21 P Φ s⟩ ⟨W40_b23 P Φ s⟩
def W40_c25 (P : Program) (Φ : Exit → St → Prop) (s : St) : Prop :=
  @sGrd (guardOf (s.τ 76) true) (some 80) s ⟨fun s K => @sOp (some 80) (xBin .eql false (s.τ 79) (.int .i64 1) s.H) s ⟨K⟩⟩ ⟨W40_c24 P Φ⟩
def W40_c26 (P : Program) (Φ : Exit → St → Prop) (s : St) : Prop :=
  @sGrd (guardOf (s.τ 76) true) (some 79) s ⟨fun s K => @sOp (some 79) (xLen (s.τ 78) s.H) s ⟨K⟩⟩ ⟨W40_c25 P Φ⟩
def W40_c27 (P : Program) (Φ : Exit → St → Prop) (s : St) : Prop :=
  @sGrd (guardOf (s.τ 76) true) (some 78) s ⟨fun s K => @sOp (some 78) (xLoad 1 false (s.τ 77) s.H) s ⟨K⟩⟩ ⟨W40_c26 P Φ⟩
def W40_b28 (P : Program) (Φ : Exit → St → Prop) (s : St) : Prop :=
  @sOp (some 73) (xFld 0 (s.τ 1) s.H) s <| .mk fun s =>
  @sOp (some 74) (xLoad 1 false (s.τ 73) s.H) s <| .mk fun s =>
  @sOp (some 75) (xBin .eql false (s.τ 74) (.int .i64 7) s.H) s <| .mk fun s =>
  @sOp (some 76) (xMov (s.τ 75) s.H) s <| .mk fun s =>
  @sGrd (guardOf (s.τ 76) true) (some 77) s ⟨fun s K => @sOp (some 77) (xFld 8 (s.τ 1) s.H) s ⟨K⟩⟩ ⟨W40_c27 P Φ⟩
def W40_c29 (P : Program) (Φ : Exit → St → Prop) (s : St) : Prop :=
  @sOp (some 48) (xPick (s.τ 43) (s.τ 47) (.bool false) s.H) s <| .mk fun s =>
  @sOp (some 39) (xMov (s.τ 48) s.H) s <| .mk fun s =>
  @sIf (s.τ 39) ⟨W40_b16 P Φ s⟩ ⟨W40_b28 P Φ s⟩
def W40_c30 (P : Program) (Φ : Exit → St → Prop) (s : St) : Prop :=
  @sGrd (guardOf (s.τ 43) true) (some 47) s ⟨fun s K => @sOp (some 47) (xBin .eql false (s.τ 46) (.int .i64 2) s.H) s ⟨K⟩⟩ ⟨W40_c29 P Φ⟩
def W40_c31 (P : Program) (Φ : Exit → St → Prop) (s : St) : Prop :=
  @sGrd (guardOf (s.τ 43) true) (some 46) s ⟨fun s K => @sOp (some 46) (xLen (s.τ 45) s.H) s ⟨K⟩⟩ ⟨W40_c30 P Φ⟩
def W40_c32 (P : Program) (Φ : Exit → St → Prop) (s : St) : Prop :=
  @sGrd (guardOf (s.τ 43) true) (some 45) s ⟨fun s K => @sOp (some 45) (xLoad 1 false (s.τ 44) s.H) s ⟨K⟩⟩ ⟨W40_c31 P Φ⟩
def W40_b33 (P : Program) (Φ : Exit → St → Prop) (s : St) : Prop :=
  @sOp (some 40) (xFld 0 (s.τ 1) s.H) s <| .mk fun s =>
  @sOp (some 41) (xLoad 1 false (s.τ 40) s.H) s <| .mk fun s =>
  @sOp (some 42) (xBin .eql false (s.τ 41) (.int .i64 11) s.H) s <| .mk fun s =>
  @sOp (some 43) (xMov (s.τ 42) s.H) s <| .mk fun s =>
  @sGrd (guardOf (s.τ 43) true) (some 44) s ⟨fun s K => @sOp (some 44) (xFld 8 (s.τ 1) s.H) s ⟨K⟩⟩ ⟨W40_c32 P Φ⟩
def W40_c34 (P : Program) (Φ : Exit → St → Prop) (s : St) : Prop :=
  @sOp (some 17) (xPick (s.τ 12) (s.τ 16) (.bool false) s.H) s <| .mk fun s =>
  @sOp (some 8) (xMov (s.τ 17) s.H) s <| .mk fun s =>
  @sIf (s.τ 8) ⟨W40_b7 P Φ s⟩ ⟨W40_b33 P Φ s⟩
def W40_c35 (P : Program) (Φ : Exit → St → Prop) (s : St) : Prop :=
  @sGrd (guardOf (s.τ 12) true) (some 16) s ⟨fun s K => @sOp (some 16) (xBin .eql false (s.τ 15) (.int .i64 2) s.H) s ⟨K⟩⟩ ⟨W40_c34 P Φ⟩
def W40_c36 (P : Program) (Φ : Exit → St → Prop) (s : St) : Prop :=
  @sGrd (guardOf (s.τ 12) true) (some 15) s ⟨fun s K => @sOp (some 15) (xLen (s.τ 14) s.H) s ⟨K⟩⟩ ⟨W40_c35 P Φ⟩
def W40_c37 (P : Program) (Φ : Exit → St → Prop) (s : St) : Prop :=
  @sGrd (guardOf (s.τ 12) true) (some 14) s ⟨fun s K => @sOp (some 14) (xLoad 1 false (s.τ 13) s.H) s ⟨K⟩⟩ ⟨W40_c36 P Φ⟩
def W40 (P : Program) (Φ : Exit → St → Prop) (s : St) : Prop :=
  @sOp (some 1) (xBox 1 34 (s.τ 0) s.H) s <| .mk fun s =>
  @sOp (some 2) (xAlloc 2 34 [.int .i64 0, .int .i64 0, .int .i64 0, .str ⟨#[]⟩, .int .i64 0, .int .i64 0, .str ⟨#[]⟩, .nils, .nils] s.H) s <| .mk fun s =>
  @sOp (some 3) (xMov (.func 60 []) s.H) s <| .mk fun s =>
  @sOp (some 9) (xFld 0 (s.τ 1) s.H) s <| .mk fun s =>
  @sOp (some 10) (xLoad 1 false (s.τ 9) s.H) s <| .mk fun s =>
  @sOp (some 11) (xBin .eql false (s.τ 10) (.int .i64 12) s.H) s <| .mk fun s =>
  @sOp (some 12) (xMov (s.τ 11) s.H) s <| .mk fun s =>
  @sGrd (guardOf (s.τ 12) true) (some 13) s ⟨fun s K => @sOp (some 13) (xFld 8 (s.τ 1) s.H) s ⟨K⟩⟩ ⟨W40_c37 P Φ⟩
theorem W40_rs (τ : Nat → AV) (H : Heap) : resV Try.prog τ H [.cell 2 34] = rdV H 9 true (τ 2) := by kernel_rfl
theorem W40_eq (Φ : Exit → St → Prop) (s : St) : awp Try.prog (Try.f40.body.getD .skip) Φ s = W40 Try.prog Φ s := by kernel_rfl

-- 41 "penance/term.Waits"
def W41_c1 (P : Program) (Φ : Exit → St → Prop) (s : St) : Prop :=
  @sOp (some 2) (xMov (s.τ 17) s.H) s <| .mk fun s =>
  Φ .ret s
def W41_k2 (P : Program) (Φ : Exit → St → Prop) (s : St) : Prop :=
  @sOp (some 16) (xLoad 1 false (s.τ 3) s.H) s <| .mk fun s =>
  @sCall P (.func 49 []) [(s.τ 16)] (some 17) s ⟨W41_c1 P Φ⟩
def W41_b3 (P : Program) (Φ : Exit → St → Prop) (s : St) : Prop :=
  @sOp (some 11) (xLoad 1 false (s.τ 3) s.H) s <| .mk fun s =>
  @sOp (some 12) (xFld 1 (s.τ 4) s.H) s <| .mk fun s =>
  @sOp (some 13) (xLoad 1 false (s.τ 12) s.H) s <| .mk fun s =>
  @sOp (some 14) (xLit 1 1 [.int .i64 0] [(0, (s.τ 13))] s.H) s <| .mk fun s =>
  @sOp (some 15) (xApp P 3 1 8 (some 15) (s.τ 11) (s.τ 14) s.H) s <| .mk fun s =>
  @sOp none (xStore 1 (s.τ 3) (s.τ 15) s.H) s <| .mk fun s =>
  Φ .normal s
def W41_r4 (P : Program) (Φ : Exit → St → Prop) (s : St) : Prop :=
  @sOp (some 4) (xAlloc 4 34 [.int .i64 0, .int .i64 0, .int .i64 0, .str ⟨#[]⟩, .int .i64 0, .int .i64 0, .str ⟨#[]⟩, .nils, .nils] s.H) s <| .mk fun s =>
  @sOp none (xStore 9 (s.τ 4) (s.τ 7) s.H) s <| .mk fun s =>
  @sOp (some 8) (xFld 0 (s.τ 4) s.H) s <| .mk fun s =>
  @sOp (some 9) (xLoad 1 false (s.τ 8) s.H) s <| .mk fun s =>
  @sOp (some 10) (xBin .eql false (s.τ 9) (.int .i64 14) s.H) s <| .mk fun s =>
  @sIf (s.τ 10) ⟨W41_b3 P Φ s⟩ ⟨Φ .normal s⟩
def W41_c5 (P : Program) (Φ : Exit → St → Prop) (s : St) : Prop :=
  @sRange P (s.τ 6) [7] s ⟨fun Φ s => W41_r4 P Φ s⟩ ⟨(blkK 0 (thenK (W41_k2 P Φ) Φ))⟩
def W41 (P : Program) (Φ : Exit → St → Prop) (s : St) : Prop :=
  @sOp (some 1) (xBox 1 34 (s.τ 0) s.H) s <| .mk fun s =>
  @sOp (some 2) (xMov (.nils) s.H) s <| .mk fun s =>
  @sOp (some 3) (xAlloc 3 41 [.nils] s.H) s <| .mk fun s =>
  @sOp (some 5) (xLoad 9 true (s.τ 1) s.H) s <| .mk fun s =>
  @sCall P (.func 62 []) [(s.τ 5)] (some 6) s ⟨W41_c5 P Φ⟩
theorem W41_rs (τ : Nat → AV) (H : Heap) : resV Try.prog τ H [.tmp 2] = some (τ 2) := by kernel_rfl
theorem W41_eq (Φ : Exit → St → Prop) (s : St) : awp Try.prog (Try.f41.body.getD .skip) Φ s = W41 Try.prog Φ s := by kernel_rfl

-- 42 "penance/penancelaw5.few"
def W42_b1 (P : Program) (Φ : Exit → St → Prop) (s : St) : Prop :=
  @sOp (some 4) (xMov (.bool false) s.H) s <| .mk fun s =>
  Φ .ret s
def W42_k2 (P : Program) (Φ : Exit → St → Prop) (s : St) : Prop :=
  @sOp (some 4) (xMov (.bool true) s.H) s <| .mk fun s =>
  Φ .ret s
def W42_b3 (P : Program) (Φ : Exit → St → Prop) (L0 : St → Prop) (s : St) : Prop :=
  @sOp (some 4) (xMov (.bool false) s.H) s <| .mk fun s =>
  Φ .ret s
def W42_b4 (P : Program) (Φ : Exit → St → Prop) (L0 : St → Prop) (s : St) : Prop :=
  @sOp (some 25) (xMov (s.τ 5) s.H) s <| .mk fun s =>
  @sOp (some 26) (xBin .add false (s.τ 25) (.int .i64 1) s.H) s <| .mk fun s =>
  @sOp (some 5) (xMov (s.τ 26) s.H) s <| .mk fun s =>
  L0 s
def W42_c5 (P : Program) (Φ : Exit → St → Prop) (L0 : St → Prop) (s : St) : Prop :=
  @sOp (some 35) (xNot (s.τ 34) s.H) s <| .mk fun s =>
  @sIf (s.τ 35) ⟨W42_b3 P Φ L0 s⟩ ⟨W42_b4 P Φ L0 s⟩
def W42_b6 (P : Program) (Φ : Exit → St → Prop) (L0 : St → Prop) (s : St) : Prop :=
  @sOp (some 27) (xFld 8 (s.τ 2) s.H) s <| .mk fun s =>
  @sOp (some 28) (xLoad 1 false (s.τ 27) s.H) s <| .mk fun s =>
  @sOp (some 29) (xMov (s.τ 5) s.H) s <| .mk fun s =>
  @sOp (some 30) (xIx 9 (s.τ 28) (s.τ 29) s.H) s <| .mk fun s =>
  @sOp (some 31) (xLoad 9 true (s.τ 30) s.H) s <| .mk fun s =>
  @sOp (some 32) (xMov (s.τ 1) s.H) s <| .mk fun s =>
  @sOp (some 33) (xBin .add false (s.τ 32) (.int .i64 1) s.H) s <| .mk fun s =>
  @sCall P (.func 42 []) [(s.τ 31), (s.τ 33)] (some 34) s ⟨W42_c5 P Φ L0⟩
def W42_l7 (P : Program) (Φ : Exit → St → Prop) (L0 : St → Prop) (s : St) : Prop :=
  @sOp (some 20) (xMov (s.τ 5) s.H) s <| .mk fun s =>
  @sOp (some 21) (xFld 8 (s.τ 2) s.H) s <| .mk fun s =>
  @sOp (some 22) (xLoad 1 false (s.τ 21) s.H) s <| .mk fun s =>
  @sOp (some 23) (xLen (s.τ 22) s.H) s <| .mk fun s =>
  @sOp (some 24) (xBin .lss false (s.τ 20) (s.τ 23) s.H) s <| .mk fun s =>
  @sIf (s.τ 24) ⟨W42_b6 P Φ L0 s⟩ ⟨W42_k2 P Φ s⟩
def W42_b8 (P : Program) (Φ : Exit → St → Prop) (s : St) : Prop :=
  @sOp (some 5) (xMov (.int .i64 0) s.H) s <| .mk fun s =>
  @sLoop s ⟨fun L0 s => W42_l7 P Φ L0 s⟩
def W42_c9 (P : Program) (Φ : Exit → St → Prop) (s : St) : Prop :=
  @sOp (some 19) (xPick (s.τ 14) (.bool true) (s.τ 18) s.H) s <| .mk fun s =>
  @sIf (s.τ 19) ⟨W42_b1 P Φ s⟩ ⟨W42_b8 P Φ s⟩
def W42_c10 (P : Program) (Φ : Exit → St → Prop) (s : St) : Prop :=
  @sGrd (guardOf (s.τ 14) false) (some 18) s ⟨fun s K => @sOp (some 18) (xNot (s.τ 17) s.H) s ⟨K⟩⟩ ⟨W42_c9 P Φ⟩
def W42_c11 (P : Program) (Φ : Exit → St → Prop) (s : St) : Prop :=
  @sGrd (guardOf (s.τ 14) false) (some 17) s ⟨fun s K => @sCall P (.func 63 []) [(s.τ 16), (.int .i64 0)] (some 17) s ⟨K⟩⟩ ⟨W42_c10 P Φ⟩
def W42_c12 (P : Program) (Φ : Exit → St → Prop) (s : St) : Prop :=
  @sGrd (guardOf (s.τ 14) false) (some 16) s ⟨fun s K => @sOp (some 16) (xLoad 4 true (s.τ 15) s.H) s ⟨K⟩⟩ ⟨W42_c11 P Φ⟩
def W42_c13 (P : Program) (Φ : Exit → St → Prop) (s : St) : Prop :=
  @sOp (some 13) (xPick (s.τ 8) (.bool true) (s.τ 12) s.H) s <| .mk fun s =>
  @sOp (some 14) (xMov (s.τ 13) s.H) s <| .mk fun s =>
  @sGrd (guardOf (s.τ 14) false) (some 15) s ⟨fun s K => @sOp (some 15) (xFld 4 (s.τ 2) s.H) s ⟨K⟩⟩ ⟨W42_c12 P Φ⟩
def W42_c14 (P : Program) (Φ : Exit → St → Prop) (s : St) : Prop :=
  @sGrd (guardOf (s.τ 8) false) (some 12) s ⟨fun s K => @sOp (some 12) (xBin .gtr false (s.τ 11) (.int .i64 5) s.H) s ⟨K⟩⟩ ⟨W42_c13 P Φ⟩
def W42_c15 (P : Program) (Φ : Exit → St → Prop) (s : St) : Prop :=
  @sGrd (guardOf (s.τ 8) false) (some 11) s ⟨fun s K => @sOp (some 11) (xLen (s.τ 10) s.H) s ⟨K⟩⟩ ⟨W42_c14 P Φ⟩
def W42_c16 (P : Program) (Φ : Exit → St → Prop) (s : St) : Prop :=
  @sGrd (guardOf (s.τ 8) false) (some 10) s ⟨fun s K => @sOp (some 10) (xLoad 1 false (s.τ 9) s.H) s ⟨K⟩⟩ ⟨W42_c15 P Φ⟩
def W42 (P : Program) (Φ : Exit → St → Prop) (s : St) : Prop :=
  @sOp (some 2) (xBox 2 34 (s.τ 0) s.H) s <| .mk fun s =>
  @sOp (some 4) (xMov (.bool false) s.H) s <| .mk fun s =>
  @sOp (some 6) (xMov (s.τ 1) s.H) s <| .mk fun s =>
  @sOp (some 7) (xBin .gtr false (s.τ 6) (.int .i64 10) s.H) s <| .mk fun s =>
  @sOp (some 8) (xMov (s.τ 7) s.H) s <| .mk fun s =>
  @sGrd (guardOf (s.τ 8) false) (some 9) s ⟨fun s K => @sOp (some 9) (xFld 8 (s.τ 2) s.H) s ⟨K⟩⟩ ⟨W42_c16 P Φ⟩
theorem W42_rs (τ : Nat → AV) (H : Heap) : resV Try.prog τ H [.tmp 4] = some (τ 4) := by kernel_rfl
theorem W42_eq (Φ : Exit → St → Prop) (s : St) : awp Try.prog (Try.f42.body.getD .skip) Φ s = W42 Try.prog Φ s := by kernel_rfl

-- 43 "penance/penancelaw5.within"
def W43_k1 (P : Program) (Φ : Exit → St → Prop) (s : St) : Prop :=
  @sOp (some 14) (xMov (s.τ 5) s.H) s <| .mk fun s =>
  @sOp (some 4) (xMov (s.τ 14) s.H) s <| .mk fun s =>
  Φ .ret s
def W43_b2 (P : Program) (Φ : Exit → St → Prop) (s : St) : Prop :=
  @sOp (some 11) (xMov (s.τ 5) s.H) s <| .mk fun s =>
  @sOp (some 12) (xMov (s.τ 1) s.H) s <| .mk fun s =>
  @sOp (some 13) (xBin .add false (s.τ 11) (s.τ 12) s.H) s <| .mk fun s =>
  @sOp (some 5) (xMov (s.τ 13) s.H) s <| .mk fun s =>
  W43_k1 P Φ s
def W43 (P : Program) (Φ : Exit → St → Prop) (s : St) : Prop :=
  @sOp (some 4) (xMov (.int .i64 0) s.H) s <| .mk fun s =>
  @sOp (some 6) (xMov (s.τ 0) s.H) s <| .mk fun s =>
  @sOp (some 7) (xMov (s.τ 1) s.H) s <| .mk fun s =>
  @sOp (some 8) (xBin .rem false (s.τ 6) (s.τ 7) s.H) s <| .mk fun s =>
  @sOp (some 5) (xMov (s.τ 8) s.H) s <| .mk fun s =>
  @sOp (some 9) (xMov (s.τ 5) s.H) s <| .mk fun s =>
  @sOp (some 10) (xBin .lss false (s.τ 9) (.int .i64 0) s.H) s <| .mk fun s =>
  @sIf (s.τ 10) ⟨W43_b2 P Φ s⟩ ⟨W43_k1 P Φ s⟩
theorem W43_rs (τ : Nat → AV) (H : Heap) : resV Try.prog τ H [.tmp 4] = some (τ 4) := by kernel_rfl
theorem W43_eq (Φ : Exit → St → Prop) (s : St) : awp Try.prog (Try.f43.body.getD .skip) Φ s = W43 Try.prog Φ s := by kernel_rfl

-- 44 "penance/penancelaw3.size"
def W44_b1 (P : Program) (Φ : Exit → St → Prop) (s : St) : Prop :=
  @sOp (some 4) (xMov (.int .i64 1000) s.H) s <| .mk fun s =>
  Φ .ret s
def W44_k2 (P : Program) (Φ : Exit → St → Prop) (s : St) : Prop :=
  @sOp (some 36) (xMov (s.τ 5) s.H) s <| .mk fun s =>
  @sOp (some 4) (xMov (s.τ 36) s.H) s <| .mk fun s =>
  Φ .ret s
def W44_c3 (P : Program) (Φ : Exit → St → Prop) (L0 : St → Prop) (s : St) : Prop :=
  @sOp (some 35) (xBin .add false (s.τ 26) (s.τ 34) s.H) s <| .mk fun s =>
  @sOp (some 5) (xMov (s.τ 35) s.H) s <| .mk fun s =>
  @sOp (some 24) (xMov (s.τ 6) s.H) s <| .mk fun s =>
  @sOp (some 25) (xBin .add false (s.τ 24) (.int .i64 1) s.H) s <| .mk fun s =>
  @sOp (some 6) (xMov (s.τ 25) s.H) s <| .mk fun s =>
  L0 s
def W44_b4 (P : Program) (Φ : Exit → St → Prop) (L0 : St → Prop) (s : St) : Prop :=
  @sOp (some 26) (xMov (s.τ 5) s.H) s <| .mk fun s =>
  @sOp (some 27) (xFld 4 (s.τ 2) s.H) s <| .mk fun s =>
  @sOp (some 28) (xLoad 1 false (s.τ 27) s.H) s <| .mk fun s =>
  @sOp (some 29) (xMov (s.τ 6) s.H) s <| .mk fun s =>
  @sOp (some 30) (xIx 5 (s.τ 28) (s.τ 29) s.H) s <| .mk fun s =>
  @sOp (some 31) (xLoad 5 true (s.τ 30) s.H) s <| .mk fun s =>
  @sOp (some 32) (xMov (s.τ 1) s.H) s <| .mk fun s =>
  @sOp (some 33) (xBin .add false (s.τ 32) (.int .i64 1) s.H) s <| .mk fun s =>
  @sCall P (.func 44 []) [(s.τ 31), (s.τ 33)] (some 34) s ⟨W44_c3 P Φ L0⟩
def W44_c5 (P : Program) (Φ : Exit → St → Prop) (L0 : St → Prop) (s : St) : Prop :=
  @sOp (some 23) (xPick (s.τ 20) (s.τ 22) (.bool false) s.H) s <| .mk fun s =>
  @sIf (s.τ 23) ⟨W44_b4 P Φ L0 s⟩ ⟨W44_k2 P Φ s⟩
def W44_c6 (P : Program) (Φ : Exit → St → Prop) (L0 : St → Prop) (s : St) : Prop :=
  @sGrd (guardOf (s.τ 20) true) (some 22) s ⟨fun s K => @sOp (some 22) (xBin .leq false (s.τ 21) (.int .i64 40) s.H) s ⟨K⟩⟩ ⟨W44_c5 P Φ L0⟩
def W44_l7 (P : Program) (Φ : Exit → St → Prop) (L0 : St → Prop) (s : St) : Prop :=
  @sOp (some 15) (xMov (s.τ 6) s.H) s <| .mk fun s =>
  @sOp (some 16) (xFld 4 (s.τ 2) s.H) s <| .mk fun s =>
  @sOp (some 17) (xLoad 1 false (s.τ 16) s.H) s <| .mk fun s =>
  @sOp (some 18) (xLen (s.τ 17) s.H) s <| .mk fun s =>
  @sOp (some 19) (xBin .lss false (s.τ 15) (s.τ 18) s.H) s <| .mk fun s =>
  @sOp (some 20) (xMov (s.τ 19) s.H) s <| .mk fun s =>
  @sGrd (guardOf (s.τ 20) true) (some 21) s ⟨fun s K => @sOp (some 21) (xMov (s.τ 5) s.H) s ⟨K⟩⟩ ⟨W44_c6 P Φ L0⟩
def W44_b8 (P : Program) (Φ : Exit → St → Prop) (s : St) : Prop :=
  @sOp (some 5) (xMov (.int .i64 1) s.H) s <| .mk fun s =>
  @sOp (some 6) (xMov (.int .i64 0) s.H) s <| .mk fun s =>
  @sLoop s ⟨fun L0 s => W44_l7 P Φ L0 s⟩
def W44_c9 (P : Program) (Φ : Exit → St → Prop) (s : St) : Prop :=
  @sOp (some 14) (xPick (s.τ 9) (.bool true) (s.τ 13) s.H) s <| .mk fun s =>
  @sIf (s.τ 14) ⟨W44_b1 P Φ s⟩ ⟨W44_b8 P Φ s⟩
def W44_c10 (P : Program) (Φ : Exit → St → Prop) (s : St) : Prop :=
  @sGrd (guardOf (s.τ 9) false) (some 13) s ⟨fun s K => @sOp (some 13) (xNot (s.τ 12) s.H) s ⟨K⟩⟩ ⟨W44_c9 P Φ⟩
def W44_c11 (P : Program) (Φ : Exit → St → Prop) (s : St) : Prop :=
  @sGrd (guardOf (s.τ 9) false) (some 12) s ⟨fun s K => @sCall P (.func 64 []) [(s.τ 11)] (some 12) s ⟨K⟩⟩ ⟨W44_c10 P Φ⟩
def W44_c12 (P : Program) (Φ : Exit → St → Prop) (s : St) : Prop :=
  @sGrd (guardOf (s.τ 9) false) (some 11) s ⟨fun s K => @sOp (some 11) (xLoad 1 false (s.τ 10) s.H) s ⟨K⟩⟩ ⟨W44_c11 P Φ⟩
def W44 (P : Program) (Φ : Exit → St → Prop) (s : St) : Prop :=
  @sOp (some 2) (xBox 2 25 (s.τ 0) s.H) s <| .mk fun s =>
  @sOp (some 4) (xMov (.int .i64 0) s.H) s <| .mk fun s =>
  @sOp (some 7) (xMov (s.τ 1) s.H) s <| .mk fun s =>
  @sOp (some 8) (xBin .gtr false (s.τ 7) (.int .i64 8) s.H) s <| .mk fun s =>
  @sOp (some 9) (xMov (s.τ 8) s.H) s <| .mk fun s =>
  @sGrd (guardOf (s.τ 9) false) (some 10) s ⟨fun s K => @sOp (some 10) (xFld 3 (s.τ 2) s.H) s ⟨K⟩⟩ ⟨W44_c12 P Φ⟩
theorem W44_rs (τ : Nat → AV) (H : Heap) : resV Try.prog τ H [.tmp 4] = some (τ 4) := by kernel_rfl
theorem W44_eq (Φ : Exit → St → Prop) (s : St) : awp Try.prog (Try.f44.body.getD .skip) Φ s = W44 Try.prog Φ s := by kernel_rfl

end Go.Proofs.Ytkagfenchknjjaa
