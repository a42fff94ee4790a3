import Derived.Test.YtkagfenchknjjaaAmSimp
import Derived.Test.YtkagfenchknjjaaProg
import Derived.KernelRfl
set_option linter.unusedVariables false
namespace Go.Proofs.Ytkagfenchknjjaa
open Go Go.Am
-- 3 "penance/penancelaw7.StepsPlaces"
def W3_b1 (P : Program) (Φ : Exit → St → Prop) (s : St) : Prop :=
  @sOp (some 4) (xMov (.bool false) s.H) s <| .mk fun s =>
  Φ .ret s
def W3_b2 (P : Program) (Φ : Exit → St → Prop) (s : St) : Prop :=
  @sOp (some 4) (xMov (.bool true) s.H) s <| .mk fun s =>
  Φ .ret s
def W3_k3 (P : Program) (Φ : Exit → St → Prop) (s : St) : Prop :=
  @sOp (some 4) (xMov (.bool true) s.H) s <| .mk fun s =>
  Φ .ret s
def W3_k4 (P : Program) (Φ : Exit → St → Prop) (L0 : St → Prop) (s : St) : Prop :=
  @sOp (some 28) (xMov (s.τ 7) s.H) s <| .mk fun s =>
  @sOp (some 29) (xBin .add false (s.τ 28) (.int .i64 1) s.H) s <| .mk fun s =>
  @sOp (some 7) (xMov (s.τ 29) s.H) s <| .mk fun s =>
  L0 s
def W3_b5 (P : Program) (Φ : Exit → St → Prop) (L0 : St → Prop) (s : St) : Prop :=
  @sOp (some 4) (xMov (.bool false) s.H) s <| .mk fun s =>
  Φ .ret s
def W3_b6 (P : Program) (Φ : Exit → St → Prop) (L0 : St → Prop) (L1 : St → Prop) (s : St) : Prop :=
  @sOp (some 4) (xMov (.bool false) s.H) s <| .mk fun s =>
  Φ .ret s
def W3_b7 (P : Program) (Φ : Exit → St → Prop) (L0 : St → Prop) (L1 : St → Prop) (s : St) : Prop :=
  @sOp (some 99) (xMov (s.τ 10) s.H) s <| .mk fun s =>
  @sOp (some 100) (xBin .add false (s.τ 99) (.int .i64 1) s.H) s <| .mk fun s =>
  @sOp (some 10) (xMov (s.τ 100) s.H) s <| .mk fun s =>
  L1 s
def W3_c8 (P : Program) (Φ : Exit → St → Prop) (L0 : St → Prop) (L1 : St → Prop) (s : St) : Prop :=
  @sOp (some 124) (xPick (s.τ 112) (s.τ 123) (.bool false) s.H) s <| .mk fun s =>
  @sIf (s.τ 124) ⟨W3_b6 P Φ L0 L1 s⟩ ⟨W3_b7 P Φ L0 L1 s⟩
def W3_c9 (P : Program) (Φ : Exit → St → Prop) (L0 : St → Prop) (L1 : St → Prop) (s : St) : Prop :=
  @sGrd (guardOf (s.τ 112) true) (some 123) s ⟨fun s K => @sOp (some 123) (xBin .eql false (s.τ 117) (s.τ 122) s.H) s ⟨K⟩⟩ ⟨W3_c8 P Φ L0 L1⟩
def W3_c10 (P : Program) (Φ : Exit → St → Prop) (L0 : St → Prop) (L1 : St → Prop) (s : St) : Prop :=
  @sGrd (guardOf (s.τ 112) true) (some 122) s ⟨fun s K => @sOp (some 122) (xLoad 1 false (s.τ 121) s.H) s ⟨K⟩⟩ ⟨W3_c9 P Φ L0 L1⟩
def W3_c11 (P : Program) (Φ : Exit → St → Prop) (L0 : St → Prop) (L1 : St → Prop) (s : St) : Prop :=
  @sGrd (guardOf (s.τ 112) true) (some 121) s ⟨fun s K => @sOp (some 121) (xFld 2 (s.τ 120) s.H) s ⟨K⟩⟩ ⟨W3_c10 P Φ L0 L1⟩
def W3_c12 (P : Program) (Φ : Exit → St → Prop) (L0 : St → Prop) (L1 : St → Prop) (s : St) : Prop :=
  @sGrd (guardOf (s.τ 112) true) (some 120) s ⟨fun s K => @sOp (some 120) (xIx 3 (s.τ 118) (s.τ 119) s.H) s ⟨K⟩⟩ ⟨W3_c11 P Φ L0 L1⟩
def W3_c13 (P : Program) (Φ : Exit → St → Prop) (L0 : St → Prop) (L1 : St → Prop) (s : St) : Prop :=
  @sGrd (guardOf (s.τ 112) true) (some 119) s ⟨fun s K => @sOp (some 119) (xMov (s.τ 7) s.H) s ⟨K⟩⟩ ⟨W3_c12 P Φ L0 L1⟩
def W3_c14 (P : Program) (Φ : Exit → St → Prop) (L0 : St → Prop) (L1 : St → Prop) (s : St) : Prop :=
  @sGrd (guardOf (s.τ 112) true) (some 118) s ⟨fun s K => @sOp (some 118) (xMov (s.τ 6) s.H) s ⟨K⟩⟩ ⟨W3_c13 P Φ L0 L1⟩
def W3_c15 (P : Program) (Φ : Exit → St → Prop) (L0 : St → Prop) (L1 : St → Prop) (s : St) : Prop :=
  @sGrd (guardOf (s.τ 112) true) (some 117) s ⟨fun s K => @sOp (some 117) (xLoad 1 false (s.τ 116) s.H) s ⟨K⟩⟩ ⟨W3_c14 P Φ L0 L1⟩
def W3_c16 (P : Program) (Φ : Exit → St → Prop) (L0 : St → Prop) (L1 : St → Prop) (s : St) : Prop :=
  @sGrd (guardOf (s.τ 112) true) (some 116) s ⟨fun s K => @sOp (some 116) (xFld 2 (s.τ 115) s.H) s ⟨K⟩⟩ ⟨W3_c15 P Φ L0 L1⟩
def W3_c17 (P : Program) (Φ : Exit → St → Prop) (L0 : St → Prop) (L1 : St → Prop) (s : St) : Prop :=
  @sGrd (guardOf (s.τ 112) true) (some 115) s ⟨fun s K => @sOp (some 115) (xIx 3 (s.τ 113) (s.τ 114) s.H) s ⟨K⟩⟩ ⟨W3_c16 P Φ L0 L1⟩
def W3_c18 (P : Program) (Φ : Exit → St → Prop) (L0 : St → Prop) (L1 : St → Prop) (s : St) : Prop :=
  @sGrd (guardOf (s.τ 112) true) (some 114) s ⟨fun s K => @sOp (some 114) (xMov (s.τ 10) s.H) s ⟨K⟩⟩ ⟨W3_c17 P Φ L0 L1⟩
def W3_c19 (P : Program) (Φ : Exit → St → Prop) (L0 : St → Prop) (L1 : St → Prop) (s : St) : Prop :=
  @sOp (some 112) (xMov (s.τ 111) s.H) s <| .mk fun s =>
  @sGrd (guardOf (s.τ 112) true) (some 113) s ⟨fun s K => @sOp (some 113) (xMov (s.τ 6) s.H) s ⟨K⟩⟩ ⟨W3_c18 P Φ L0 L1⟩
def W3_b20 (P : Program) (Φ : Exit → St → Prop) (L0 : St → Prop) (L1 : St → Prop) (s : St) : Prop :=
  @sOp (some 101) (xMov (s.τ 6) s.H) s <| .mk fun s =>
  @sOp (some 102) (xMov (s.τ 10) s.H) s <| .mk fun s =>
  @sOp (some 103) (xIx 3 (s.τ 101) (s.τ 102) s.H) s <| .mk fun s =>
  @sOp (some 104) (xFld 1 (s.τ 103) s.H) s <| .mk fun s =>
  @sOp (some 105) (xLoad 1 false (s.τ 104) s.H) s <| .mk fun s =>
  @sOp (some 106) (xMov (s.τ 6) s.H) s <| .mk fun s =>
  @sOp (some 107) (xMov (s.τ 7) s.H) s <| .mk fun s =>
  @sOp (some 108) (xIx 3 (s.τ 106) (s.τ 107) s.H) s <| .mk fun s =>
  @sOp (some 109) (xFld 1 (s.τ 108) s.H) s <| .mk fun s =>
  @sOp (some 110) (xLoad 1 false (s.τ 109) s.H) s <| .mk fun s =>
  @sCall0 P (.func 27 []) [(s.τ 105), (s.τ 110)] (some 111) s ⟨W3_c19 P Φ L0 L1⟩
def W3_l21 (P : Program) (Φ : Exit → St → Prop) (L0 : St → Prop) (L1 : St → Prop) (s : St) : Prop :=
  @sOp (some 96) (xMov (s.τ 10) s.H) s <| .mk fun s =>
  @sOp (some 97) (xMov (s.τ 7) s.H) s <| .mk fun s =>
  @sOp (some 98) (xBin .lss false (s.τ 96) (s.τ 97) s.H) s <| .mk fun s =>
  @sIf (s.τ 98) ⟨W3_b20 P Φ L0 L1 s⟩ ⟨W3_k4 P Φ L0 s⟩
def W3_b22 (P : Program) (Φ : Exit → St → Prop) (L0 : St → Prop) (s : St) : Prop :=
  @sOp (some 10) (xMov (.int .i64 0) s.H) s <| .mk fun s =>
  @sLoop s ⟨fun L1 s => W3_l21 P Φ L0 L1 s⟩
def W3_c23 (P : Program) (Φ : Exit → St → Prop) (L0 : St → Prop) (s : St) : Prop :=
  @sOp (some 95) (xPick (s.τ 83) (.bool true) (s.τ 94) s.H) s <| .mk fun s =>
  @sIf (s.τ 95) ⟨W3_b5 P Φ L0 s⟩ ⟨W3_b22 P Φ L0 s⟩
def W3_c24 (P : Program) (Φ : Exit → St → Prop) (L0 : St → Prop) (s : St) : Prop :=
  @sGrd (guardOf (s.τ 83) false) (some 94) s ⟨fun s K => @sOp (some 94) (xPick (s.τ 90) (s.τ 93) (.bool false) s.H) s ⟨K⟩⟩ ⟨W3_c23 P Φ L0⟩
def W3_c25 (P : Program) (Φ : Exit → St → Prop) (L0 : St → Prop) (s : St) : Prop :=
  @sGrd (guardOf (s.τ 90) true) (some 93) s ⟨fun s K => @sOp (some 93) (xBin .neq false (s.τ 92) (.int .i64 10) s.H) s ⟨K⟩⟩ ⟨W3_c24 P Φ L0⟩
def W3_c26 (P : Program) (Φ : Exit → St → Prop) (L0 : St → Prop) (s : St) : Prop :=
  @sGrd (guardOf (s.τ 90) true) (some 92) s ⟨fun s K => @sOp (some 92) (xLoad 1 false (s.τ 91) s.H) s ⟨K⟩⟩ ⟨W3_c25 P Φ L0⟩
def W3_c27 (P : Program) (Φ : Exit → St → Prop) (L0 : St → Prop) (s : St) : Prop :=
  @sGrd (guardOf (s.τ 90) true) (some 91) s ⟨fun s K => @sOp (some 91) (xFld 0 (s.τ 8) s.H) s ⟨K⟩⟩ ⟨W3_c26 P Φ L0⟩
def W3_c28 (P : Program) (Φ : Exit → St → Prop) (L0 : St → Prop) (s : St) : Prop :=
  @sGrd (guardOf (s.τ 83) false) (some 90) s ⟨fun s K => @sOp (some 90) (xMov (s.τ 89) s.H) s ⟨K⟩⟩ ⟨W3_c27 P Φ L0⟩
def W3_c29 (P : Program) (Φ : Exit → St → Prop) (L0 : St → Prop) (s : St) : Prop :=
  @sGrd (guardOf (s.τ 83) false) (some 89) s ⟨fun s K => @sOp (some 89) (xBin .eql false (s.τ 88) (.int .i64 1) s.H) s ⟨K⟩⟩ ⟨W3_c28 P Φ L0⟩
def W3_c30 (P : Program) (Φ : Exit → St → Prop) (L0 : St → Prop) (s : St) : Prop :=
  @sGrd (guardOf (s.τ 83) false) (some 88) s ⟨fun s K => @sOp (some 88) (xLoad 1 false (s.τ 87) s.H) s ⟨K⟩⟩ ⟨W3_c29 P Φ L0⟩
def W3_c31 (P : Program) (Φ : Exit → St → Prop) (L0 : St → Prop) (s : St) : Prop :=
  @sGrd (guardOf (s.τ 83) false) (some 87) s ⟨fun s K => @sOp (some 87) (xFld 2 (s.τ 86) s.H) s ⟨K⟩⟩ ⟨W3_c30 P Φ L0⟩
def W3_c32 (P : Program) (Φ : Exit → St → Prop) (L0 : St → Prop) (s : St) : Prop :=
  @sGrd (guardOf (s.τ 83) false) (some 86) s ⟨fun s K => @sOp (some 86) (xIx 3 (s.τ 84) (s.τ 85) s.H) s ⟨K⟩⟩ ⟨W3_c31 P Φ L0⟩
def W3_c33 (P : Program) (Φ : Exit → St → Prop) (L0 : St → Prop) (s : St) : Prop :=
  @sGrd (guardOf (s.τ 83) false) (some 85) s ⟨fun s K => @sOp (some 85) (xMov (s.τ 7) s.H) s ⟨K⟩⟩ ⟨W3_c32 P Φ L0⟩
def W3_c34 (P : Program) (Φ : Exit → St → Prop) (L0 : St → Prop) (s : St) : Prop :=
  @sOp (some 82) (xPick (s.τ 75) (.bool true) (s.τ 81) s.H) s <| .mk fun s =>
  @sOp (some 83) (xMov (s.τ 82) s.H) s <| .mk fun s =>
  @sGrd (guardOf (s.τ 83) false) (some 84) s ⟨fun s K => @sOp (some 84) (xMov (s.τ 6) s.H) s ⟨K⟩⟩ ⟨W3_c33 P Φ L0⟩
def W3_c35 (P : Program) (Φ : Exit → St → Prop) (L0 : St → Prop) (s : St) : Prop :=
  @sGrd (guardOf (s.τ 75) false) (some 81) s ⟨fun s K => @sOp (some 81) (xBin .gtr false (s.τ 80) (.int .i64 1) s.H) s ⟨K⟩⟩ ⟨W3_c34 P Φ L0⟩
def W3_c36 (P : Program) (Φ : Exit → St → Prop) (L0 : St → Prop) (s : St) : Prop :=
  @sGrd (guardOf (s.τ 75) false) (some 80) s ⟨fun s K => @sOp (some 80) (xLoad 1 false (s.τ 79) s.H) s ⟨K⟩⟩ ⟨W3_c35 P Φ L0⟩
def W3_c37 (P : Program) (Φ : Exit → St → Prop) (L0 : St → Prop) (s : St) : Prop :=
  @sGrd (guardOf (s.τ 75) false) (some 79) s ⟨fun s K => @sOp (some 79) (xFld 2 (s.τ 78) s.H) s ⟨K⟩⟩ ⟨W3_c36 P Φ L0⟩
def W3_c38 (P : Program) (Φ : Exit → St → Prop) (L0 : St → Prop) (s : St) : Prop :=
  @sGrd (guardOf (s.τ 75) false) (some 78) s ⟨fun s K => @sOp (some 78) (xIx 3 (s.τ 76) (s.τ 77) s.H) s ⟨K⟩⟩ ⟨W3_c37 P Φ L0⟩
def W3_c39 (P : Program) (Φ : Exit → St → Prop) (L0 : St → Prop) (s : St) : Prop :=
  @sGrd (guardOf (s.τ 75) false) (some 77) s ⟨fun s K => @sOp (some 77) (xMov (s.τ 7) s.H) s ⟨K⟩⟩ ⟨W3_c38 P Φ L0⟩
def W3_c40 (P : Program) (Φ : Exit → St → Prop) (L0 : St → Prop) (s : St) : Prop :=
  @sOp (some 74) (xPick (s.τ 67) (.bool true) (s.τ 73) s.H) s <| .mk fun s =>
  @sOp (some 75) (xMov (s.τ 74) s.H) s <| .mk fun s =>
  @sGrd (guardOf (s.τ 75) false) (some 76) s ⟨fun s K => @sOp (some 76) (xMov (s.τ 6) s.H) s ⟨K⟩⟩ ⟨W3_c39 P Φ L0⟩
def W3_c41 (P : Program) (Φ : Exit → St → Prop) (L0 : St → Prop) (s : St) : Prop :=
  @sGrd (guardOf (s.τ 67) false) (some 73) s ⟨fun s K => @sOp (some 73) (xBin .lss false (s.τ 72) (.int .i64 0) s.H) s ⟨K⟩⟩ ⟨W3_c40 P Φ L0⟩
def W3_c42 (P : Program) (Φ : Exit → St → Prop) (L0 : St → Prop) (s : St) : Prop :=
  @sGrd (guardOf (s.τ 67) false) (some 72) s ⟨fun s K => @sOp (some 72) (xLoad 1 false (s.τ 71) s.H) s ⟨K⟩⟩ ⟨W3_c41 P Φ L0⟩
def W3_c43 (P : Program) (Φ : Exit → St → Prop) (L0 : St → Prop) (s : St) : Prop :=
  @sGrd (guardOf (s.τ 67) false) (some 71) s ⟨fun s K => @sOp (some 71) (xFld 2 (s.τ 70) s.H) s ⟨K⟩⟩ ⟨W3_c42 P Φ L0⟩
def W3_c44 (P : Program) (Φ : Exit → St → Prop) (L0 : St → Prop) (s : St) : Prop :=
  @sGrd (guardOf (s.τ 67) false) (some 70) s ⟨fun s K => @sOp (some 70) (xIx 3 (s.τ 68) (s.τ 69) s.H) s ⟨K⟩⟩ ⟨W3_c43 P Φ L0⟩
def W3_c45 (P : Program) (Φ : Exit → St → Prop) (L0 : St → Prop) (s : St) : Prop :=
  @sGrd (guardOf (s.τ 67) false) (some 69) s ⟨fun s K => @sOp (some 69) (xMov (s.τ 7) s.H) s ⟨K⟩⟩ ⟨W3_c44 P Φ L0⟩
def W3_c46 (P : Program) (Φ : Exit → St → Prop) (L0 : St → Prop) (s : St) : Prop :=
  @sOp (some 66) (xPick (s.τ 62) (.bool true) (s.τ 65) s.H) s <| .mk fun s =>
  @sOp (some 67) (xMov (s.τ 66) s.H) s <| .mk fun s =>
  @sGrd (guardOf (s.τ 67) false) (some 68) s ⟨fun s K => @sOp (some 68) (xMov (s.τ 6) s.H) s ⟨K⟩⟩ ⟨W3_c45 P Φ L0⟩
def W3_c47 (P : Program) (Φ : Exit → St → Prop) (L0 : St → Prop) (s : St) : Prop :=
  @sGrd (guardOf (s.τ 62) false) (some 65) s ⟨fun s K => @sOp (some 65) (xBin .eql false (s.τ 64) (.int .i64 14) s.H) s ⟨K⟩⟩ ⟨W3_c46 P Φ L0⟩
def W3_c48 (P : Program) (Φ : Exit → St → Prop) (L0 : St → Prop) (s : St) : Prop :=
  @sGrd (guardOf (s.τ 62) false) (some 64) s ⟨fun s K => @sOp (some 64) (xLoad 1 false (s.τ 63) s.H) s ⟨K⟩⟩ ⟨W3_c47 P Φ L0⟩
def W3_c49 (P : Program) (Φ : Exit → St → Prop) (L0 : St → Prop) (s : St) : Prop :=
  @sOp (some 61) (xPick (s.τ 57) (.bool true) (s.τ 60) s.H) s <| .mk fun s =>
  @sOp (some 62) (xMov (s.τ 61) s.H) s <| .mk fun s =>
  @sGrd (guardOf (s.τ 62) false) (some 63) s ⟨fun s K => @sOp (some 63) (xFld 0 (s.τ 8) s.H) s ⟨K⟩⟩ ⟨W3_c48 P Φ L0⟩
def W3_c50 (P : Program) (Φ : Exit → St → Prop) (L0 : St → Prop) (s : St) : Prop :=
  @sGrd (guardOf (s.τ 57) false) (some 60) s ⟨fun s K => @sOp (some 60) (xBin .eql false (s.τ 59) (.int .i64 0) s.H) s ⟨K⟩⟩ ⟨W3_c49 P Φ L0⟩
def W3_c51 (P : Program) (Φ : Exit → St → Prop) (L0 : St → Prop) (s : St) : Prop :=
  @sGrd (guardOf (s.τ 57) false) (some 59) s ⟨fun s K => @sOp (some 59) (xLoad 1 false (s.τ 58) s.H) s ⟨K⟩⟩ ⟨W3_c50 P Φ L0⟩
def W3_c52 (P : Program) (Φ : Exit → St → Prop) (L0 : St → Prop) (s : St) : Prop :=
  @sOp (some 56) (xPick (s.τ 52) (.bool true) (s.τ 55) s.H) s <| .mk fun s =>
  @sOp (some 57) (xMov (s.τ 56) s.H) s <| .mk fun s =>
  @sGrd (guardOf (s.τ 57) false) (some 58) s ⟨fun s K => @sOp (some 58) (xFld 0 (s.τ 8) s.H) s ⟨K⟩⟩ ⟨W3_c51 P Φ L0⟩
def W3_c53 (P : Program) (Φ : Exit → St → Prop) (L0 : St → Prop) (s : St) : Prop :=
  @sGrd (guardOf (s.τ 52) false) (some 55) s ⟨fun s K => @sOp (some 55) (xBin .gtr false (s.τ 54) (.int .i64 0) s.H) s ⟨K⟩⟩ ⟨W3_c52 P Φ L0⟩
def W3_c54 (P : Program) (Φ : Exit → St → Prop) (L0 : St → Prop) (s : St) : Prop :=
  @sGrd (guardOf (s.τ 52) false) (some 54) s ⟨fun s K => @sCall0 P (.func 26 []) [(s.τ 53)] (some 54) s ⟨K⟩⟩ ⟨W3_c53 P Φ L0⟩
def W3_c55 (P : Program) (Φ : Exit → St → Prop) (L0 : St → Prop) (s : St) : Prop :=
  @sOp (some 51) (xPick (s.τ 42) (.bool true) (s.τ 50) s.H) s <| .mk fun s =>
  @sOp (some 52) (xMov (s.τ 51) s.H) s <| .mk fun s =>
  @sGrd (guardOf (s.τ 52) false) (some 53) s ⟨fun s K => @sOp (some 53) (xLoad 9 true (s.τ 8) s.H) s ⟨K⟩⟩ ⟨W3_c54 P Φ L0⟩
def W3_c56 (P : Program) (Φ : Exit → St → Prop) (L0 : St → Prop) (s : St) : Prop :=
  @sGrd (guardOf (s.τ 42) false) (some 50) s ⟨fun s K => @sOp (some 50) (xBin .neq false (s.τ 44) (s.τ 49) s.H) s ⟨K⟩⟩ ⟨W3_c55 P Φ L0⟩
def W3_c57 (P : Program) (Φ : Exit → St → Prop) (L0 : St → Prop) (s : St) : Prop :=
  @sGrd (guardOf (s.τ 42) false) (some 49) s ⟨fun s K => @sOp (some 49) (xLoad 1 false (s.τ 48) s.H) s ⟨K⟩⟩ ⟨W3_c56 P Φ L0⟩
def W3_c58 (P : Program) (Φ : Exit → St → Prop) (L0 : St → Prop) (s : St) : Prop :=
  @sGrd (guardOf (s.τ 42) false) (some 48) s ⟨fun s K => @sOp (some 48) (xFld 0 (s.τ 47) s.H) s ⟨K⟩⟩ ⟨W3_c57 P Φ L0⟩
def W3_c59 (P : Program) (Φ : Exit → St → Prop) (L0 : St → Prop) (s : St) : Prop :=
  @sGrd (guardOf (s.τ 42) false) (some 47) s ⟨fun s K => @sOp (some 47) (xIx 3 (s.τ 45) (s.τ 46) s.H) s ⟨K⟩⟩ ⟨W3_c58 P Φ L0⟩
def W3_c60 (P : Program) (Φ : Exit → St → Prop) (L0 : St → Prop) (s : St) : Prop :=
  @sGrd (guardOf (s.τ 42) false) (some 46) s ⟨fun s K => @sOp (some 46) (xMov (s.τ 7) s.H) s ⟨K⟩⟩ ⟨W3_c59 P Φ L0⟩
def W3_c61 (P : Program) (Φ : Exit → St → Prop) (L0 : St → Prop) (s : St) : Prop :=
  @sGrd (guardOf (s.τ 42) false) (some 45) s ⟨fun s K => @sOp (some 45) (xMov (s.τ 6) s.H) s ⟨K⟩⟩ ⟨W3_c60 P Φ L0⟩
def W3_c62 (P : Program) (Φ : Exit → St → Prop) (L0 : St → Prop) (s : St) : Prop :=
  @sGrd (guardOf (s.τ 42) false) (some 44) s ⟨fun s K => @sOp (some 44) (xLoad 1 false (s.τ 43) s.H) s ⟨K⟩⟩ ⟨W3_c61 P Φ L0⟩
def W3_c63 (P : Program) (Φ : Exit → St → Prop) (L0 : St → Prop) (u0 : St) (u3 : St) (u4 : St) (u5 : St) (u6 : St) (s : St) : Prop :=
  @sOp (some 30) (xMov (s.τ 37) s.H) s <| .mk fun u8 =>
  @sOp (some 38) (xExt (u8.τ 30) 0 u8.H) u8 <| .mk fun u9 =>
  @sOp (some 39) (xExt (u9.τ 30) 1 u9.H) u9 <| .mk fun u10 =>
  @sChk (compat (occ (u0.τ 5), []) ([8], [8])) <| .mk <|
  @sChk (compat (occ (u3.τ 32), []) ([8], [8])) <| .mk <|
  @sChk (compat (occ (u4.τ 34), []) ([8], [8])) <| .mk <|
  @sChk (compat (occ (u5.τ 35), []) ([8], [8])) <| .mk <|
  @sChk (compat ([37] ++ (occ (.func 25 []) ++ occL [(u6.τ 31), (u6.τ 36)]), [37] ++ (occ (.func 25 []) ++ occL [(u6.τ 31), (u6.τ 36)])) ([8], [8])) <| .mk <|
  @sOp (some 8) (xAlloc 8 34 [.int .i64 0, .int .i64 0, .int .i64 0, .str ⟨#[]⟩, .int .i64 0, .int .i64 0, .str ⟨#[]⟩, .nils, .nils] u10.H) u10 <| .mk fun u11 =>
  @sOp none (xStore 9 (u11.τ 8) (u11.τ 38) u11.H) u11 <| .mk fun u12 =>
  @sOp (some 9) (xMov (u12.τ 39) u12.H) u12 <| .mk fun s =>
  @sOp (some 40) (xMov (s.τ 9) s.H) s <| .mk fun s =>
  @sOp (some 41) (xNot (s.τ 40) s.H) s <| .mk fun s =>
  @sOp (some 42) (xMov (s.τ 41) s.H) s <| .mk fun s =>
  @sGrd (guardOf (s.τ 42) false) (some 43) s ⟨fun s K => @sOp (some 43) (xFld 0 (s.τ 8) s.H) s ⟨K⟩⟩ ⟨W3_c62 P Φ L0⟩
def W3_b64 (P : Program) (Φ : Exit → St → Prop) (L0 : St → Prop) (s : St) : Prop :=
  @sOp (some 31) (xLoad 9 true (s.τ 5) s.H) s <| .mk fun u1 =>
  @sOp (some 32) (xMov (u1.τ 6) u1.H) u1 <| .mk fun u2 =>
  @sOp (some 33) (xMov (u2.τ 7) u2.H) u2 <| .mk fun u3 =>
  @sOp (some 34) (xIx 3 (u3.τ 32) (u3.τ 33) u3.H) u3 <| .mk fun u4 =>
  @sOp (some 35) (xFld 1 (u4.τ 34) u4.H) u4 <| .mk fun u5 =>
  @sOp (some 36) (xLoad 1 false (u5.τ 35) u5.H) u5 <| .mk fun u6 =>
  @sCall0 P (.func 25 []) [(u6.τ 31), (u6.τ 36)] (some 37) u6 ⟨W3_c63 P Φ L0 s u3 u4 u5 u6⟩
def W3_l65 (P : Program) (Φ : Exit → St → Prop) (L0 : St → Prop) (s : St) : Prop :=
  @sOp (some 24) (xMov (s.τ 7) s.H) s <| .mk fun s =>
  @sOp (some 25) (xMov (s.τ 6) s.H) s <| .mk fun s =>
  @sOp (some 26) (xLen (s.τ 25) s.H) s <| .mk fun s =>
  @sOp (some 27) (xBin .lss false (s.τ 24) (s.τ 26) s.H) s <| .mk fun s =>
  @sIf (s.τ 27) ⟨W3_b64 P Φ L0 s⟩ ⟨W3_k3 P Φ s⟩
def W3_c66 (P : Program) (Φ : Exit → St → Prop) (s : St) : Prop :=
  @sOp (some 6) (xMov (s.τ 23) s.H) s <| .mk fun s =>
  @sOp (some 7) (xMov (.int .i64 0) s.H) s <| .mk fun s =>
  @sLoop s ⟨fun L0 s => W3_l65 P Φ L0 s⟩
def W3_c67 (P : Program) (Φ : Exit → St → Prop) (s : St) : Prop :=
  @sOp (some 5) (xAlloc 5 34 [.int .i64 0, .int .i64 0, .int .i64 0, .str ⟨#[]⟩, .int .i64 0, .int .i64 0, .str ⟨#[]⟩, .nils, .nils] s.H) s <| .mk fun s =>
  @sOp none (xStore 9 (s.τ 5) (s.τ 21) s.H) s <| .mk fun s =>
  @sOp (some 22) (xLoad 9 true (s.τ 5) s.H) s <| .mk fun s =>
  @sCall P (.func 24 []) [(s.τ 22)] (some 23) s ⟨W3_c66 P Φ⟩
def W3_c68 (P : Program) (Φ : Exit → St → Prop) (s : St) : Prop :=
  @sCall P (.func 22 []) [(s.τ 20)] (some 21) s ⟨W3_c67 P Φ⟩
def W3_b69 (P : Program) (Φ : Exit → St → Prop) (s : St) : Prop :=
  @sOp (some 18) (xLoad 5 true (s.τ 2) s.H) s <| .mk fun s =>
  @sOp (some 19) (xMov (s.τ 1) s.H) s <| .mk fun s =>
  @sCall P (.func 23 []) [(s.τ 18), (s.τ 19)] (some 20) s ⟨W3_c68 P Φ⟩
def W3_c70 (P : Program) (Φ : Exit → St → Prop) (s : St) : Prop :=
  @sOp (some 17) (xNot (s.τ 16) s.H) s <| .mk fun s =>
  @sIf (s.τ 17) ⟨W3_b2 P Φ s⟩ ⟨W3_b69 P Φ s⟩
def W3_b71 (P : Program) (Φ : Exit → St → Prop) (s : St) : Prop :=
  @sOp (some 13) (xLoad 5 true (s.τ 2) s.H) s <| .mk fun s =>
  @sOp (some 14) (xLit 5 1 [.int .i64 0, .int .i64 0, .int .i64 0, .nils, .nils] [(0, (s.τ 13))] s.H) s <| .mk fun s =>
  @sOp (some 15) (xBuild [.int .i64 0, .int .i64 0, .nils] [(2, 1, (s.τ 14))] s.H) s <| .mk fun s =>
  @sCall P (.func 21 []) [(s.τ 15)] (some 16) s ⟨W3_c70 P Φ⟩
def W3_c72 (P : Program) (Φ : Exit → St → Prop) (s : St) : Prop :=
  @sOp (some 12) (xNot (s.τ 11) s.H) s <| .mk fun s =>
  @sIf (s.τ 12) ⟨W3_b1 P Φ s⟩ ⟨W3_b71 P Φ s⟩
def W3 (P : Program) (Φ : Exit → St → Prop) (s : St) : Prop :=
  @sOp (some 2) (xBox 2 25 (s.τ 0) s.H) s <| .mk fun s =>
  @sOp (some 4) (xMov (.bool false) s.H) s <| .mk fun s =>
  @sCall P (.func 20 []) [] (some 11) s ⟨W3_c72 P Φ⟩
theorem W3_rs (τ : Nat → AV) (H : Heap) : resV Try.prog τ H [.tmp 4] = some (τ 4) := by kernel_rfl
theorem W3_eq (Φ : Exit → St → Prop) (s : St) : awp Try.prog (Try.f3.body.getD .skip) Φ s = W3 Try.prog Φ s := by kernel_rfl

-- 4 "penance/penancelaw7.StepsPar"
def W4_b1 (P : Program) (Φ : Exit → St → Prop) (s : St) : Prop :=
  @sOp (some 4) (xMov (.bool false) s.H) s <| .mk fun s =>
  Φ .ret s
def W4_b2 (P : Program) (Φ : Exit → St → Prop) (s : St) : Prop :=
  @sOp (some 4) (xMov (.bool true) s.H) s <| .mk fun s =>
  Φ .ret s
def W4_b3 (P : Program) (Φ : Exit → St → Prop) (s : St) : Prop :=
  @sOp (some 4) (xMov (.bool false) s.H) s <| .mk fun s =>
  Φ .ret s
def W4_c4 (P : Program) (Φ : Exit → St → Prop) (s : St) : Prop :=
  @sOp (some 4) (xMov (s.τ 108) s.H) s <| .mk fun s =>
  Φ .ret s
def W4_b5 (P : Program) (Φ : Exit → St → Prop) (s : St) : Prop :=
  @sOp (some 106) (xMov (s.τ 13) s.H) s <| .mk fun s =>
  @sOp (some 107) (xMov (s.τ 8) s.H) s <| .mk fun s =>
  @sCall P (.func 28 []) [(s.τ 106), (s.τ 107)] (some 108) s ⟨W4_c4 P Φ⟩
def W4_b6 (P : Program) (Φ : Exit → St → Prop) (s : St) : Prop :=
  @sOp (some 109) (xMov (s.τ 13) s.H) s <| .mk fun s =>
  @sOp (some 110) (xLen (s.τ 109) s.H) s <| .mk fun s =>
  @sOp (some 111) (xMov (s.τ 7) s.H) s <| .mk fun s =>
  @sOp (some 112) (xLen (s.τ 111) s.H) s <| .mk fun s =>
  @sOp (some 113) (xBin .eql false (s.τ 110) (s.τ 112) s.H) s <| .mk fun s =>
  @sOp (some 4) (xMov (s.τ 113) s.H) s <| .mk fun s =>
  Φ .ret s
def W4_c7 (P : Program) (Φ : Exit → St → Prop) (s : St) : Prop :=
  @sOp (some 104) (xField 0 1 false (s.τ 103) s.H) s <| .mk fun s =>
  @sOp (some 105) (xBin .eql false (s.τ 104) (.int .i64 0) s.H) s <| .mk fun s =>
  @sIf (s.τ 105) ⟨W4_b5 P Φ s⟩ ⟨W4_b6 P Φ s⟩
def W4_c8 (P : Program) (Φ : Exit → St → Prop) (s : St) : Prop :=
  @sOp (some 13) (xMov (s.τ 101) s.H) s <| .mk fun s =>
  @sOp (some 102) (xLoad 9 true (s.τ 5) s.H) s <| .mk fun s =>
  @sCall P (.func 22 []) [(s.τ 102)] (some 103) s ⟨W4_c7 P Φ⟩
def W4_k9 (P : Program) (Φ : Exit → St → Prop) (s : St) : Prop :=
  @sOp (some 97) (xLoad 9 true (s.τ 5) s.H) s <| .mk fun s =>
  @sOp (some 98) (xLoad 9 true (s.τ 6) s.H) s <| .mk fun s =>
  @sOp (some 99) (xLit 9 2 [.int .i64 0, .int .i64 0, .int .i64 0, .str ⟨#[]⟩, .int .i64 0, .int .i64 0, .str ⟨#[]⟩, .nils, .nils] [(0, (s.τ 97)), (1, (s.τ 98))] s.H) s <| .mk fun s =>
  @sOp (some 100) (xBuild [.int .i64 0, .int .i64 0, .int .i64 0, .str ⟨#[]⟩, .int .i64 0, .int .i64 0, .str ⟨#[]⟩, .nils, .nils] [(0, 1, (.int .i64 12)), (8, 1, (s.τ 99))] s.H) s <| .mk fun s =>
  @sCall P (.func 24 []) [(s.τ 100)] (some 101) s ⟨W4_c8 P Φ⟩
def W4_b10 (P : Program) (Φ : Exit → St → Prop) (L0 : St → Prop) (s : St) : Prop :=
  @sOp (some 4) (xMov (.bool false) s.H) s <| .mk fun s =>
  Φ .ret s
def W4_b11 (P : Program) (Φ : Exit → St → Prop) (L0 : St → Prop) (s : St) : Prop :=
  @sOp (some 47) (xMov (s.τ 10) s.H) s <| .mk fun s =>
  @sOp (some 48) (xBin .add false (s.τ 47) (.int .i64 1) s.H) s <| .mk fun s =>
  @sOp (some 10) (xMov (s.τ 48) s.H) s <| .mk fun s =>
  L0 s
def W4_c12 (P : Program) (Φ : Exit → St → Prop) (L0 : St → Prop) (s : St) : Prop :=
  @sOp (some 96) (xPick (s.τ 83) (.bool true) (s.τ 95) s.H) s <| .mk fun s =>
  @sIf (s.τ 96) ⟨W4_b10 P Φ L0 s⟩ ⟨W4_b11 P Φ L0 s⟩
def W4_c13 (P : Program) (Φ : Exit → St → Prop) (L0 : St → Prop) (s : St) : Prop :=
  @sGrd (guardOf (s.τ 83) false) (some 95) s ⟨fun s K => @sOp (some 95) (xNot (s.τ 94) s.H) s ⟨K⟩⟩ ⟨W4_c12 P Φ L0⟩
def W4_c14 (P : Program) (Φ : Exit → St → Prop) (L0 : St → Prop) (s : St) : Prop :=
  @sGrd (guardOf (s.τ 83) false) (some 94) s ⟨fun s K => @sCall0 P (.func 27 []) [(s.τ 88), (s.τ 93)] (some 94) s ⟨K⟩⟩ ⟨W4_c13 P Φ L0⟩
def W4_c15 (P : Program) (Φ : Exit → St → Prop) (L0 : St → Prop) (u21 : St) (u22 : St) (u23 : St) (s : St) : Prop :=
  @sChk (compat (occ (u21.τ 84), []) ([93] ++ (occ (s.τ 90) ++ occ (s.τ 92)), [93] ++ occ (s.τ 90))) <| .mk <|
  @sChk (compat (occ (u22.τ 86), []) ([93] ++ (occ (s.τ 90) ++ occ (s.τ 92)), [93] ++ occ (s.τ 90))) <| .mk <|
  @sChk (compat (occ (u23.τ 87), []) ([93] ++ (occ (s.τ 90) ++ occ (s.τ 92)), [93] ++ occ (s.τ 90))) <| .mk <|
  @sGrd (guardOf (s.τ 83) false) (some 93) s ⟨fun s K => @sOp (some 93) (xApp P 3 1 8 (some 93) (s.τ 90) (s.τ 92) s.H) s ⟨K⟩⟩ ⟨W4_c14 P Φ L0⟩
def W4_c16 (P : Program) (Φ : Exit → St → Prop) (L0 : St → Prop) (u21 : St) (u22 : St) (u23 : St) (u25 : St) (s : St) : Prop :=
  @sChk (compat ([90] ++ occL [(u25.τ 89)], [90] ++ occL [(u25.τ 89)]) (occ (s.τ 91), [])) <| .mk <|
  @sGrd (guardOf (s.τ 83) false) (some 92) s ⟨fun s K => @sOp (some 92) (xLoad 1 false (s.τ 91) s.H) s ⟨K⟩⟩ ⟨W4_c15 P Φ L0 u21 u22 u23⟩
def W4_c17 (P : Program) (Φ : Exit → St → Prop) (L0 : St → Prop) (u21 : St) (u22 : St) (u23 : St) (u25 : St) (s : St) : Prop :=
  @sChk (compat ([90] ++ occL [(u25.τ 89)], [90] ++ occL [(u25.τ 89)]) (occ (s.τ 11), [])) <| .mk <|
  @sGrd (guardOf (s.τ 83) false) (some 91) s ⟨fun s K => @sOp (some 91) (xFld 1 (s.τ 11) s.H) s ⟨K⟩⟩ ⟨W4_c16 P Φ L0 u21 u22 u23 u25⟩
def W4_c18 (P : Program) (Φ : Exit → St → Prop) (L0 : St → Prop) (u21 : St) (u22 : St) (u23 : St) (s : St) : Prop :=
  @sChk (compat (occ (u21.τ 84), []) ([90] ++ occL [(s.τ 89)], [90] ++ occL [(s.τ 89)])) <| .mk <|
  @sChk (compat (occ (u22.τ 86), []) ([90] ++ occL [(s.τ 89)], [90] ++ occL [(s.τ 89)])) <| .mk <|
  @sChk (compat (occ (u23.τ 87), []) ([90] ++ occL [(s.τ 89)], [90] ++ occL [(s.τ 89)])) <| .mk <|
  @sGrd (guardOf (s.τ 83) false) (some 90) s ⟨fun s K => @sOp (some 90) (xRow 90 3 1 1 [.int .i64 0] [(0, (s.τ 89))] s.H) s ⟨K⟩⟩ ⟨W4_c17 P Φ L0 u21 u22 u23 s⟩
def W4_c19 (P : Program) (Φ : Exit → St → Prop) (L0 : St → Prop) (u21 : St) (u22 : St) (u23 : St) (s : St) : Prop :=
  @sGrd (guardOf (s.τ 83) false) (some 89) s ⟨fun s K => @sOp (some 89) (xMov (s.τ 12) s.H) s ⟨K⟩⟩ ⟨W4_c18 P Φ L0 u21 u22 u23⟩
def W4_c20 (P : Program) (Φ : Exit → St → Prop) (L0 : St → Prop) (u21 : St) (u22 : St) (s : St) : Prop :=
  @sGrd (guardOf (s.τ 83) false) (some 88) s ⟨fun s K => @sOp (some 88) (xLoad 1 false (s.τ 87) s.H) s ⟨K⟩⟩ ⟨W4_c19 P Φ L0 u21 u22 s⟩
def W4_c21 (P : Program) (Φ : Exit → St → Prop) (L0 : St → Prop) (u21 : St) (s : St) : Prop :=
  @sGrd (guardOf (s.τ 83) false) (some 87) s ⟨fun s K => @sOp (some 87) (xFld 1 (s.τ 86) s.H) s ⟨K⟩⟩ ⟨W4_c20 P Φ L0 u21 s⟩
def W4_c22 (P : Program) (Φ : Exit → St → Prop) (L0 : St → Prop) (s : St) : Prop :=
  @sGrd (guardOf (s.τ 83) false) (some 86) s ⟨fun s K => @sOp (some 86) (xIx 3 (s.τ 84) (s.τ 85) s.H) s ⟨K⟩⟩ ⟨W4_c21 P Φ L0 s⟩
def W4_c23 (P : Program) (Φ : Exit → St → Prop) (L0 : St → Prop) (s : St) : Prop :=
  @sGrd (guardOf (s.τ 83) false) (some 85) s ⟨fun s K => @sOp (some 85) (xMov (s.τ 10) s.H) s ⟨K⟩⟩ ⟨W4_c22 P Φ L0⟩
def W4_c24 (P : Program) (Φ : Exit → St → Prop) (L0 : St → Prop) (s : St) : Prop :=
  @sOp (some 82) (xPick (s.τ 73) (.bool true) (s.τ 81) s.H) s <| .mk fun u18 =>
  @sOp (some 83) (xMov (u18.τ 82) u18.H) u18 <| .mk fun u19 =>
  @sGrd (guardOf (u19.τ 83) false) (some 84) u19 ⟨fun s K => @sOp (some 84) (xMov (s.τ 9) s.H) s ⟨K⟩⟩ ⟨W4_c23 P Φ L0⟩
def W4_c25 (P : Program) (Φ : Exit → St → Prop) (L0 : St → Prop) (s : St) : Prop :=
  @sGrd (guardOf (s.τ 73) false) (some 81) s ⟨fun s K => @sOp (some 81) (xBin .neq false (s.τ 78) (s.τ 80) s.H) s ⟨K⟩⟩ ⟨W4_c24 P Φ L0⟩
def W4_c26 (P : Program) (Φ : Exit → St → Prop) (L0 : St → Prop) (s : St) : Prop :=
  @sGrd (guardOf (s.τ 73) false) (some 80) s ⟨fun s K => @sOp (some 80) (xLoad 1 false (s.τ 79) s.H) s ⟨K⟩⟩ ⟨W4_c25 P Φ L0⟩
def W4_c27 (P : Program) (Φ : Exit → St → Prop) (L0 : St → Prop) (s : St) : Prop :=
  @sGrd (guardOf (s.τ 73) false) (some 79) s ⟨fun s K => @sOp (some 79) (xFld 2 (s.τ 11) s.H) s ⟨K⟩⟩ ⟨W4_c26 P Φ L0⟩
def W4_c28 (P : Program) (Φ : Exit → St → Prop) (L0 : St → Prop) (s : St) : Prop :=
  @sGrd (guardOf (s.τ 73) false) (some 78) s ⟨fun s K => @sOp (some 78) (xLoad 1 false (s.τ 77) s.H) s ⟨K⟩⟩ ⟨W4_c27 P Φ L0⟩
def W4_c29 (P : Program) (Φ : Exit → St → Prop) (L0 : St → Prop) (s : St) : Prop :=
  @sGrd (guardOf (s.τ 73) false) (some 77) s ⟨fun s K => @sOp (some 77) (xFld 2 (s.τ 76) s.H) s ⟨K⟩⟩ ⟨W4_c28 P Φ L0⟩
def W4_c30 (P : Program) (Φ : Exit → St → Prop) (L0 : St → Prop) (s : St) : Prop :=
  @sGrd (guardOf (s.τ 73) false) (some 76) s ⟨fun s K => @sOp (some 76) (xIx 3 (s.τ 74) (s.τ 75) s.H) s ⟨K⟩⟩ ⟨W4_c29 P Φ L0⟩
def W4_c31 (P : Program) (Φ : Exit → St → Prop) (L0 : St → Prop) (s : St) : Prop :=
  @sGrd (guardOf (s.τ 73) false) (some 75) s ⟨fun s K => @sOp (some 75) (xMov (s.τ 10) s.H) s ⟨K⟩⟩ ⟨W4_c30 P Φ L0⟩
def W4_k32 (P : Program) (Φ : Exit → St → Prop) (L0 : St → Prop) (s : St) : Prop :=
  @sOp (some 65) (xMov (s.τ 9) s.H) s <| .mk fun u1 =>
  @sOp (some 66) (xMov (u1.τ 10) u1.H) u1 <| .mk fun u2 =>
  @sOp (some 67) (xIx 3 (u2.τ 65) (u2.τ 66) u2.H) u2 <| .mk fun u3 =>
  @sOp (some 68) (xFld 0 (u3.τ 67) u3.H) u3 <| .mk fun u4 =>
  @sOp (some 69) (xLoad 1 false (u4.τ 68) u4.H) u4 <| .mk fun u5 =>
  @sOp (some 70) (xFld 0 (u5.τ 11) u5.H) u5 <| .mk fun u6 =>
  @sOp (some 71) (xLoad 1 false (u6.τ 70) u6.H) u6 <| .mk fun u7 =>
  @sOp (some 72) (xBin .neq false (u7.τ 69) (u7.τ 71) u7.H) u7 <| .mk fun u8 =>
  @sOp (some 73) (xMov (u8.τ 72) u8.H) u8 <| .mk fun u9 =>
  @sGrd (guardOf (u9.τ 73) false) (some 74) u9 ⟨fun s K => @sOp (some 74) (xMov (s.τ 9) s.H) s ⟨K⟩⟩ ⟨W4_c31 P Φ L0⟩
def W4_b33 (P : Program) (Φ : Exit → St → Prop) (L0 : St → Prop) (s : St) : Prop :=
  @sOp (some 54) (xMov (s.τ 7) s.H) s <| .mk fun s =>
  @sOp (some 55) (xMov (s.τ 10) s.H) s <| .mk fun s =>
  @sOp (some 56) (xIx 3 (s.τ 54) (s.τ 55) s.H) s <| .mk fun s =>
  @sOp (some 57) (xLoad 3 true (s.τ 56) s.H) s <| .mk fun s =>
  @sOp none (xStore 3 (s.τ 11) (s.τ 57) s.H) s <| .mk fun s =>
  W4_k32 P Φ L0 s
def W4_b34 (P : Program) (Φ : Exit → St → Prop) (L0 : St → Prop) (s : St) : Prop :=
  @sOp (some 58) (xMov (s.τ 8) s.H) s <| .mk fun s =>
  @sOp (some 59) (xMov (s.τ 10) s.H) s <| .mk fun s =>
  @sOp (some 60) (xMov (s.τ 7) s.H) s <| .mk fun s =>
  @sOp (some 61) (xLen (s.τ 60) s.H) s <| .mk fun s =>
  @sOp (some 62) (xBin .sub false (s.τ 59) (s.τ 61) s.H) s <| .mk fun s =>
  @sOp (some 63) (xIx 3 (s.τ 58) (s.τ 62) s.H) s <| .mk fun s =>
  @sOp (some 64) (xLoad 3 true (s.τ 63) s.H) s <| .mk fun s =>
  @sOp none (xStore 3 (s.τ 11) (s.τ 64) s.H) s <| .mk fun s =>
  @sOp (some 12) (xMov (.int .i64 1) s.H) s <| .mk fun s =>
  W4_k32 P Φ L0 s
def W4_b35 (P : Program) (Φ : Exit → St → Prop) (L0 : St → Prop) (s : St) : Prop :=
  @sOp (some 49) (xBuild [.int .i64 0, .nils, .int .i64 0] [] s.H) s <| .mk fun s =>
  @sOp (some 11) (xAlloc 11 43 [.int .i64 0, .nils, .int .i64 0] s.H) s <| .mk fun s =>
  @sOp none (xStore 3 (s.τ 11) (s.τ 49) s.H) s <| .mk fun s =>
  @sOp (some 12) (xMov (.int .i64 0) s.H) s <| .mk fun s =>
  @sOp (some 50) (xMov (s.τ 10) s.H) s <| .mk fun s =>
  @sOp (some 51) (xMov (s.τ 7) s.H) s <| .mk fun s =>
  @sOp (some 52) (xLen (s.τ 51) s.H) s <| .mk fun s =>
  @sOp (some 53) (xBin .lss false (s.τ 50) (s.τ 52) s.H) s <| .mk fun s =>
  @sIf (s.τ 53) ⟨W4_b33 P Φ L0 s⟩ ⟨W4_b34 P Φ L0 s⟩
def W4_l36 (P : Program) (Φ : Exit → St → Prop) (L0 : St → Prop) (s : St) : Prop :=
  @sOp (some 43) (xMov (s.τ 10) s.H) s <| .mk fun s =>
  @sOp (some 44) (xMov (s.τ 9) s.H) s <| .mk fun s =>
  @sOp (some 45) (xLen (s.τ 44) s.H) s <| .mk fun s =>
  @sOp (some 46) (xBin .lss false (s.τ 43) (s.τ 45) s.H) s <| .mk fun s =>
  @sIf (s.τ 46) ⟨W4_b35 P Φ L0 s⟩ ⟨W4_k9 P Φ s⟩
def W4_b37 (P : Program) (Φ : Exit → St → Prop) (s : St) : Prop :=
  @sOp (some 10) (xMov (.int .i64 0) s.H) s <| .mk fun s =>
  @sLoop s ⟨fun L0 s => W4_l36 P Φ L0 s⟩
def W4_c38 (P : Program) (Φ : Exit → St → Prop) (s : St) : Prop :=
  @sOp (some 9) (xMov (s.τ 34) s.H) s <| .mk fun s =>
  @sOp (some 35) (xMov (s.τ 9) s.H) s <| .mk fun s =>
  @sOp (some 36) (xLen (s.τ 35) s.H) s <| .mk fun s =>
  @sOp (some 37) (xMov (s.τ 7) s.H) s <| .mk fun s =>
  @sOp (some 38) (xLen (s.τ 37) s.H) s <| .mk fun s =>
  @sOp (some 39) (xMov (s.τ 8) s.H) s <| .mk fun s =>
  @sOp (some 40) (xLen (s.τ 39) s.H) s <| .mk fun s =>
  @sOp (some 41) (xBin .add false (s.τ 38) (s.τ 40) s.H) s <| .mk fun s =>
  @sOp (some 42) (xBin .neq false (s.τ 36) (s.τ 41) s.H) s <| .mk fun s =>
  @sIf (s.τ 42) ⟨W4_b3 P Φ s⟩ ⟨W4_b37 P Φ s⟩
def W4_c39 (P : Program) (Φ : Exit → St → Prop) (s : St) : Prop :=
  @sOp (some 7) (xMov (s.τ 27) s.H) s <| .mk fun u5 =>
  @sOp (some 8) (xMov (u5.τ 29) u5.H) u5 <| .mk fun s =>
  @sOp (some 30) (xLoad 9 true (s.τ 5) s.H) s <| .mk fun s =>
  @sOp (some 31) (xLoad 9 true (s.τ 6) s.H) s <| .mk fun s =>
  @sOp (some 32) (xLit 9 2 [.int .i64 0, .int .i64 0, .int .i64 0, .str ⟨#[]⟩, .int .i64 0, .int .i64 0, .str ⟨#[]⟩, .nils, .nils] [(0, (s.τ 30)), (1, (s.τ 31))] s.H) s <| .mk fun s =>
  @sOp (some 33) (xBuild [.int .i64 0, .int .i64 0, .int .i64 0, .str ⟨#[]⟩, .int .i64 0, .int .i64 0, .str ⟨#[]⟩, .nils, .nils] [(0, 1, (.int .i64 11)), (8, 1, (s.τ 32))] s.H) s <| .mk fun s =>
  @sCall P (.func 24 []) [(s.τ 33)] (some 34) s ⟨W4_c38 P Φ⟩
def W4_c40 (P : Program) (Φ : Exit → St → Prop) (u1 : St) (s : St) : Prop :=
  @sChk (compat ([27] ++ (occ (.func 24 []) ++ occL [(u1.τ 26)]), [27] ++ (occ (.func 24 []) ++ occL [(u1.τ 26)])) (occ (s.τ 6), [])) <| .mk <|
  @sOp (some 28) (xLoad 9 true (s.τ 6) s.H) s <| .mk fun u3 =>
  @sCall0 P (.func 24 []) [(u3.τ 28)] (some 29) u3 ⟨W4_c39 P Φ⟩
def W4_c41 (P : Program) (Φ : Exit → St → Prop) (u0 : St) (u1 : St) (u2 : St) (u3 : St) (s : St) : Prop :=
  @sChk (compat (occ (u0.τ 2), []) ([5], [5])) <| .mk <|
  @sChk (compat ([23] ++ (occ (.func 23 []) ++ occL [(u1.τ 22), (.int .i64 0)]), [23] ++ (occ (.func 23 []) ++ occL [(u1.τ 22), (.int .i64 0)])) ([5], [5])) <| .mk <|
  @sChk (compat (occ (u2.τ 3), []) ([5], [5])) <| .mk <|
  @sChk (compat ([25] ++ (occ (.func 23 []) ++ occL [(u3.τ 24), (.int .i64 0)]), [25] ++ (occ (.func 23 []) ++ occL [(u3.τ 24), (.int .i64 0)])) ([5], [5])) <| .mk <|
  @sOp (some 5) (xAlloc 5 34 [.int .i64 0, .int .i64 0, .int .i64 0, .str ⟨#[]⟩, .int .i64 0, .int .i64 0, .str ⟨#[]⟩, .nils, .nils] s.H) s <| .mk fun u5 =>
  @sChk (compat (occ (u0.τ 2), []) ([6], [6])) <| .mk <|
  @sChk (compat ([23] ++ (occ (.func 23 []) ++ occL [(u1.τ 22), (.int .i64 0)]), [23] ++ (occ (.func 23 []) ++ occL [(u1.τ 22), (.int .i64 0)])) ([6], [6])) <| .mk <|
  @sChk (compat (occ (u2.τ 3), []) ([6], [6])) <| .mk <|
  @sChk (compat ([25] ++ (occ (.func 23 []) ++ occL [(u3.τ 24), (.int .i64 0)]), [25] ++ (occ (.func 23 []) ++ occL [(u3.τ 24), (.int .i64 0)])) ([6], [6])) <| .mk <|
  @sChk (compat ([5], [5]) ([6], [6])) <| .mk <|
  @sOp (some 6) (xAlloc 6 34 [.int .i64 0, .int .i64 0, .int .i64 0, .str ⟨#[]⟩, .int .i64 0, .int .i64 0, .str ⟨#[]⟩, .nils, .nils] u5.H) u5 <| .mk fun u6 =>
  @sOp none (xStore 9 (u6.τ 5) (u6.τ 23) u6.H) u6 <| .mk fun u7 =>
  @sOp none (xStore 9 (u7.τ 6) (u7.τ 25) u7.H) u7 <| .mk fun s =>
  @sOp (some 26) (xLoad 9 true (s.τ 5) s.H) s <| .mk fun u1 =>
  @sCall0 P (.func 24 []) [(u1.τ 26)] (some 27) u1 ⟨W4_c40 P Φ u1⟩
def W4_c42 (P : Program) (Φ : Exit → St → Prop) (u0 : St) (u1 : St) (s : St) : Prop :=
  @sChk (compat ([23] ++ (occ (.func 23 []) ++ occL [(u1.τ 22), (.int .i64 0)]), [23] ++ (occ (.func 23 []) ++ occL [(u1.τ 22), (.int .i64 0)])) (occ (s.τ 3), [])) <| .mk <|
  @sOp (some 24) (xLoad 5 true (s.τ 3) s.H) s <| .mk fun u3 =>
  @sCall0 P (.func 23 []) [(u3.τ 24), (.int .i64 0)] (some 25) u3 ⟨W4_c41 P Φ u0 u1 s u3⟩
def W4_b43 (P : Program) (Φ : Exit → St → Prop) (s : St) : Prop :=
  @sOp (some 22) (xLoad 5 true (s.τ 2) s.H) s <| .mk fun u1 =>
  @sCall0 P (.func 23 []) [(u1.τ 22), (.int .i64 0)] (some 23) u1 ⟨W4_c42 P Φ s u1⟩
def W4_c44 (P : Program) (Φ : Exit → St → Prop) (s : St) : Prop :=
  @sOp (some 21) (xNot (s.τ 20) s.H) s <| .mk fun s =>
  @sIf (s.τ 21) ⟨W4_b2 P Φ s⟩ ⟨W4_b43 P Φ s⟩
def W4_b45 (P : Program) (Φ : Exit → St → Prop) (s : St) : Prop :=
  @sOp (some 16) (xLoad 5 true (s.τ 2) s.H) s <| .mk fun s =>
  @sOp (some 17) (xLoad 5 true (s.τ 3) s.H) s <| .mk fun s =>
  @sOp (some 18) (xLit 5 2 [.int .i64 0, .int .i64 0, .int .i64 0, .nils, .nils] [(0, (s.τ 16)), (1, (s.τ 17))] s.H) s <| .mk fun s =>
  @sOp (some 19) (xBuild [.int .i64 0, .int .i64 0, .nils] [(2, 1, (s.τ 18))] s.H) s <| .mk fun s =>
  @sCall P (.func 21 []) [(s.τ 19)] (some 20) s ⟨W4_c44 P Φ⟩
def W4_c46 (P : Program) (Φ : Exit → St → Prop) (s : St) : Prop :=
  @sOp (some 15) (xNot (s.τ 14) s.H) s <| .mk fun s =>
  @sIf (s.τ 15) ⟨W4_b1 P Φ s⟩ ⟨W4_b45 P Φ s⟩
def W4 (P : Program) (Φ : Exit → St → Prop) (s : St) : Prop :=
  @sOp (some 2) (xBox 2 25 (s.τ 0) s.H) s <| .mk fun s =>
  @sOp (some 3) (xBox 3 25 (s.τ 1) s.H) s <| .mk fun s =>
  @sOp (some 4) (xMov (.bool false) s.H) s <| .mk fun s =>
  @sCall P (.func 20 []) [] (some 14) s ⟨W4_c46 P Φ⟩
theorem W4_rs (τ : Nat → AV) (H : Heap) : resV Try.prog τ H [.tmp 4] = some (τ 4) := by kernel_rfl
theorem W4_eq (Φ : Exit → St → Prop) (s : St) : awp Try.prog (Try.f4.body.getD .skip) Φ s = W4 Try.prog Φ s := by kernel_rfl

-- 5 "penance/penancelaw7.StepsExit"
def W5_b1 (P : Program) (Φ : Exit → St → Prop) (s : St) : Prop :=
  @sOp (some 6) (xMov (.bool false) s.H) s <| .mk fun s =>
  Φ .ret s
def W5_c2 (P : Program) (Φ : Exit → St → Prop) (s : St) : Prop :=
  @sOp (some 59) (xPick (s.τ 54) (s.τ 58) (.bool false) s.H) s <| .mk fun s =>
  @sOp (some 6) (xMov (s.τ 59) s.H) s <| .mk fun s =>
  Φ .ret s
def W5_c3 (P : Program) (Φ : Exit → St → Prop) (s : St) : Prop :=
  @sGrd (guardOf (s.τ 54) true) (some 58) s ⟨fun s K => @sOp (some 58) (xBin .eql false (s.τ 56) (s.τ 57) s.H) s ⟨K⟩⟩ ⟨W5_c2 P Φ⟩
def W5_c4 (P : Program) (Φ : Exit → St → Prop) (s : St) : Prop :=
  @sGrd (guardOf (s.τ 54) true) (some 57) s ⟨fun s K => @sOp (some 57) (xMov (s.τ 11) s.H) s ⟨K⟩⟩ ⟨W5_c3 P Φ⟩
def W5_c5 (P : Program) (Φ : Exit → St → Prop) (s : St) : Prop :=
  @sGrd (guardOf (s.τ 54) true) (some 56) s ⟨fun s K => @sCall P (.func 30 []) [(s.τ 55)] (some 56) s ⟨K⟩⟩ ⟨W5_c4 P Φ⟩
def W5_c6 (P : Program) (Φ : Exit → St → Prop) (s : St) : Prop :=
  @sOp (some 53) (xPick (s.τ 49) (s.τ 52) (.bool false) s.H) s <| .mk fun s =>
  @sOp (some 54) (xMov (s.τ 53) s.H) s <| .mk fun s =>
  @sGrd (guardOf (s.τ 54) true) (some 55) s ⟨fun s K => @sOp (some 55) (xLoad 9 true (s.τ 8) s.H) s ⟨K⟩⟩ ⟨W5_c5 P Φ⟩
def W5_c7 (P : Program) (Φ : Exit → St → Prop) (s : St) : Prop :=
  @sGrd (guardOf (s.τ 49) true) (some 52) s ⟨fun s K => @sOp (some 52) (xBin .leq false (s.τ 51) (.int .i64 1) s.H) s ⟨K⟩⟩ ⟨W5_c6 P Φ⟩
def W5_c8 (P : Program) (Φ : Exit → St → Prop) (s : St) : Prop :=
  @sGrd (guardOf (s.τ 49) true) (some 51) s ⟨fun s K => @sOp (some 51) (xLen (s.τ 50) s.H) s ⟨K⟩⟩ ⟨W5_c7 P Φ⟩
def W5_k9 (P : Program) (Φ : Exit → St → Prop) (s : St) : Prop :=
  @sOp (some 43) (xMov (s.τ 10) s.H) s <| .mk fun s =>
  @sOp (some 44) (xLen (s.τ 43) s.H) s <| .mk fun s =>
  @sOp (some 45) (xBin .eql false (s.τ 44) (.int .i64 1) s.H) s <| .mk fun s =>
  @sOp (some 46) (xMov (s.τ 0) s.H) s <| .mk fun s =>
  @sOp (some 47) (xNot (s.τ 46) s.H) s <| .mk fun s =>
  @sOp (some 48) (xBin .eql true (s.τ 45) (s.τ 47) s.H) s <| .mk fun s =>
  @sOp (some 49) (xMov (s.τ 48) s.H) s <| .mk fun s =>
  @sGrd (guardOf (s.τ 49) true) (some 50) s ⟨fun s K => @sOp (some 50) (xMov (s.τ 10) s.H) s ⟨K⟩⟩ ⟨W5_c8 P Φ⟩
def W5_b10 (P : Program) (Φ : Exit → St → Prop) (s : St) : Prop :=
  @sOp (some 11) (xMov (.int .i64 1) s.H) s <| .mk fun s =>
  W5_k9 P Φ s
def W5_c11 (P : Program) (Φ : Exit → St → Prop) (s : St) : Prop :=
  @sOp (some 10) (xMov (s.τ 41) s.H) s <| .mk fun s =>
  @sOp (some 11) (xMov (.int .i64 0) s.H) s <| .mk fun s =>
  @sOp (some 42) (xMov (s.τ 0) s.H) s <| .mk fun s =>
  @sIf (s.τ 42) ⟨W5_b10 P Φ s⟩ ⟨W5_k9 P Φ s⟩
def W5_k12 (P : Program) (Φ : Exit → St → Prop) (s : St) : Prop :=
  @sOp (some 40) (xLoad 9 true (s.τ 8) s.H) s <| .mk fun s =>
  @sCall P (.func 24 []) [(s.τ 40)] (some 41) s ⟨W5_c11 P Φ⟩
def W5_b13 (P : Program) (Φ : Exit → St → Prop) (s : St) : Prop :=
  @sOp (some 35) (xFld 1 (s.τ 7) s.H) s <| .mk fun s =>
  @sOp none (xStore 1 (s.τ 35) (.int .i64 1) s.H) s <| .mk fun s =>
  @sOp (some 36) (xLoad 9 true (s.τ 7) s.H) s <| .mk fun s =>
  @sOp (some 37) (xLoad 9 true (s.τ 8) s.H) s <| .mk fun s =>
  @sOp (some 38) (xLit 9 2 [.int .i64 0, .int .i64 0, .int .i64 0, .str ⟨#[]⟩, .int .i64 0, .int .i64 0, .str ⟨#[]⟩, .nils, .nils] [(0, (s.τ 36)), (1, (s.τ 37))] s.H) s <| .mk fun s =>
  @sOp (some 39) (xBuild [.int .i64 0, .int .i64 0, .int .i64 0, .str ⟨#[]⟩, .int .i64 0, .int .i64 0, .str ⟨#[]⟩, .nils, .nils] [(0, 1, (.int .i64 11)), (8, 1, (s.τ 38))] s.H) s <| .mk fun s =>
  @sOp none (xStore 9 (s.τ 8) (s.τ 39) s.H) s <| .mk fun s =>
  W5_k12 P Φ s
def W5_k14 (P : Program) (Φ : Exit → St → Prop) (s : St) : Prop :=
  @sOp (some 31) (xLoad 9 true (s.τ 8) s.H) s <| .mk fun s =>
  @sOp (some 32) (xLit 9 1 [.int .i64 0, .int .i64 0, .int .i64 0, .str ⟨#[]⟩, .int .i64 0, .int .i64 0, .str ⟨#[]⟩, .nils, .nils] [(0, (s.τ 31))] s.H) s <| .mk fun s =>
  @sOp (some 33) (xBuild [.int .i64 0, .int .i64 0, .int .i64 0, .str ⟨#[]⟩, .int .i64 0, .int .i64 0, .str ⟨#[]⟩, .nils, .nils] [(0, 1, (.int .i64 7)), (8, 1, (s.τ 32))] s.H) s <| .mk fun s =>
  @sOp none (xStore 9 (s.τ 8) (s.τ 33) s.H) s <| .mk fun s =>
  @sOp (some 34) (xMov (s.τ 1) s.H) s <| .mk fun s =>
  @sIf (s.τ 34) ⟨W5_b13 P Φ s⟩ ⟨W5_k12 P Φ s⟩
def W5_b15 (P : Program) (Φ : Exit → St → Prop) (L0 : St → Prop) (s : St) : Prop :=
  @sOp (some 27) (xLoad 9 true (s.τ 8) s.H) s <| .mk fun s =>
  @sOp (some 28) (xBuild [.int .i64 0, .int .i64 0, .int .i64 0, .str ⟨#[]⟩, .int .i64 0, .int .i64 0, .str ⟨#[]⟩, .nils, .nils] [(0, 1, (.int .i64 8))] s.H) s <| .mk fun s =>
  @sOp (some 29) (xLit 9 2 [.int .i64 0, .int .i64 0, .int .i64 0, .str ⟨#[]⟩, .int .i64 0, .int .i64 0, .str ⟨#[]⟩, .nils, .nils] [(0, (s.τ 27)), (1, (s.τ 28))] s.H) s <| .mk fun s =>
  @sOp (some 30) (xBuild [.int .i64 0, .int .i64 0, .int .i64 0, .str ⟨#[]⟩, .int .i64 0, .int .i64 0, .str ⟨#[]⟩, .nils, .nils] [(0, 1, (.int .i64 12)), (8, 1, (s.τ 29))] s.H) s <| .mk fun s =>
  @sOp none (xStore 9 (s.τ 8) (s.τ 30) s.H) s <| .mk fun s =>
  @sOp (some 25) (xMov (s.τ 9) s.H) s <| .mk fun s =>
  @sOp (some 26) (xBin .add false (s.τ 25) (.int .i64 1) s.H) s <| .mk fun s =>
  @sOp (some 9) (xMov (s.τ 26) s.H) s <| .mk fun s =>
  L0 s
def W5_c16 (P : Program) (Φ : Exit → St → Prop) (L0 : St → Prop) (s : St) : Prop :=
  @sOp (some 24) (xBin .lss false (s.τ 21) (s.τ 23) s.H) s <| .mk fun s =>
  @sIf (s.τ 24) ⟨W5_b15 P Φ L0 s⟩ ⟨W5_k14 P Φ s⟩
def W5_l17 (P : Program) (Φ : Exit → St → Prop) (L0 : St → Prop) (s : St) : Prop :=
  @sOp (some 21) (xMov (s.τ 9) s.H) s <| .mk fun s =>
  @sOp (some 22) (xMov (s.τ 2) s.H) s <| .mk fun s =>
  @sCall P (.func 29 []) [(s.τ 22), (.int .i64 4)] (some 23) s ⟨W5_c16 P Φ L0⟩
def W5_k18 (P : Program) (Φ : Exit → St → Prop) (s : St) : Prop :=
  @sOp (some 9) (xMov (.int .i64 0) s.H) s <| .mk fun s =>
  @sLoop s ⟨fun L0 s => W5_l17 P Φ L0 s⟩
def W5_b19 (P : Program) (Φ : Exit → St → Prop) (s : St) : Prop :=
  @sOp (some 17) (xLoad 9 true (s.τ 8) s.H) s <| .mk fun s =>
  @sOp (some 18) (xLoad 9 true (s.τ 7) s.H) s <| .mk fun s =>
  @sOp (some 19) (xLit 9 2 [.int .i64 0, .int .i64 0, .int .i64 0, .str ⟨#[]⟩, .int .i64 0, .int .i64 0, .str ⟨#[]⟩, .nils, .nils] [(0, (s.τ 17)), (1, (s.τ 18))] s.H) s <| .mk fun s =>
  @sOp (some 20) (xBuild [.int .i64 0, .int .i64 0, .int .i64 0, .str ⟨#[]⟩, .int .i64 0, .int .i64 0, .str ⟨#[]⟩, .nils, .nils] [(0, 1, (.int .i64 11)), (8, 1, (s.τ 19))] s.H) s <| .mk fun s =>
  @sOp none (xStore 9 (s.τ 8) (s.τ 20) s.H) s <| .mk fun s =>
  W5_k18 P Φ s
def W5_b20 (P : Program) (Φ : Exit → St → Prop) (s : St) : Prop :=
  @sOp (some 14) (xBuild [.int .i64 0, .int .i64 0, .int .i64 0, .str ⟨#[]⟩, .int .i64 0, .int .i64 0, .str ⟨#[]⟩, .nils, .nils] [(0, 1, (.int .i64 14)), (2, 1, (.int .i64 (-1))), (3, 1, (.str ⟨#[112, 97, 121]⟩))] s.H) s <| .mk fun s =>
  @sOp (some 7) (xAlloc 7 34 [.int .i64 0, .int .i64 0, .int .i64 0, .str ⟨#[]⟩, .int .i64 0, .int .i64 0, .str ⟨#[]⟩, .nils, .nils] s.H) s <| .mk fun s =>
  @sOp none (xStore 9 (s.τ 7) (s.τ 14) s.H) s <| .mk fun s =>
  @sOp (some 15) (xBuild [.int .i64 0, .int .i64 0, .int .i64 0, .str ⟨#[]⟩, .int .i64 0, .int .i64 0, .str ⟨#[]⟩, .nils, .nils] [(0, 1, (.int .i64 8))] s.H) s <| .mk fun s =>
  @sOp (some 8) (xAlloc 8 34 [.int .i64 0, .int .i64 0, .int .i64 0, .str ⟨#[]⟩, .int .i64 0, .int .i64 0, .str ⟨#[]⟩, .nils, .nils] s.H) s <| .mk fun s =>
  @sOp none (xStore 9 (s.τ 8) (s.τ 15) s.H) s <| .mk fun s =>
  @sOp (some 16) (xMov (s.τ 0) s.H) s <| .mk fun s =>
  @sIf (s.τ 16) ⟨W5_b19 P Φ s⟩ ⟨W5_k18 P Φ s⟩
def W5_c21 (P : Program) (Φ : Exit → St → Prop) (s : St) : Prop :=
  @sOp (some 13) (xNot (s.τ 12) s.H) s <| .mk fun s =>
  @sIf (s.τ 13) ⟨W5_b1 P Φ s⟩ ⟨W5_b20 P Φ s⟩
def W5 (P : Program) (Φ : Exit → St → Prop) (s : St) : Prop :=
  @sOp (some 6) (xMov (.bool false) s.H) s <| .mk fun s =>
  @sCall P (.func 20 []) [] (some 12) s ⟨W5_c21 P Φ⟩
theorem W5_rs (τ : Nat → AV) (H : Heap) : resV Try.prog τ H [.tmp 6] = some (τ 6) := by kernel_rfl
theorem W5_eq (Φ : Exit → St → Prop) (s : St) : awp Try.prog (Try.f5.body.getD .skip) Φ s = W5 Try.prog Φ s := by kernel_rfl

-- 6 "penance/penancelaw7.StepsStatus"
def W6_b1 (P : Program) (Φ : Exit → St → Prop) (s : St) : Prop :=
  @sOp (some 4) (xMov (.bool false) s.H) s <| .mk fun s =>
  Φ .ret s
def W6_b2 (P : Program) (Φ : Exit → St → Prop) (s : St) : Prop :=
  @sOp (some 4) (xMov (.bool true) s.H) s <| .mk fun s =>
  Φ .ret s
def W6_c3 (P : Program) (Φ : Exit → St → Prop) (s : St) : Prop :=
  @sOp (some 31) (xPick (s.τ 26) (s.τ 30) (.bool false) s.H) s <| .mk fun s =>
  @sOp (some 4) (xMov (s.τ 31) s.H) s <| .mk fun s =>
  Φ .ret s
def W6_c4 (P : Program) (Φ : Exit → St → Prop) (s : St) : Prop :=
  @sGrd (guardOf (s.τ 26) true) (some 30) s ⟨fun s K => @sOp (some 30) (xBin .eql false (s.τ 29) (.int .i64 0) s.H) s ⟨K⟩⟩ ⟨W6_c3 P Φ⟩
def W6_c5 (P : Program) (Φ : Exit → St → Prop) (s : St) : Prop :=
  @sGrd (guardOf (s.τ 26) true) (some 29) s ⟨fun s K => @sOp (some 29) (xLen (s.τ 28) s.H) s ⟨K⟩⟩ ⟨W6_c4 P Φ⟩
def W6_c6 (P : Program) (Φ : Exit → St → Prop) (s : St) : Prop :=
  @sGrd (guardOf (s.τ 26) true) (some 28) s ⟨fun s K => @sCall P (.func 24 []) [(s.τ 27)] (some 28) s ⟨K⟩⟩ ⟨W6_c5 P Φ⟩
def W6_b7 (P : Program) (Φ : Exit → St → Prop) (s : St) : Prop :=
  @sOp (some 23) (xFld 0 (s.τ 6) s.H) s <| .mk fun s =>
  @sOp (some 24) (xLoad 1 false (s.τ 23) s.H) s <| .mk fun s =>
  @sOp (some 25) (xBin .eql false (s.τ 24) (.int .i64 0) s.H) s <| .mk fun s =>
  @sOp (some 26) (xMov (s.τ 25) s.H) s <| .mk fun s =>
  @sGrd (guardOf (s.τ 26) true) (some 27) s ⟨fun s K => @sOp (some 27) (xLoad 9 true (s.τ 5) s.H) s ⟨K⟩⟩ ⟨W6_c6 P Φ⟩
def W6_c8 (P : Program) (Φ : Exit → St → Prop) (s : St) : Prop :=
  @sOp (some 36) (xLen (s.τ 35) s.H) s <| .mk fun s =>
  @sOp (some 37) (xBin .gtr false (s.τ 36) (.int .i64 0) s.H) s <| .mk fun s =>
  @sOp (some 4) (xMov (s.τ 37) s.H) s <| .mk fun s =>
  Φ .ret s
def W6_b9 (P : Program) (Φ : Exit → St → Prop) (s : St) : Prop :=
  @sOp (some 34) (xLoad 9 true (s.τ 5) s.H) s <| .mk fun s =>
  @sCall P (.func 24 []) [(s.τ 34)] (some 35) s ⟨W6_c8 P Φ⟩
def W6_c10 (P : Program) (Φ : Exit → St → Prop) (s : St) : Prop :=
  @sOp (some 54) (xPick (s.τ 50) (s.τ 53) (.bool false) s.H) s <| .mk fun s =>
  @sOp (some 4) (xMov (s.τ 54) s.H) s <| .mk fun s =>
  Φ .ret s
def W6_c11 (P : Program) (Φ : Exit → St → Prop) (s : St) : Prop :=
  @sGrd (guardOf (s.τ 50) true) (some 53) s ⟨fun s K => @sOp (some 53) (xBin .neq false (s.τ 52) (.int .i64 0) s.H) s ⟨K⟩⟩ ⟨W6_c10 P Φ⟩
def W6_c12 (P : Program) (Φ : Exit → St → Prop) (s : St) : Prop :=
  @sGrd (guardOf (s.τ 50) true) (some 52) s ⟨fun s K => @sOp (some 52) (xLoad 1 false (s.τ 51) s.H) s ⟨K⟩⟩ ⟨W6_c11 P Φ⟩
def W6_c13 (P : Program) (Φ : Exit → St → Prop) (s : St) : Prop :=
  @sOp (some 49) (xPick (s.τ 44) (s.τ 48) (.bool false) s.H) s <| .mk fun s =>
  @sOp (some 50) (xMov (s.τ 49) s.H) s <| .mk fun s =>
  @sGrd (guardOf (s.τ 50) true) (some 51) s ⟨fun s K => @sOp (some 51) (xFld 0 (s.τ 6) s.H) s ⟨K⟩⟩ ⟨W6_c12 P Φ⟩
def W6_c14 (P : Program) (Φ : Exit → St → Prop) (s : St) : Prop :=
  @sGrd (guardOf (s.τ 44) true) (some 48) s ⟨fun s K => @sOp (some 48) (xBin .gtr false (s.τ 47) (.int .i64 0) s.H) s ⟨K⟩⟩ ⟨W6_c13 P Φ⟩
def W6_c15 (P : Program) (Φ : Exit → St → Prop) (s : St) : Prop :=
  @sGrd (guardOf (s.τ 44) true) (some 47) s ⟨fun s K => @sOp (some 47) (xLen (s.τ 46) s.H) s ⟨K⟩⟩ ⟨W6_c14 P Φ⟩
def W6_c16 (P : Program) (Φ : Exit → St → Prop) (s : St) : Prop :=
  @sGrd (guardOf (s.τ 44) true) (some 46) s ⟨fun s K => @sCall P (.func 31 []) [(s.τ 45)] (some 46) s ⟨K⟩⟩ ⟨W6_c15 P Φ⟩
def W6_c17 (P : Program) (Φ : Exit → St → Prop) (s : St) : Prop :=
  @sOp (some 42) (xLen (s.τ 41) s.H) s <| .mk fun s =>
  @sOp (some 43) (xBin .eql false (s.τ 42) (.int .i64 0) s.H) s <| .mk fun s =>
  @sOp (some 44) (xMov (s.τ 43) s.H) s <| .mk fun s =>
  @sGrd (guardOf (s.τ 44) true) (some 45) s ⟨fun s K => @sOp (some 45) (xLoad 9 true (s.τ 6) s.H) s ⟨K⟩⟩ ⟨W6_c16 P Φ⟩
def W6_b18 (P : Program) (Φ : Exit → St → Prop) (s : St) : Prop :=
  @sOp (some 40) (xLoad 9 true (s.τ 5) s.H) s <| .mk fun s =>
  @sCall P (.func 24 []) [(s.τ 40)] (some 41) s ⟨W6_c17 P Φ⟩
def W6_b19 (P : Program) (Φ : Exit → St → Prop) (s : St) : Prop :=
  @sOp (some 4) (xMov (.bool false) s.H) s <| .mk fun s =>
  Φ .ret s
def W6_b20 (P : Program) (Φ : Exit → St → Prop) (s : St) : Prop :=
  @sOp (some 39) (xBin .eql false (s.τ 20) (.int .i64 1) s.H) s <| .mk fun s =>
  @sOp (some 38) (xMov (s.τ 39) s.H) s <| .mk fun s =>
  @sIf (s.τ 38) ⟨W6_b18 P Φ s⟩ ⟨W6_b19 P Φ s⟩
def W6_b21 (P : Program) (Φ : Exit → St → Prop) (s : St) : Prop :=
  @sOp (some 33) (xBin .eql false (s.τ 20) (.int .i64 0) s.H) s <| .mk fun s =>
  @sOp (some 32) (xMov (s.τ 33) s.H) s <| .mk fun s =>
  @sIf (s.τ 32) ⟨W6_b9 P Φ s⟩ ⟨W6_b20 P Φ s⟩
def W6_c22 (P : Program) (Φ : Exit → St → Prop) (s : St) : Prop :=
  @sOp (some 22) (xBin .eql false (s.τ 20) (.int .i64 2) s.H) s <| .mk fun s =>
  @sOp (some 21) (xMov (s.τ 22) s.H) s <| .mk fun s =>
  @sIf (s.τ 21) ⟨W6_b7 P Φ s⟩ ⟨W6_b21 P Φ s⟩
def W6_c23 (P : Program) (Φ : Exit → St → Prop) (s : St) : Prop :=
  @sOp (some 6) (xAlloc 6 34 [.int .i64 0, .int .i64 0, .int .i64 0, .str ⟨#[]⟩, .int .i64 0, .int .i64 0, .str ⟨#[]⟩, .nils, .nils] s.H) s <| .mk fun s =>
  @sOp none (xStore 9 (s.τ 6) (s.τ 18) s.H) s <| .mk fun s =>
  @sOp (some 19) (xLoad 9 true (s.τ 5) s.H) s <| .mk fun s =>
  @sCall P (.func 30 []) [(s.τ 19)] (some 20) s ⟨W6_c22 P Φ⟩
def W6_c24 (P : Program) (Φ : Exit → St → Prop) (s : St) : Prop :=
  @sOp (some 5) (xAlloc 5 34 [.int .i64 0, .int .i64 0, .int .i64 0, .str ⟨#[]⟩, .int .i64 0, .int .i64 0, .str ⟨#[]⟩, .nils, .nils] s.H) s <| .mk fun s =>
  @sOp none (xStore 9 (s.τ 5) (s.τ 16) s.H) s <| .mk fun s =>
  @sOp (some 17) (xLoad 9 true (s.τ 5) s.H) s <| .mk fun s =>
  @sCall P (.func 22 []) [(s.τ 17)] (some 18) s ⟨W6_c23 P Φ⟩
def W6_b25 (P : Program) (Φ : Exit → St → Prop) (s : St) : Prop :=
  @sOp (some 14) (xLoad 5 true (s.τ 2) s.H) s <| .mk fun s =>
  @sOp (some 15) (xMov (s.τ 1) s.H) s <| .mk fun s =>
  @sCall P (.func 23 []) [(s.τ 14), (s.τ 15)] (some 16) s ⟨W6_c24 P Φ⟩
def W6_c26 (P : Program) (Φ : Exit → St → Prop) (s : St) : Prop :=
  @sOp (some 13) (xNot (s.τ 12) s.H) s <| .mk fun s =>
  @sIf (s.τ 13) ⟨W6_b2 P Φ s⟩ ⟨W6_b25 P Φ s⟩
def W6_b27 (P : Program) (Φ : Exit → St → Prop) (s : St) : Prop :=
  @sOp (some 9) (xLoad 5 true (s.τ 2) s.H) s <| .mk fun s =>
  @sOp (some 10) (xLit 5 1 [.int .i64 0, .int .i64 0, .int .i64 0, .nils, .nils] [(0, (s.τ 9))] s.H) s <| .mk fun s =>
  @sOp (some 11) (xBuild [.int .i64 0, .int .i64 0, .nils] [(2, 1, (s.τ 10))] s.H) s <| .mk fun s =>
  @sCall P (.func 21 []) [(s.τ 11)] (some 12) s ⟨W6_c26 P Φ⟩
def W6_c28 (P : Program) (Φ : Exit → St → Prop) (s : St) : Prop :=
  @sOp (some 8) (xNot (s.τ 7) s.H) s <| .mk fun s =>
  @sIf (s.τ 8) ⟨W6_b1 P Φ s⟩ ⟨W6_b27 P Φ s⟩
def W6 (P : Program) (Φ : Exit → St → Prop) (s : St) : Prop :=
  @sOp (some 2) (xBox 2 25 (s.τ 0) s.H) s <| .mk fun s =>
  @sOp (some 4) (xMov (.bool false) s.H) s <| .mk fun s =>
  @sCall P (.func 20 []) [] (some 7) s ⟨W6_c28 P Φ⟩
theorem W6_rs (τ : Nat → AV) (H : Heap) : resV Try.prog τ H [.tmp 4] = some (τ 4) := by kernel_rfl
theorem W6_eq (Φ : Exit → St → Prop) (s : St) : awp Try.prog (Try.f6.body.getD .skip) Φ s = W6 Try.prog Φ s := by kernel_rfl

end Go.Proofs.Ytkagfenchknjjaa
