import Derived.Test.YtkagfenchknjjaaAmSimp
import Derived.Test.YtkagfenchknjjaaProg
import Derived.KernelRfl
set_option linter.unusedVariables false
namespace Go.Proofs.Ytkagfenchknjjaa
open Go Go.Am
-- 10 "penance/penancelaw7.StepsOrder"
def W10_b1 (P : Program) (Φ : Exit → St → Prop) (s : St) : Prop :=
  @sOp (some 4) (xMov (.bool false) s.H) s <| .mk fun s =>
  Φ .ret s
def W10_b2 (P : Program) (Φ : Exit → St → Prop) (s : St) : Prop :=
  @sOp (some 4) (xMov (.bool true) s.H) s <| .mk fun s =>
  Φ .ret s
def W10_k3 (P : Program) (Φ : Exit → St → Prop) (s : St) : Prop :=
  @sOp (some 4) (xMov (.bool true) s.H) s <| .mk fun s =>
  Φ .ret s
def W10_k4 (P : Program) (Φ : Exit → St → Prop) (L0 : St → Prop) (s : St) : Prop :=
  @sOp (some 25) (xMov (s.τ 6) s.H) s <| .mk fun s =>
  @sOp (some 26) (xBin .add false (s.τ 25) (.int .i64 1) s.H) s <| .mk fun s =>
  @sOp (some 6) (xMov (s.τ 26) s.H) s <| .mk fun s =>
  L0 s
def W10_b5 (P : Program) (Φ : Exit → St → Prop) (L0 : St → Prop) (s : St) : Prop :=
  @sOp (some 4) (xMov (.bool false) s.H) s <| .mk fun s =>
  Φ .ret s
def W10_c6 (P : Program) (Φ : Exit → St → Prop) (L0 : St → Prop) (s : St) : Prop :=
  @sOp (some 48) (xPick (s.τ 44) (.bool true) (s.τ 47) s.H) s <| .mk fun s =>
  @sIf (s.τ 48) ⟨W10_b5 P Φ L0 s⟩ ⟨W10_k4 P Φ L0 s⟩
def W10_c7 (P : Program) (Φ : Exit → St → Prop) (L0 : St → Prop) (s : St) : Prop :=
  @sGrd (guardOf (s.τ 44) false) (some 47) s ⟨fun s K => @sOp (some 47) (xBin .neq false (s.τ 46) (.int .i64 1) s.H) s ⟨K⟩⟩ ⟨W10_c6 P Φ L0⟩
def W10_c8 (P : Program) (Φ : Exit → St → Prop) (L0 : St → Prop) (s : St) : Prop :=
  @sGrd (guardOf (s.τ 44) false) (some 46) s ⟨fun s K => @sOp (some 46) (xLoad 1 false (s.τ 45) s.H) s ⟨K⟩⟩ ⟨W10_c7 P Φ L0⟩
def W10_b9 (P : Program) (Φ : Exit → St → Prop) (L0 : St → Prop) (s : St) : Prop :=
  @sOp (some 41) (xFld 2 (s.τ 7) s.H) s <| .mk fun s =>
  @sOp (some 42) (xLoad 1 false (s.τ 41) s.H) s <| .mk fun s =>
  @sOp (some 43) (xBin .neq false (s.τ 42) (.int .i64 0) s.H) s <| .mk fun s =>
  @sOp (some 44) (xMov (s.τ 43) s.H) s <| .mk fun s =>
  @sGrd (guardOf (s.τ 44) false) (some 45) s ⟨fun s K => @sOp (some 45) (xFld 2 (s.τ 8) s.H) s ⟨K⟩⟩ ⟨W10_c8 P Φ L0⟩
def W10_b10 (P : Program) (Φ : Exit → St → Prop) (L0 : St → Prop) (s : St) : Prop :=
  @sOp (some 4) (xMov (.bool false) s.H) s <| .mk fun s =>
  Φ .ret s
def W10_c11 (P : Program) (Φ : Exit → St → Prop) (L0 : St → Prop) (s : St) : Prop :=
  @sOp (some 100) (xPick (s.τ 88) (.bool true) (s.τ 99) s.H) s <| .mk fun s =>
  @sIf (s.τ 100) ⟨W10_b10 P Φ L0 s⟩ ⟨W10_k4 P Φ L0 s⟩
def W10_c12 (P : Program) (Φ : Exit → St → Prop) (L0 : St → Prop) (s : St) : Prop :=
  @sGrd (guardOf (s.τ 88) false) (some 99) s ⟨fun s K => @sOp (some 99) (xBin .gtr false (s.τ 93) (s.τ 98) s.H) s ⟨K⟩⟩ ⟨W10_c11 P Φ L0⟩
def W10_c13 (P : Program) (Φ : Exit → St → Prop) (L0 : St → Prop) (s : St) : Prop :=
  @sGrd (guardOf (s.τ 88) false) (some 98) s ⟨fun s K => @sOp (some 98) (xLoad 1 false (s.τ 97) s.H) s ⟨K⟩⟩ ⟨W10_c12 P Φ L0⟩
def W10_c14 (P : Program) (Φ : Exit → St → Prop) (L0 : St → Prop) (s : St) : Prop :=
  @sGrd (guardOf (s.τ 88) false) (some 97) s ⟨fun s K => @sOp (some 97) (xIx 1 (s.τ 95) (s.τ 96) s.H) s ⟨K⟩⟩ ⟨W10_c13 P Φ L0⟩
def W10_c15 (P : Program) (Φ : Exit → St → Prop) (L0 : St → Prop) (s : St) : Prop :=
  @sGrd (guardOf (s.τ 88) false) (some 96) s ⟨fun s K => @sOp (some 96) (xMov (s.τ 9) s.H) s ⟨K⟩⟩ ⟨W10_c14 P Φ L0⟩
def W10_c16 (P : Program) (Φ : Exit → St → Prop) (L0 : St → Prop) (s : St) : Prop :=
  @sGrd (guardOf (s.τ 88) false) (some 95) s ⟨fun s K => @sOp (some 95) (xLoad 1 false (s.τ 94) s.H) s ⟨K⟩⟩ ⟨W10_c15 P Φ L0⟩
def W10_c17 (P : Program) (Φ : Exit → St → Prop) (L0 : St → Prop) (s : St) : Prop :=
  @sGrd (guardOf (s.τ 88) false) (some 94) s ⟨fun s K => @sOp (some 94) (xFld 1 (s.τ 8) s.H) s ⟨K⟩⟩ ⟨W10_c16 P Φ L0⟩
def W10_c18 (P : Program) (Φ : Exit → St → Prop) (L0 : St → Prop) (s : St) : Prop :=
  @sGrd (guardOf (s.τ 88) false) (some 93) s ⟨fun s K => @sOp (some 93) (xLoad 1 false (s.τ 92) s.H) s ⟨K⟩⟩ ⟨W10_c17 P Φ L0⟩
def W10_c19 (P : Program) (Φ : Exit → St → Prop) (L0 : St → Prop) (s : St) : Prop :=
  @sGrd (guardOf (s.τ 88) false) (some 92) s ⟨fun s K => @sOp (some 92) (xIx 1 (s.τ 90) (s.τ 91) s.H) s ⟨K⟩⟩ ⟨W10_c18 P Φ L0⟩
def W10_c20 (P : Program) (Φ : Exit → St → Prop) (L0 : St → Prop) (s : St) : Prop :=
  @sGrd (guardOf (s.τ 88) false) (some 91) s ⟨fun s K => @sOp (some 91) (xMov (s.τ 9) s.H) s ⟨K⟩⟩ ⟨W10_c19 P Φ L0⟩
def W10_c21 (P : Program) (Φ : Exit → St → Prop) (L0 : St → Prop) (s : St) : Prop :=
  @sGrd (guardOf (s.τ 88) false) (some 90) s ⟨fun s K => @sOp (some 90) (xLoad 1 false (s.τ 89) s.H) s ⟨K⟩⟩ ⟨W10_c20 P Φ L0⟩
def W10_c22 (P : Program) (Φ : Exit → St → Prop) (L0 : St → Prop) (s : St) : Prop :=
  @sOp (some 87) (xPick (s.τ 81) (.bool true) (s.τ 86) s.H) s <| .mk fun s =>
  @sOp (some 88) (xMov (s.τ 87) s.H) s <| .mk fun s =>
  @sGrd (guardOf (s.τ 88) false) (some 89) s ⟨fun s K => @sOp (some 89) (xFld 1 (s.τ 7) s.H) s ⟨K⟩⟩ ⟨W10_c21 P Φ L0⟩
def W10_c23 (P : Program) (Φ : Exit → St → Prop) (L0 : St → Prop) (s : St) : Prop :=
  @sGrd (guardOf (s.τ 81) false) (some 86) s ⟨fun s K => @sOp (some 86) (xBin .geq false (s.τ 82) (s.τ 85) s.H) s ⟨K⟩⟩ ⟨W10_c22 P Φ L0⟩
def W10_c24 (P : Program) (Φ : Exit → St → Prop) (L0 : St → Prop) (s : St) : Prop :=
  @sGrd (guardOf (s.τ 81) false) (some 85) s ⟨fun s K => @sOp (some 85) (xLen (s.τ 84) s.H) s ⟨K⟩⟩ ⟨W10_c23 P Φ L0⟩
def W10_c25 (P : Program) (Φ : Exit → St → Prop) (L0 : St → Prop) (s : St) : Prop :=
  @sGrd (guardOf (s.τ 81) false) (some 84) s ⟨fun s K => @sOp (some 84) (xLoad 1 false (s.τ 83) s.H) s ⟨K⟩⟩ ⟨W10_c24 P Φ L0⟩
def W10_c26 (P : Program) (Φ : Exit → St → Prop) (L0 : St → Prop) (s : St) : Prop :=
  @sGrd (guardOf (s.τ 81) false) (some 83) s ⟨fun s K => @sOp (some 83) (xFld 1 (s.τ 8) s.H) s ⟨K⟩⟩ ⟨W10_c25 P Φ L0⟩
def W10_k27 (P : Program) (Φ : Exit → St → Prop) (L0 : St → Prop) (s : St) : Prop :=
  @sOp (some 76) (xMov (s.τ 9) s.H) s <| .mk fun s =>
  @sOp (some 77) (xFld 1 (s.τ 7) s.H) s <| .mk fun s =>
  @sOp (some 78) (xLoad 1 false (s.τ 77) s.H) s <| .mk fun s =>
  @sOp (some 79) (xLen (s.τ 78) s.H) s <| .mk fun s =>
  @sOp (some 80) (xBin .geq false (s.τ 76) (s.τ 79) s.H) s <| .mk fun s =>
  @sOp (some 81) (xMov (s.τ 80) s.H) s <| .mk fun s =>
  @sGrd (guardOf (s.τ 81) false) (some 82) s ⟨fun s K => @sOp (some 82) (xMov (s.τ 9) s.H) s ⟨K⟩⟩ ⟨W10_c26 P Φ L0⟩
def W10_b28 (P : Program) (Φ : Exit → St → Prop) (L0 : St → Prop) (L1 : St → Prop) (s : St) : Prop :=
  @sOp (some 74) (xMov (s.τ 9) s.H) s <| .mk fun s =>
  @sOp (some 75) (xBin .add false (s.τ 74) (.int .i64 1) s.H) s <| .mk fun s =>
  @sOp (some 9) (xMov (s.τ 75) s.H) s <| .mk fun s =>
  L1 s
def W10_c29 (P : Program) (Φ : Exit → St → Prop) (L0 : St → Prop) (L1 : St → Prop) (s : St) : Prop :=
  @sOp (some 73) (xPick (s.τ 61) (s.τ 72) (.bool false) s.H) s <| .mk fun s =>
  @sIf (s.τ 73) ⟨W10_b28 P Φ L0 L1 s⟩ ⟨W10_k27 P Φ L0 s⟩
def W10_c30 (P : Program) (Φ : Exit → St → Prop) (L0 : St → Prop) (L1 : St → Prop) (s : St) : Prop :=
  @sGrd (guardOf (s.τ 61) true) (some 72) s ⟨fun s K => @sOp (some 72) (xBin .eql false (s.τ 66) (s.τ 71) s.H) s ⟨K⟩⟩ ⟨W10_c29 P Φ L0 L1⟩
def W10_c31 (P : Program) (Φ : Exit → St → Prop) (L0 : St → Prop) (L1 : St → Prop) (s : St) : Prop :=
  @sGrd (guardOf (s.τ 61) true) (some 71) s ⟨fun s K => @sOp (some 71) (xLoad 1 false (s.τ 70) s.H) s ⟨K⟩⟩ ⟨W10_c30 P Φ L0 L1⟩
def W10_c32 (P : Program) (Φ : Exit → St → Prop) (L0 : St → Prop) (L1 : St → Prop) (s : St) : Prop :=
  @sGrd (guardOf (s.τ 61) true) (some 70) s ⟨fun s K => @sOp (some 70) (xIx 1 (s.τ 68) (s.τ 69) s.H) s ⟨K⟩⟩ ⟨W10_c31 P Φ L0 L1⟩
def W10_c33 (P : Program) (Φ : Exit → St → Prop) (L0 : St → Prop) (L1 : St → Prop) (s : St) : Prop :=
  @sGrd (guardOf (s.τ 61) true) (some 69) s ⟨fun s K => @sOp (some 69) (xMov (s.τ 9) s.H) s ⟨K⟩⟩ ⟨W10_c32 P Φ L0 L1⟩
def W10_c34 (P : Program) (Φ : Exit → St → Prop) (L0 : St → Prop) (L1 : St → Prop) (s : St) : Prop :=
  @sGrd (guardOf (s.τ 61) true) (some 68) s ⟨fun s K => @sOp (some 68) (xLoad 1 false (s.τ 67) s.H) s ⟨K⟩⟩ ⟨W10_c33 P Φ L0 L1⟩
def W10_c35 (P : Program) (Φ : Exit → St → Prop) (L0 : St → Prop) (L1 : St → Prop) (s : St) : Prop :=
  @sGrd (guardOf (s.τ 61) true) (some 67) s ⟨fun s K => @sOp (some 67) (xFld 1 (s.τ 8) s.H) s ⟨K⟩⟩ ⟨W10_c34 P Φ L0 L1⟩
def W10_c36 (P : Program) (Φ : Exit → St → Prop) (L0 : St → Prop) (L1 : St → Prop) (s : St) : Prop :=
  @sGrd (guardOf (s.τ 61) true) (some 66) s ⟨fun s K => @sOp (some 66) (xLoad 1 false (s.τ 65) s.H) s ⟨K⟩⟩ ⟨W10_c35 P Φ L0 L1⟩
def W10_c37 (P : Program) (Φ : Exit → St → Prop) (L0 : St → Prop) (L1 : St → Prop) (s : St) : Prop :=
  @sGrd (guardOf (s.τ 61) true) (some 65) s ⟨fun s K => @sOp (some 65) (xIx 1 (s.τ 63) (s.τ 64) s.H) s ⟨K⟩⟩ ⟨W10_c36 P Φ L0 L1⟩
def W10_c38 (P : Program) (Φ : Exit → St → Prop) (L0 : St → Prop) (L1 : St → Prop) (s : St) : Prop :=
  @sGrd (guardOf (s.τ 61) true) (some 64) s ⟨fun s K => @sOp (some 64) (xMov (s.τ 9) s.H) s ⟨K⟩⟩ ⟨W10_c37 P Φ L0 L1⟩
def W10_c39 (P : Program) (Φ : Exit → St → Prop) (L0 : St → Prop) (L1 : St → Prop) (s : St) : Prop :=
  @sGrd (guardOf (s.τ 61) true) (some 63) s ⟨fun s K => @sOp (some 63) (xLoad 1 false (s.τ 62) s.H) s ⟨K⟩⟩ ⟨W10_c38 P Φ L0 L1⟩
def W10_c40 (P : Program) (Φ : Exit → St → Prop) (L0 : St → Prop) (L1 : St → Prop) (s : St) : Prop :=
  @sOp (some 60) (xPick (s.τ 54) (s.τ 59) (.bool false) s.H) s <| .mk fun s =>
  @sOp (some 61) (xMov (s.τ 60) s.H) s <| .mk fun s =>
  @sGrd (guardOf (s.τ 61) true) (some 62) s ⟨fun s K => @sOp (some 62) (xFld 1 (s.τ 7) s.H) s ⟨K⟩⟩ ⟨W10_c39 P Φ L0 L1⟩
def W10_c41 (P : Program) (Φ : Exit → St → Prop) (L0 : St → Prop) (L1 : St → Prop) (s : St) : Prop :=
  @sGrd (guardOf (s.τ 54) true) (some 59) s ⟨fun s K => @sOp (some 59) (xBin .lss false (s.τ 55) (s.τ 58) s.H) s ⟨K⟩⟩ ⟨W10_c40 P Φ L0 L1⟩
def W10_c42 (P : Program) (Φ : Exit → St → Prop) (L0 : St → Prop) (L1 : St → Prop) (s : St) : Prop :=
  @sGrd (guardOf (s.τ 54) true) (some 58) s ⟨fun s K => @sOp (some 58) (xLen (s.τ 57) s.H) s ⟨K⟩⟩ ⟨W10_c41 P Φ L0 L1⟩
def W10_c43 (P : Program) (Φ : Exit → St → Prop) (L0 : St → Prop) (L1 : St → Prop) (s : St) : Prop :=
  @sGrd (guardOf (s.τ 54) true) (some 57) s ⟨fun s K => @sOp (some 57) (xLoad 1 false (s.τ 56) s.H) s ⟨K⟩⟩ ⟨W10_c42 P Φ L0 L1⟩
def W10_c44 (P : Program) (Φ : Exit → St → Prop) (L0 : St → Prop) (L1 : St → Prop) (s : St) : Prop :=
  @sGrd (guardOf (s.τ 54) true) (some 56) s ⟨fun s K => @sOp (some 56) (xFld 1 (s.τ 8) s.H) s ⟨K⟩⟩ ⟨W10_c43 P Φ L0 L1⟩
def W10_l45 (P : Program) (Φ : Exit → St → Prop) (L0 : St → Prop) (L1 : St → Prop) (s : St) : Prop :=
  @sOp (some 49) (xMov (s.τ 9) s.H) s <| .mk fun s =>
  @sOp (some 50) (xFld 1 (s.τ 7) s.H) s <| .mk fun s =>
  @sOp (some 51) (xLoad 1 false (s.τ 50) s.H) s <| .mk fun s =>
  @sOp (some 52) (xLen (s.τ 51) s.H) s <| .mk fun s =>
  @sOp (some 53) (xBin .lss false (s.τ 49) (s.τ 52) s.H) s <| .mk fun s =>
  @sOp (some 54) (xMov (s.τ 53) s.H) s <| .mk fun s =>
  @sGrd (guardOf (s.τ 54) true) (some 55) s ⟨fun s K => @sOp (some 55) (xMov (s.τ 9) s.H) s ⟨K⟩⟩ ⟨W10_c44 P Φ L0 L1⟩
def W10_b46 (P : Program) (Φ : Exit → St → Prop) (L0 : St → Prop) (s : St) : Prop :=
  @sOp (some 9) (xMov (.int .i64 0) s.H) s <| .mk fun s =>
  @sLoop s ⟨fun L1 s => W10_l45 P Φ L0 L1 s⟩
def W10_c47 (P : Program) (Φ : Exit → St → Prop) (L0 : St → Prop) (s : St) : Prop :=
  @sIf (s.τ 40) ⟨W10_b9 P Φ L0 s⟩ ⟨W10_b46 P Φ L0 s⟩
def W10_b48 (P : Program) (Φ : Exit → St → Prop) (L0 : St → Prop) (s : St) : Prop :=
  @sOp (some 27) (xMov (s.τ 5) s.H) s <| .mk fun u1 =>
  @sOp (some 28) (xMov (u1.τ 6) u1.H) u1 <| .mk fun u2 =>
  @sOp (some 29) (xBin .sub false (u2.τ 28) (.int .i64 1) u2.H) u2 <| .mk fun u3 =>
  @sOp (some 30) (xIx 3 (u3.τ 27) (u3.τ 29) u3.H) u3 <| .mk fun u4 =>
  @sOp (some 31) (xLoad 3 true (u4.τ 30) u4.H) u4 <| .mk fun u5 =>
  @sOp (some 32) (xMov (u5.τ 5) u5.H) u5 <| .mk fun u6 =>
  @sOp (some 33) (xMov (u6.τ 6) u6.H) u6 <| .mk fun u7 =>
  @sOp (some 34) (xIx 3 (u7.τ 32) (u7.τ 33) u7.H) u7 <| .mk fun u8 =>
  @sOp (some 35) (xLoad 3 true (u8.τ 34) u8.H) u8 <| .mk fun u9 =>
  @sChk (compat (occ (u3.τ 27), []) ([7], [7])) <| .mk <|
  @sChk (compat (occ (u4.τ 30), []) ([7], [7])) <| .mk <|
  @sChk (compat (occ (u7.τ 32), []) ([7], [7])) <| .mk <|
  @sChk (compat (occ (u8.τ 34), []) ([7], [7])) <| .mk <|
  @sOp (some 7) (xAlloc 7 43 [.int .i64 0, .nils, .int .i64 0] u9.H) u9 <| .mk fun u10 =>
  @sChk (compat (occ (u3.τ 27), []) ([8], [8])) <| .mk <|
  @sChk (compat (occ (u4.τ 30), []) ([8], [8])) <| .mk <|
  @sChk (compat (occ (u7.τ 32), []) ([8], [8])) <| .mk <|
  @sChk (compat (occ (u8.τ 34), []) ([8], [8])) <| .mk <|
  @sChk (compat ([7], [7]) ([8], [8])) <| .mk <|
  @sOp (some 8) (xAlloc 8 43 [.int .i64 0, .nils, .int .i64 0] u10.H) u10 <| .mk fun u11 =>
  @sChk (compat (occ (u7.τ 32), []) (occ (u11.τ 7), occ (u11.τ 7))) <| .mk <|
  @sChk (compat (occ (u8.τ 34), []) (occ (u11.τ 7), occ (u11.τ 7))) <| .mk <|
  @sOp none (xStore 3 (u11.τ 7) (u11.τ 31) u11.H) u11 <| .mk fun u12 =>
  @sOp none (xStore 3 (u12.τ 8) (u12.τ 35) u12.H) u12 <| .mk fun s =>
  @sOp (some 36) (xFld 1 (s.τ 7) s.H) s <| .mk fun s =>
  @sOp (some 37) (xLoad 1 false (s.τ 36) s.H) s <| .mk fun s =>
  @sOp (some 38) (xFld 1 (s.τ 8) s.H) s <| .mk fun s =>
  @sOp (some 39) (xLoad 1 false (s.τ 38) s.H) s <| .mk fun s =>
  @sCall P (.func 27 []) [(s.τ 37), (s.τ 39)] (some 40) s ⟨W10_c47 P Φ L0⟩
def W10_l49 (P : Program) (Φ : Exit → St → Prop) (L0 : St → Prop) (s : St) : Prop :=
  @sOp (some 21) (xMov (s.τ 6) s.H) s <| .mk fun s =>
  @sOp (some 22) (xMov (s.τ 5) s.H) s <| .mk fun s =>
  @sOp (some 23) (xLen (s.τ 22) s.H) s <| .mk fun s =>
  @sOp (some 24) (xBin .lss false (s.τ 21) (s.τ 23) s.H) s <| .mk fun s =>
  @sIf (s.τ 24) ⟨W10_b48 P Φ L0 s⟩ ⟨W10_k3 P Φ s⟩
def W10_c50 (P : Program) (Φ : Exit → St → Prop) (s : St) : Prop :=
  @sOp (some 5) (xMov (s.τ 20) s.H) s <| .mk fun s =>
  @sOp (some 6) (xMov (.int .i64 1) s.H) s <| .mk fun s =>
  @sLoop s ⟨fun L0 s => W10_l49 P Φ L0 s⟩
def W10_c51 (P : Program) (Φ : Exit → St → Prop) (s : St) : Prop :=
  @sCall P (.func 24 []) [(s.τ 19)] (some 20) s ⟨W10_c50 P Φ⟩
def W10_b52 (P : Program) (Φ : Exit → St → Prop) (s : St) : Prop :=
  @sOp (some 17) (xLoad 5 true (s.τ 2) s.H) s <| .mk fun s =>
  @sOp (some 18) (xMov (s.τ 1) s.H) s <| .mk fun s =>
  @sCall P (.func 23 []) [(s.τ 17), (s.τ 18)] (some 19) s ⟨W10_c51 P Φ⟩
def W10_c53 (P : Program) (Φ : Exit → St → Prop) (s : St) : Prop :=
  @sOp (some 16) (xNot (s.τ 15) s.H) s <| .mk fun s =>
  @sIf (s.τ 16) ⟨W10_b2 P Φ s⟩ ⟨W10_b52 P Φ s⟩
def W10_b54 (P : Program) (Φ : Exit → St → Prop) (s : St) : Prop :=
  @sOp (some 12) (xLoad 5 true (s.τ 2) s.H) s <| .mk fun s =>
  @sOp (some 13) (xLit 5 1 [.int .i64 0, .int .i64 0, .int .i64 0, .nils, .nils] [(0, (s.τ 12))] s.H) s <| .mk fun s =>
  @sOp (some 14) (xBuild [.int .i64 0, .int .i64 0, .nils] [(2, 1, (s.τ 13))] s.H) s <| .mk fun s =>
  @sCall P (.func 21 []) [(s.τ 14)] (some 15) s ⟨W10_c53 P Φ⟩
def W10_c55 (P : Program) (Φ : Exit → St → Prop) (s : St) : Prop :=
  @sOp (some 11) (xNot (s.τ 10) s.H) s <| .mk fun s =>
  @sIf (s.τ 11) ⟨W10_b1 P Φ s⟩ ⟨W10_b54 P Φ s⟩
def W10 (P : Program) (Φ : Exit → St → Prop) (s : St) : Prop :=
  @sOp (some 2) (xBox 2 25 (s.τ 0) s.H) s <| .mk fun s =>
  @sOp (some 4) (xMov (.bool false) s.H) s <| .mk fun s =>
  @sCall P (.func 20 []) [] (some 10) s ⟨W10_c55 P Φ⟩
theorem W10_rs (τ : Nat → AV) (H : Heap) : resV Try.prog τ H [.tmp 4] = some (τ 4) := by kernel_rfl
theorem W10_eq (Φ : Exit → St → Prop) (s : St) : awp Try.prog (Try.f10.body.getD .skip) Φ s = W10 Try.prog Φ s := by kernel_rfl

-- 11 "penance/penancelaw7.StepsRow"
def W11_b1 (P : Program) (Φ : Exit → St → Prop) (s : St) : Prop :=
  @sOp (some 8) (xMov (.bool false) s.H) s <| .mk fun s =>
  Φ .ret s
def W11_b2 (P : Program) (Φ : Exit → St → Prop) (s : St) : Prop :=
  @sOp (some 8) (xMov (.bool true) s.H) s <| .mk fun s =>
  Φ .ret s
def W11_b3 (P : Program) (Φ : Exit → St → Prop) (s : St) : Prop :=
  @sOp (some 8) (xMov (.bool true) s.H) s <| .mk fun s =>
  Φ .ret s
def W11_c4 (P : Program) (Φ : Exit → St → Prop) (s : St) : Prop :=
  @sOp (some 8) (xMov (s.τ 42) s.H) s <| .mk fun s =>
  Φ .ret s
def W11_c5 (P : Program) (Φ : Exit → St → Prop) (s : St) : Prop :=
  @sOp (some 11) (xMov (s.τ 39) s.H) s <| .mk fun s =>
  @sOp (some 40) (xMov (s.τ 10) s.H) s <| .mk fun s =>
  @sOp (some 41) (xMov (s.τ 11) s.H) s <| .mk fun s =>
  @sCall P (.func 28 []) [(s.τ 40), (s.τ 41)] (some 42) s ⟨W11_c4 P Φ⟩
def W11_c6 (P : Program) (Φ : Exit → St → Prop) (s : St) : Prop :=
  @sOp (some 37) (xLit 9 2 [.int .i64 0, .int .i64 0, .int .i64 0, .str ⟨#[]⟩, .int .i64 0, .int .i64 0, .str ⟨#[]⟩, .nils, .nils] [(0, (s.τ 34)), (1, (s.τ 36))] s.H) s <| .mk fun u4 =>
  @sOp (some 38) (xBuild [.int .i64 0, .int .i64 0, .int .i64 0, .str ⟨#[]⟩, .int .i64 0, .int .i64 0, .str ⟨#[]⟩, .nils, .nils] [(0, 1, (.int .i64 12)), (8, 1, (u4.τ 37))] u4.H) u4 <| .mk fun u5 =>
  @sCall0 P (.func 24 []) [(u5.τ 38)] (some 39) u5 ⟨W11_c5 P Φ⟩
def W11_c7 (P : Program) (Φ : Exit → St → Prop) (s : St) : Prop :=
  @sOp (some 10) (xMov (s.τ 33) s.H) s <| .mk fun s =>
  @sOp (some 34) (xLoad 9 true (s.τ 9) s.H) s <| .mk fun u1 =>
  @sOp (some 35) (xLoad 5 true (u1.τ 6) u1.H) u1 <| .mk fun u2 =>
  @sChk (compat (occ (s.τ 9), []) ([36] ++ (occ (.func 23 []) ++ occL [(u2.τ 35), (.int .i64 0)]), [36] ++ (occ (.func 23 []) ++ occL [(u2.τ 35), (.int .i64 0)]))) <| .mk <|
  @sCall0 P (.func 23 []) [(u2.τ 35), (.int .i64 0)] (some 36) u2 ⟨W11_c6 P Φ⟩
def W11_c8 (P : Program) (Φ : Exit → St → Prop) (s : St) : Prop :=
  @sOp (some 31) (xLit 9 2 [.int .i64 0, .int .i64 0, .int .i64 0, .str ⟨#[]⟩, .int .i64 0, .int .i64 0, .str ⟨#[]⟩, .nils, .nils] [(0, (s.τ 28)), (1, (s.τ 30))] s.H) s <| .mk fun u4 =>
  @sOp (some 32) (xBuild [.int .i64 0, .int .i64 0, .int .i64 0, .str ⟨#[]⟩, .int .i64 0, .int .i64 0, .str ⟨#[]⟩, .nils, .nils] [(0, 1, (.int .i64 12)), (8, 1, (u4.τ 31))] u4.H) u4 <| .mk fun u5 =>
  @sCall0 P (.func 24 []) [(u5.τ 32)] (some 33) u5 ⟨W11_c7 P Φ⟩
def W11_b9 (P : Program) (Φ : Exit → St → Prop) (s : St) : Prop :=
  @sOp (some 28) (xLoad 9 true (s.τ 9) s.H) s <| .mk fun u1 =>
  @sOp (some 29) (xLoad 5 true (u1.τ 5) u1.H) u1 <| .mk fun u2 =>
  @sChk (compat (occ (s.τ 9), []) ([30] ++ (occ (.func 23 []) ++ occL [(u2.τ 29), (.int .i64 0)]), [30] ++ (occ (.func 23 []) ++ occL [(u2.τ 29), (.int .i64 0)]))) <| .mk <|
  @sCall0 P (.func 23 []) [(u2.τ 29), (.int .i64 0)] (some 30) u2 ⟨W11_c8 P Φ⟩
def W11_c10 (P : Program) (Φ : Exit → St → Prop) (s : St) : Prop :=
  @sOp (some 26) (xField 0 1 false (s.τ 25) s.H) s <| .mk fun s =>
  @sOp (some 27) (xBin .eql false (s.τ 26) (.int .i64 0) s.H) s <| .mk fun s =>
  @sIf (s.τ 27) ⟨W11_b3 P Φ s⟩ ⟨W11_b9 P Φ s⟩
def W11_c11 (P : Program) (Φ : Exit → St → Prop) (s : St) : Prop :=
  @sOp (some 9) (xAlloc 9 34 [.int .i64 0, .int .i64 0, .int .i64 0, .str ⟨#[]⟩, .int .i64 0, .int .i64 0, .str ⟨#[]⟩, .nils, .nils] s.H) s <| .mk fun s =>
  @sOp none (xStore 9 (s.τ 9) (s.τ 23) s.H) s <| .mk fun s =>
  @sOp (some 24) (xLoad 9 true (s.τ 9) s.H) s <| .mk fun s =>
  @sCall P (.func 22 []) [(s.τ 24)] (some 25) s ⟨W11_c10 P Φ⟩
def W11_b12 (P : Program) (Φ : Exit → St → Prop) (s : St) : Prop :=
  @sOp (some 21) (xLoad 5 true (s.τ 4) s.H) s <| .mk fun s =>
  @sOp (some 22) (xMov (s.τ 3) s.H) s <| .mk fun s =>
  @sCall P (.func 23 []) [(s.τ 21), (s.τ 22)] (some 23) s ⟨W11_c11 P Φ⟩
def W11_c13 (P : Program) (Φ : Exit → St → Prop) (s : St) : Prop :=
  @sOp (some 20) (xNot (s.τ 19) s.H) s <| .mk fun s =>
  @sIf (s.τ 20) ⟨W11_b2 P Φ s⟩ ⟨W11_b12 P Φ s⟩
def W11_b14 (P : Program) (Φ : Exit → St → Prop) (s : St) : Prop :=
  @sOp (some 14) (xLoad 5 true (s.τ 4) s.H) s <| .mk fun s =>
  @sOp (some 15) (xLoad 5 true (s.τ 5) s.H) s <| .mk fun s =>
  @sOp (some 16) (xLoad 5 true (s.τ 6) s.H) s <| .mk fun s =>
  @sOp (some 17) (xLit 5 3 [.int .i64 0, .int .i64 0, .int .i64 0, .nils, .nils] [(0, (s.τ 14)), (1, (s.τ 15)), (2, (s.τ 16))] s.H) s <| .mk fun s =>
  @sOp (some 18) (xBuild [.int .i64 0, .int .i64 0, .nils] [(2, 1, (s.τ 17))] s.H) s <| .mk fun s =>
  @sCall P (.func 21 []) [(s.τ 18)] (some 19) s ⟨W11_c13 P Φ⟩
def W11_c15 (P : Program) (Φ : Exit → St → Prop) (s : St) : Prop :=
  @sOp (some 13) (xNot (s.τ 12) s.H) s <| .mk fun s =>
  @sIf (s.τ 13) ⟨W11_b1 P Φ s⟩ ⟨W11_b14 P Φ s⟩
def W11 (P : Program) (Φ : Exit → St → Prop) (s : St) : Prop :=
  @sOp (some 4) (xBox 4 25 (s.τ 0) s.H) s <| .mk fun s =>
  @sOp (some 5) (xBox 5 25 (s.τ 1) s.H) s <| .mk fun s =>
  @sOp (some 6) (xBox 6 25 (s.τ 2) s.H) s <| .mk fun s =>
  @sOp (some 8) (xMov (.bool false) s.H) s <| .mk fun s =>
  @sCall P (.func 20 []) [] (some 12) s ⟨W11_c15 P Φ⟩
theorem W11_rs (τ : Nat → AV) (H : Heap) : resV Try.prog τ H [.tmp 8] = some (τ 8) := by kernel_rfl
theorem W11_eq (Φ : Exit → St → Prop) (s : St) : awp Try.prog (Try.f11.body.getD .skip) Φ s = W11 Try.prog Φ s := by kernel_rfl

-- 12 "penance/penancelaw5.TermAll"
def W12_b1 (P : Program) (Φ : Exit → St → Prop) (s : St) : Prop :=
  @sOp (some 10) (xMov (.bool false) s.H) s <| .mk fun s =>
  Φ .ret s
def W12_b2 (P : Program) (Φ : Exit → St → Prop) (s : St) : Prop :=
  @sOp (some 10) (xMov (.bool true) s.H) s <| .mk fun s =>
  Φ .ret s
def W12_c3 (P : Program) (Φ : Exit → St → Prop) (s : St) : Prop :=
  @sOp (some 89) (xPick (s.τ 83) (s.τ 88) (.bool false) s.H) s <| .mk fun u32 =>
  @sOp (some 10) (xMov (u32.τ 89) u32.H) u32 <| .mk fun s =>
  Φ .ret s
def W12_c4 (P : Program) (Φ : Exit → St → Prop) (s : St) : Prop :=
  @sGrd (guardOf (s.τ 83) true) (some 88) s ⟨fun s K => @sCall0 P (.func 27 []) [(s.τ 85), (s.τ 87)] (some 88) s ⟨K⟩⟩ ⟨W12_c3 P Φ⟩
def W12_c5 (P : Program) (Φ : Exit → St → Prop) (s : St) : Prop :=
  @sGrd (guardOf (s.τ 83) true) (some 87) s ⟨fun s K => @sCall0 P (.func 31 []) [(s.τ 86)] (some 87) s ⟨K⟩⟩ ⟨W12_c4 P Φ⟩
def W12_c6 (P : Program) (Φ : Exit → St → Prop) (u27 : St) (s : St) : Prop :=
  @sChk (compat ([85] ++ (occ (.func 41 []) ++ occL [(u27.τ 84)]), [85] ++ (occ (.func 41 []) ++ occL [(u27.τ 84)])) (occ (s.τ 11), [])) <| .mk <|
  @sGrd (guardOf (s.τ 83) true) (some 86) s ⟨fun s K => @sOp (some 86) (xLoad 9 true (s.τ 11) s.H) s ⟨K⟩⟩ ⟨W12_c5 P Φ⟩
def W12_c7 (P : Program) (Φ : Exit → St → Prop) (s : St) : Prop :=
  @sGrd (guardOf (s.τ 83) true) (some 85) s ⟨fun s K => @sCall0 P (.func 41 []) [(s.τ 84)] (some 85) s ⟨K⟩⟩ ⟨W12_c6 P Φ s⟩
def W12_c8 (P : Program) (Φ : Exit → St → Prop) (s : St) : Prop :=
  @sOp (some 82) (xPick (s.τ 76) (s.τ 81) (.bool false) s.H) s <| .mk fun u25 =>
  @sOp (some 83) (xMov (u25.τ 82) u25.H) u25 <| .mk fun u26 =>
  @sGrd (guardOf (u26.τ 83) true) (some 84) u26 ⟨fun s K => @sOp (some 84) (xLoad 9 true (s.τ 11) s.H) s ⟨K⟩⟩ ⟨W12_c7 P Φ⟩
def W12_c9 (P : Program) (Φ : Exit → St → Prop) (s : St) : Prop :=
  @sGrd (guardOf (s.τ 76) true) (some 81) s ⟨fun s K => @sCall0 P (.func 39 []) [(s.τ 78), (s.τ 80)] (some 81) s ⟨K⟩⟩ ⟨W12_c8 P Φ⟩
def W12_c10 (P : Program) (Φ : Exit → St → Prop) (s : St) : Prop :=
  @sGrd (guardOf (s.τ 76) true) (some 80) s ⟨fun s K => @sCall0 P (.func 22 []) [(s.τ 79)] (some 80) s ⟨K⟩⟩ ⟨W12_c9 P Φ⟩
def W12_c11 (P : Program) (Φ : Exit → St → Prop) (u20 : St) (s : St) : Prop :=
  @sChk (compat ([78] ++ (occ (.func 40 []) ++ occL [(u20.τ 77)]), [78] ++ (occ (.func 40 []) ++ occL [(u20.τ 77)])) (occ (s.τ 11), [])) <| .mk <|
  @sGrd (guardOf (s.τ 76) true) (some 79) s ⟨fun s K => @sOp (some 79) (xLoad 9 true (s.τ 11) s.H) s ⟨K⟩⟩ ⟨W12_c10 P Φ⟩
def W12_c12 (P : Program) (Φ : Exit → St → Prop) (s : St) : Prop :=
  @sGrd (guardOf (s.τ 76) true) (some 78) s ⟨fun s K => @sCall0 P (.func 40 []) [(s.τ 77)] (some 78) s ⟨K⟩⟩ ⟨W12_c11 P Φ s⟩
def W12_c13 (P : Program) (Φ : Exit → St → Prop) (s : St) : Prop :=
  @sOp (some 75) (xPick (s.τ 67) (s.τ 74) (.bool false) s.H) s <| .mk fun u18 =>
  @sOp (some 76) (xMov (u18.τ 75) u18.H) u18 <| .mk fun u19 =>
  @sGrd (guardOf (u19.τ 76) true) (some 77) u19 ⟨fun s K => @sOp (some 77) (xLoad 9 true (s.τ 11) s.H) s ⟨K⟩⟩ ⟨W12_c12 P Φ⟩
def W12_c14 (P : Program) (Φ : Exit → St → Prop) (s : St) : Prop :=
  @sGrd (guardOf (s.τ 67) true) (some 74) s ⟨fun s K => @sOp (some 74) (xBin .eql true (s.τ 70) (s.τ 73) s.H) s ⟨K⟩⟩ ⟨W12_c13 P Φ⟩
def W12_c15 (P : Program) (Φ : Exit → St → Prop) (s : St) : Prop :=
  @sGrd (guardOf (s.τ 67) true) (some 73) s ⟨fun s K => @sCall0 P (.func 39 []) [(s.τ 71), (s.τ 72)] (some 73) s ⟨K⟩⟩ ⟨W12_c14 P Φ⟩
def W12_c16 (P : Program) (Φ : Exit → St → Prop) (u12 : St) (s : St) : Prop :=
  @sChk (compat ([70] ++ (occ (.func 38 []) ++ occL [(u12.τ 68), (u12.τ 69)]), [70] ++ (occ (.func 38 []) ++ occL [(u12.τ 68), (u12.τ 69)])) (occ (s.τ 12), [])) <| .mk <|
  @sGrd (guardOf (s.τ 67) true) (some 72) s ⟨fun s K => @sOp (some 72) (xLoad 9 true (s.τ 12) s.H) s ⟨K⟩⟩ ⟨W12_c15 P Φ⟩
def W12_c17 (P : Program) (Φ : Exit → St → Prop) (u12 : St) (s : St) : Prop :=
  @sChk (compat ([70] ++ (occ (.func 38 []) ++ occL [(u12.τ 68), (u12.τ 69)]), [70] ++ (occ (.func 38 []) ++ occL [(u12.τ 68), (u12.τ 69)])) (occ (s.τ 11), [])) <| .mk <|
  @sGrd (guardOf (s.τ 67) true) (some 71) s ⟨fun s K => @sOp (some 71) (xLoad 9 true (s.τ 11) s.H) s ⟨K⟩⟩ ⟨W12_c16 P Φ u12⟩
def W12_c18 (P : Program) (Φ : Exit → St → Prop) (s : St) : Prop :=
  @sGrd (guardOf (s.τ 67) true) (some 70) s ⟨fun s K => @sCall0 P (.func 38 []) [(s.τ 68), (s.τ 69)] (some 70) s ⟨K⟩⟩ ⟨W12_c17 P Φ s⟩
def W12_c19 (P : Program) (Φ : Exit → St → Prop) (s : St) : Prop :=
  @sGrd (guardOf (s.τ 67) true) (some 69) s ⟨fun s K => @sOp (some 69) (xLoad 9 true (s.τ 12) s.H) s ⟨K⟩⟩ ⟨W12_c18 P Φ⟩
def W12_c20 (P : Program) (Φ : Exit → St → Prop) (s : St) : Prop :=
  @sOp (some 66) (xPick (s.τ 60) (s.τ 65) (.bool false) s.H) s <| .mk fun u9 =>
  @sOp (some 67) (xMov (u9.τ 66) u9.H) u9 <| .mk fun u10 =>
  @sGrd (guardOf (u10.τ 67) true) (some 68) u10 ⟨fun s K => @sOp (some 68) (xLoad 9 true (s.τ 11) s.H) s ⟨K⟩⟩ ⟨W12_c19 P Φ⟩
def W12_c21 (P : Program) (Φ : Exit → St → Prop) (s : St) : Prop :=
  @sGrd (guardOf (s.τ 60) true) (some 65) s ⟨fun s K => @sOp (some 65) (xBin .eql false (s.τ 62) (s.τ 64) s.H) s ⟨K⟩⟩ ⟨W12_c20 P Φ⟩
def W12_c22 (P : Program) (Φ : Exit → St → Prop) (s : St) : Prop :=
  @sGrd (guardOf (s.τ 60) true) (some 64) s ⟨fun s K => @sCall0 P (.func 37 []) [(s.τ 63)] (some 64) s ⟨K⟩⟩ ⟨W12_c21 P Φ⟩
def W12_c23 (P : Program) (Φ : Exit → St → Prop) (u4 : St) (s : St) : Prop :=
  @sChk (compat ([62] ++ (occ (.func 36 []) ++ occL [(u4.τ 61)]), [62] ++ (occ (.func 36 []) ++ occL [(u4.τ 61)])) (occ (s.τ 11), [])) <| .mk <|
  @sGrd (guardOf (s.τ 60) true) (some 63) s ⟨fun s K => @sOp (some 63) (xLoad 9 true (s.τ 11) s.H) s ⟨K⟩⟩ ⟨W12_c22 P Φ⟩
def W12_c24 (P : Program) (Φ : Exit → St → Prop) (s : St) : Prop :=
  @sGrd (guardOf (s.τ 60) true) (some 62) s ⟨fun s K => @sCall0 P (.func 36 []) [(s.τ 61)] (some 62) s ⟨K⟩⟩ ⟨W12_c23 P Φ s⟩
def W12_c25 (P : Program) (Φ : Exit → St → Prop) (s : St) : Prop :=
  @sOp (some 60) (xMov (s.τ 59) s.H) s <| .mk fun u3 =>
  @sGrd (guardOf (u3.τ 60) true) (some 61) u3 ⟨fun s K => @sOp (some 61) (xLoad 9 true (s.τ 11) s.H) s ⟨K⟩⟩ ⟨W12_c24 P Φ⟩
def W12_k26 (P : Program) (Φ : Exit → St → Prop) (s : St) : Prop :=
  @sOp (some 58) (xLoad 9 true (s.τ 11) s.H) s <| .mk fun u1 =>
  @sCall0 P (.func 34 []) [(u1.τ 58), (.int .i64 3), (.int .i64 2), (.int .i64 5)] (some 59) u1 ⟨W12_c25 P Φ⟩
def W12_b27 (P : Program) (Φ : Exit → St → Prop) (L0 : St → Prop) (s : St) : Prop :=
  @sOp (some 10) (xMov (.bool false) s.H) s <| .mk fun s =>
  Φ .ret s
def W12_b28 (P : Program) (Φ : Exit → St → Prop) (L0 : St → Prop) (s : St) : Prop :=
  @sOp (some 31) (xMov (s.τ 13) s.H) s <| .mk fun s =>
  @sOp (some 32) (xBin .add false (s.τ 31) (.int .i64 1) s.H) s <| .mk fun s =>
  @sOp (some 13) (xMov (s.τ 32) s.H) s <| .mk fun s =>
  L0 s
def W12_c29 (P : Program) (Φ : Exit → St → Prop) (L0 : St → Prop) (s : St) : Prop :=
  @sOp (some 57) (xPick (s.τ 49) (.bool true) (s.τ 56) s.H) s <| .mk fun s =>
  @sIf (s.τ 57) ⟨W12_b27 P Φ L0 s⟩ ⟨W12_b28 P Φ L0 s⟩
def W12_c30 (P : Program) (Φ : Exit → St → Prop) (L0 : St → Prop) (s : St) : Prop :=
  @sGrd (guardOf (s.τ 49) false) (some 56) s ⟨fun s K => @sOp (some 56) (xBin .neq true (s.τ 52) (s.τ 55) s.H) s ⟨K⟩⟩ ⟨W12_c29 P Φ L0⟩
def W12_c31 (P : Program) (Φ : Exit → St → Prop) (L0 : St → Prop) (s : St) : Prop :=
  @sGrd (guardOf (s.τ 49) false) (some 55) s ⟨fun s K => @sCall0 P (.func 35 []) [(s.τ 53), (.int .i64 3), (.int .i64 2), (s.τ 54)] (some 55) s ⟨K⟩⟩ ⟨W12_c30 P Φ L0⟩
def W12_c32 (P : Program) (Φ : Exit → St → Prop) (L0 : St → Prop) (s : St) : Prop :=
  @sGrd (guardOf (s.τ 49) false) (some 54) s ⟨fun s K => @sOp (some 54) (xMov (s.τ 13) s.H) s ⟨K⟩⟩ ⟨W12_c31 P Φ L0⟩
def W12_c33 (P : Program) (Φ : Exit → St → Prop) (L0 : St → Prop) (u19 : St) (s : St) : Prop :=
  @sChk (compat ([52] ++ (occ (.func 34 []) ++ occL [(u19.τ 50), (.int .i64 3), (.int .i64 2), (u19.τ 51)]), [52] ++ (occ (.func 34 []) ++ occL [(u19.τ 50), (.int .i64 3), (.int .i64 2), (u19.τ 51)])) (occ (s.τ 11), [])) <| .mk <|
  @sGrd (guardOf (s.τ 49) false) (some 53) s ⟨fun s K => @sOp (some 53) (xLoad 9 true (s.τ 11) s.H) s ⟨K⟩⟩ ⟨W12_c32 P Φ L0⟩
def W12_c34 (P : Program) (Φ : Exit → St → Prop) (L0 : St → Prop) (s : St) : Prop :=
  @sGrd (guardOf (s.τ 49) false) (some 52) s ⟨fun s K => @sCall0 P (.func 34 []) [(s.τ 50), (.int .i64 3), (.int .i64 2), (s.τ 51)] (some 52) s ⟨K⟩⟩ ⟨W12_c33 P Φ L0 s⟩
def W12_c35 (P : Program) (Φ : Exit → St → Prop) (L0 : St → Prop) (s : St) : Prop :=
  @sGrd (guardOf (s.τ 49) false) (some 51) s ⟨fun s K => @sOp (some 51) (xMov (s.τ 13) s.H) s ⟨K⟩⟩ ⟨W12_c34 P Φ L0⟩
def W12_c36 (P : Program) (Φ : Exit → St → Prop) (L0 : St → Prop) (s : St) : Prop :=
  @sOp (some 48) (xPick (s.τ 40) (.bool true) (s.τ 47) s.H) s <| .mk fun u16 =>
  @sOp (some 49) (xMov (u16.τ 48) u16.H) u16 <| .mk fun u17 =>
  @sGrd (guardOf (u17.τ 49) false) (some 50) u17 ⟨fun s K => @sOp (some 50) (xLoad 9 true (s.τ 11) s.H) s ⟨K⟩⟩ ⟨W12_c35 P Φ L0⟩
def W12_c37 (P : Program) (Φ : Exit → St → Prop) (L0 : St → Prop) (s : St) : Prop :=
  @sGrd (guardOf (s.τ 40) false) (some 47) s ⟨fun s K => @sOp (some 47) (xBin .neq true (s.τ 43) (s.τ 46) s.H) s ⟨K⟩⟩ ⟨W12_c36 P Φ L0⟩
def W12_c38 (P : Program) (Φ : Exit → St → Prop) (L0 : St → Prop) (s : St) : Prop :=
  @sGrd (guardOf (s.τ 40) false) (some 46) s ⟨fun s K => @sCall0 P (.func 35 []) [(s.τ 44), (.int .i64 3), (s.τ 45), (.int .i64 5)] (some 46) s ⟨K⟩⟩ ⟨W12_c37 P Φ L0⟩
def W12_c39 (P : Program) (Φ : Exit → St → Prop) (L0 : St → Prop) (s : St) : Prop :=
  @sGrd (guardOf (s.τ 40) false) (some 45) s ⟨fun s K => @sOp (some 45) (xMov (s.τ 13) s.H) s ⟨K⟩⟩ ⟨W12_c38 P Φ L0⟩
def W12_c40 (P : Program) (Φ : Exit → St → Prop) (L0 : St → Prop) (u10 : St) (s : St) : Prop :=
  @sChk (compat ([43] ++ (occ (.func 34 []) ++ occL [(u10.τ 41), (.int .i64 3), (u10.τ 42), (.int .i64 5)]), [43] ++ (occ (.func 34 []) ++ occL [(u10.τ 41), (.int .i64 3), (u10.τ 42), (.int .i64 5)])) (occ (s.τ 11), [])) <| .mk <|
  @sGrd (guardOf (s.τ 40) false) (some 44) s ⟨fun s K => @sOp (some 44) (xLoad 9 true (s.τ 11) s.H) s ⟨K⟩⟩ ⟨W12_c39 P Φ L0⟩
def W12_c41 (P : Program) (Φ : Exit → St → Prop) (L0 : St → Prop) (s : St) : Prop :=
  @sGrd (guardOf (s.τ 40) false) (some 43) s ⟨fun s K => @sCall0 P (.func 34 []) [(s.τ 41), (.int .i64 3), (s.τ 42), (.int .i64 5)] (some 43) s ⟨K⟩⟩ ⟨W12_c40 P Φ L0 s⟩
def W12_c42 (P : Program) (Φ : Exit → St → Prop) (L0 : St → Prop) (s : St) : Prop :=
  @sGrd (guardOf (s.τ 40) false) (some 42) s ⟨fun s K => @sOp (some 42) (xMov (s.τ 13) s.H) s ⟨K⟩⟩ ⟨W12_c41 P Φ L0⟩
def W12_c43 (P : Program) (Φ : Exit → St → Prop) (L0 : St → Prop) (s : St) : Prop :=
  @sOp (some 39) (xBin .neq true (s.τ 35) (s.τ 38) s.H) s <| .mk fun u7 =>
  @sOp (some 40) (xMov (u7.τ 39) u7.H) u7 <| .mk fun u8 =>
  @sGrd (guardOf (u8.τ 40) false) (some 41) u8 ⟨fun s K => @sOp (some 41) (xLoad 9 true (s.τ 11) s.H) s ⟨K⟩⟩ ⟨W12_c42 P Φ L0⟩
def W12_c44 (P : Program) (Φ : Exit → St → Prop) (L0 : St → Prop) (u2 : St) (s : St) : Prop :=
  @sChk (compat ([35] ++ (occ (.func 34 []) ++ occL [(u2.τ 33), (u2.τ 34), (.int .i64 2), (.int .i64 5)]), [35] ++ (occ (.func 34 []) ++ occL [(u2.τ 33), (u2.τ 34), (.int .i64 2), (.int .i64 5)])) (occ (s.τ 12), [])) <| .mk <|
  @sOp (some 36) (xLoad 9 true (s.τ 12) s.H) s <| .mk fun u4 =>
  @sOp (some 37) (xMov (u4.τ 13) u4.H) u4 <| .mk fun u5 =>
  @sCall0 P (.func 35 []) [(u5.τ 36), (u5.τ 37), (.int .i64 2), (.int .i64 5)] (some 38) u5 ⟨W12_c43 P Φ L0⟩
def W12_b45 (P : Program) (Φ : Exit → St → Prop) (L0 : St → Prop) (s : St) : Prop :=
  @sOp (some 33) (xLoad 9 true (s.τ 12) s.H) s <| .mk fun u1 =>
  @sOp (some 34) (xMov (u1.τ 13) u1.H) u1 <| .mk fun u2 =>
  @sCall0 P (.func 34 []) [(u2.τ 33), (u2.τ 34), (.int .i64 2), (.int .i64 5)] (some 35) u2 ⟨W12_c44 P Φ L0 u2⟩
def W12_l46 (P : Program) (Φ : Exit → St → Prop) (L0 : St → Prop) (s : St) : Prop :=
  @sOp (some 29) (xMov (s.τ 13) s.H) s <| .mk fun s =>
  @sOp (some 30) (xBin .lss false (s.τ 29) (.int .i64 4) s.H) s <| .mk fun s =>
  @sIf (s.τ 30) ⟨W12_b45 P Φ L0 s⟩ ⟨W12_k26 P Φ s⟩
def W12_c47 (P : Program) (Φ : Exit → St → Prop) (s : St) : Prop :=
  @sOp (some 12) (xAlloc 12 34 [.int .i64 0, .int .i64 0, .int .i64 0, .str ⟨#[]⟩, .int .i64 0, .int .i64 0, .str ⟨#[]⟩, .nils, .nils] s.H) s <| .mk fun s =>
  @sOp none (xStore 9 (s.τ 12) (s.τ 28) s.H) s <| .mk fun s =>
  @sOp (some 13) (xMov (.int .i64 0) s.H) s <| .mk fun s =>
  @sLoop s ⟨fun L0 s => W12_l46 P Φ L0 s⟩
def W12_c48 (P : Program) (Φ : Exit → St → Prop) (s : St) : Prop :=
  @sOp (some 11) (xAlloc 11 34 [.int .i64 0, .int .i64 0, .int .i64 0, .str ⟨#[]⟩, .int .i64 0, .int .i64 0, .str ⟨#[]⟩, .nils, .nils] s.H) s <| .mk fun s =>
  @sOp none (xStore 9 (s.τ 11) (s.τ 23) s.H) s <| .mk fun s =>
  @sOp (some 24) (xLoad 9 true (s.τ 11) s.H) s <| .mk fun s =>
  @sOp (some 25) (xMov (s.τ 2) s.H) s <| .mk fun s =>
  @sOp (some 26) (xMov (s.τ 3) s.H) s <| .mk fun s =>
  @sOp (some 27) (xMov (s.τ 4) s.H) s <| .mk fun s =>
  @sCall P (.func 33 []) [(s.τ 24), (s.τ 25), (s.τ 26), (s.τ 27)] (some 28) s ⟨W12_c47 P Φ⟩
def W12_b49 (P : Program) (Φ : Exit → St → Prop) (s : St) : Prop :=
  @sOp (some 21) (xLoad 5 true (s.τ 5) s.H) s <| .mk fun s =>
  @sOp (some 22) (xMov (s.τ 1) s.H) s <| .mk fun s =>
  @sCall P (.func 23 []) [(s.τ 21), (s.τ 22)] (some 23) s ⟨W12_c48 P Φ⟩
def W12_c50 (P : Program) (Φ : Exit → St → Prop) (s : St) : Prop :=
  @sOp (some 20) (xNot (s.τ 19) s.H) s <| .mk fun s =>
  @sIf (s.τ 20) ⟨W12_b2 P Φ s⟩ ⟨W12_b49 P Φ s⟩
def W12_b51 (P : Program) (Φ : Exit → St → Prop) (s : St) : Prop :=
  @sOp (some 16) (xLoad 5 true (s.τ 5) s.H) s <| .mk fun s =>
  @sOp (some 17) (xLit 5 1 [.int .i64 0, .int .i64 0, .int .i64 0, .nils, .nils] [(0, (s.τ 16))] s.H) s <| .mk fun s =>
  @sOp (some 18) (xBuild [.int .i64 0, .int .i64 0, .nils] [(2, 1, (s.τ 17))] s.H) s <| .mk fun s =>
  @sCall P (.func 21 []) [(s.τ 18)] (some 19) s ⟨W12_c50 P Φ⟩
def W12_c52 (P : Program) (Φ : Exit → St → Prop) (s : St) : Prop :=
  @sOp (some 15) (xNot (s.τ 14) s.H) s <| .mk fun s =>
  @sIf (s.τ 15) ⟨W12_b1 P Φ s⟩ ⟨W12_b51 P Φ s⟩
def W12 (P : Program) (Φ : Exit → St → Prop) (s : St) : Prop :=
  @sOp (some 5) (xBox 5 25 (s.τ 0) s.H) s <| .mk fun s =>
  @sOp (some 10) (xMov (.bool false) s.H) s <| .mk fun s =>
  @sCall P (.func 32 []) [] (some 14) s ⟨W12_c52 P Φ⟩
theorem W12_rs (τ : Nat → AV) (H : Heap) : resV Try.prog τ H [.tmp 10] = some (τ 10) := by kernel_rfl
theorem W12_eq (Φ : Exit → St → Prop) (s : St) : awp Try.prog (Try.f12.body.getD .skip) Φ s = W12 Try.prog Φ s := by kernel_rfl

-- 13 "penance/penancelaw5.TermRaw"
def W13_b1 (P : Program) (Φ : Exit → St → Prop) (s : St) : Prop :=
  @sOp (some 2) (xMov (.bool false) s.H) s <| .mk fun s =>
  Φ .ret s
def W13_b2 (P : Program) (Φ : Exit → St → Prop) (s : St) : Prop :=
  @sOp (some 2) (xMov (.bool true) s.H) s <| .mk fun s =>
  Φ .ret s
def W13_c3 (P : Program) (Φ : Exit → St → Prop) (s : St) : Prop :=
  @sOp (some 17) (xPick (s.τ 13) (s.τ 16) (.bool false) s.H) s <| .mk fun u10 =>
  @sOp (some 2) (xMov (u10.τ 17) u10.H) u10 <| .mk fun s =>
  Φ .ret s
def W13_c4 (P : Program) (Φ : Exit → St → Prop) (s : St) : Prop :=
  @sGrd (guardOf (s.τ 13) true) (some 16) s ⟨fun s K => @sCall0 P (.func 38 []) [(s.τ 14), (s.τ 15)] (some 16) s ⟨K⟩⟩ ⟨W13_c3 P Φ⟩
def W13_c5 (P : Program) (Φ : Exit → St → Prop) (s : St) : Prop :=
  @sGrd (guardOf (s.τ 13) true) (some 15) s ⟨fun s K => @sOp (some 15) (xLoad 9 true (s.τ 1) s.H) s ⟨K⟩⟩ ⟨W13_c4 P Φ⟩
def W13_c6 (P : Program) (Φ : Exit → St → Prop) (s : St) : Prop :=
  @sOp (some 12) (xBin .eql true (s.τ 9) (s.τ 11) s.H) s <| .mk fun u5 =>
  @sOp (some 13) (xMov (u5.τ 12) u5.H) u5 <| .mk fun u6 =>
  @sGrd (guardOf (u6.τ 13) true) (some 14) u6 ⟨fun s K => @sOp (some 14) (xLoad 9 true (s.τ 1) s.H) s ⟨K⟩⟩ ⟨W13_c5 P Φ⟩
def W13_c7 (P : Program) (Φ : Exit → St → Prop) (u1 : St) (s : St) : Prop :=
  @sChk (compat ([9] ++ (occ (.func 34 []) ++ occL [(u1.τ 8), (.int .i64 3), (.int .i64 2), (.int .i64 5)]), [9] ++ (occ (.func 34 []) ++ occL [(u1.τ 8), (.int .i64 3), (.int .i64 2), (.int .i64 5)])) (occ (s.τ 1), [])) <| .mk <|
  @sOp (some 10) (xLoad 9 true (s.τ 1) s.H) s <| .mk fun u3 =>
  @sCall0 P (.func 35 []) [(u3.τ 10), (.int .i64 3), (.int .i64 2), (.int .i64 5)] (some 11) u3 ⟨W13_c6 P Φ⟩
def W13_b8 (P : Program) (Φ : Exit → St → Prop) (s : St) : Prop :=
  @sOp (some 8) (xLoad 9 true (s.τ 1) s.H) s <| .mk fun u1 =>
  @sCall0 P (.func 34 []) [(u1.τ 8), (.int .i64 3), (.int .i64 2), (.int .i64 5)] (some 9) u1 ⟨W13_c7 P Φ u1⟩
def W13_c9 (P : Program) (Φ : Exit → St → Prop) (s : St) : Prop :=
  @sOp (some 7) (xNot (s.τ 6) s.H) s <| .mk fun s =>
  @sIf (s.τ 7) ⟨W13_b2 P Φ s⟩ ⟨W13_b8 P Φ s⟩
def W13_b10 (P : Program) (Φ : Exit → St → Prop) (s : St) : Prop :=
  @sOp (some 5) (xLoad 9 true (s.τ 1) s.H) s <| .mk fun s =>
  @sCall P (.func 42 []) [(s.τ 5), (.int .i64 0)] (some 6) s ⟨W13_c9 P Φ⟩
def W13_c11 (P : Program) (Φ : Exit → St → Prop) (s : St) : Prop :=
  @sOp (some 4) (xNot (s.τ 3) s.H) s <| .mk fun s =>
  @sIf (s.τ 4) ⟨W13_b1 P Φ s⟩ ⟨W13_b10 P Φ s⟩
def W13 (P : Program) (Φ : Exit → St → Prop) (s : St) : Prop :=
  @sOp (some 1) (xBox 1 34 (s.τ 0) s.H) s <| .mk fun s =>
  @sOp (some 2) (xMov (.bool false) s.H) s <| .mk fun s =>
  @sCall P (.func 32 []) [] (some 3) s ⟨W13_c11 P Φ⟩
theorem W13_rs (τ : Nat → AV) (H : Heap) : resV Try.prog τ H [.tmp 2] = some (τ 2) := by kernel_rfl
theorem W13_eq (Φ : Exit → St → Prop) (s : St) : awp Try.prog (Try.f13.body.getD .skip) Φ s = W13 Try.prog Φ s := by kernel_rfl

-- 14 "penance/penancelaw5.TermNorms"
def W14_b1 (P : Program) (Φ : Exit → St → Prop) (s : St) : Prop :=
  @sOp (some 4) (xMov (.bool false) s.H) s <| .mk fun s =>
  Φ .ret s
def W14_b2 (P : Program) (Φ : Exit → St → Prop) (s : St) : Prop :=
  @sOp (some 4) (xMov (.bool true) s.H) s <| .mk fun s =>
  Φ .ret s
def W14_b3 (P : Program) (Φ : Exit → St → Prop) (s : St) : Prop :=
  @sOp (some 4) (xMov (.bool false) s.H) s <| .mk fun s =>
  Φ .ret s
def W14_b4 (P : Program) (Φ : Exit → St → Prop) (s : St) : Prop :=
  @sOp (some 65) (xFld 0 (s.τ 10) s.H) s <| .mk fun s =>
  @sOp (some 66) (xLoad 1 false (s.τ 65) s.H) s <| .mk fun s =>
  @sOp (some 67) (xBin .eql false (s.τ 66) (.int .i64 0) s.H) s <| .mk fun s =>
  @sOp (some 4) (xMov (s.τ 67) s.H) s <| .mk fun s =>
  Φ .ret s
def W14_c5 (P : Program) (Φ : Exit → St → Prop) (s : St) : Prop :=
  @sOp (some 88) (xPick (s.τ 85) (s.τ 87) (.bool false) s.H) s <| .mk fun s =>
  @sOp (some 4) (xMov (s.τ 88) s.H) s <| .mk fun s =>
  Φ .ret s
def W14_c6 (P : Program) (Φ : Exit → St → Prop) (s : St) : Prop :=
  @sGrd (guardOf (s.τ 85) true) (some 87) s ⟨fun s K => @sCall0 P (.func 34 []) [(s.τ 86), (.int .i64 3), (.int .i64 2), (.int .i64 5)] (some 87) s ⟨K⟩⟩ ⟨W14_c5 P Φ⟩
def W14_c7 (P : Program) (Φ : Exit → St → Prop) (s : St) : Prop :=
  @sOp (some 84) (xPick (s.τ 77) (s.τ 83) (.bool false) s.H) s <| .mk fun s =>
  @sOp (some 85) (xMov (s.τ 84) s.H) s <| .mk fun s =>
  @sGrd (guardOf (s.τ 85) true) (some 86) s ⟨fun s K => @sOp (some 86) (xLoad 9 true (s.τ 6) s.H) s ⟨K⟩⟩ ⟨W14_c6 P Φ⟩
def W14_c8 (P : Program) (Φ : Exit → St → Prop) (s : St) : Prop :=
  @sGrd (guardOf (s.τ 77) true) (some 83) s ⟨fun s K => @sCall0 P (.func 39 []) [(s.τ 81), (s.τ 82)] (some 83) s ⟨K⟩⟩ ⟨W14_c7 P Φ⟩
def W14_c9 (P : Program) (Φ : Exit → St → Prop) (s : St) : Prop :=
  @sGrd (guardOf (s.τ 77) true) (some 82) s ⟨fun s K => @sOp (some 82) (xLoad 9 true (s.τ 6) s.H) s ⟨K⟩⟩ ⟨W14_c8 P Φ⟩
def W14_c10 (P : Program) (Φ : Exit → St → Prop) (s : St) : Prop :=
  @sGrd (guardOf (s.τ 77) true) (some 81) s ⟨fun s K => @sOp (some 81) (xLoad 9 true (s.τ 80) s.H) s ⟨K⟩⟩ ⟨W14_c9 P Φ⟩
def W14_c11 (P : Program) (Φ : Exit → St → Prop) (s : St) : Prop :=
  @sGrd (guardOf (s.τ 77) true) (some 80) s ⟨fun s K => @sOp (some 80) (xIx 9 (s.τ 79) (.int .i64 0) s.H) s ⟨K⟩⟩ ⟨W14_c10 P Φ⟩
def W14_c12 (P : Program) (Φ : Exit → St → Prop) (s : St) : Prop :=
  @sGrd (guardOf (s.τ 77) true) (some 79) s ⟨fun s K => @sOp (some 79) (xLoad 1 false (s.τ 78) s.H) s ⟨K⟩⟩ ⟨W14_c11 P Φ⟩
def W14_c13 (P : Program) (Φ : Exit → St → Prop) (s : St) : Prop :=
  @sOp (some 76) (xPick (s.τ 71) (s.τ 75) (.bool false) s.H) s <| .mk fun s =>
  @sOp (some 77) (xMov (s.τ 76) s.H) s <| .mk fun s =>
  @sGrd (guardOf (s.τ 77) true) (some 78) s ⟨fun s K => @sOp (some 78) (xFld 8 (s.τ 10) s.H) s ⟨K⟩⟩ ⟨W14_c12 P Φ⟩
def W14_c14 (P : Program) (Φ : Exit → St → Prop) (s : St) : Prop :=
  @sGrd (guardOf (s.τ 71) true) (some 75) s ⟨fun s K => @sOp (some 75) (xBin .eql false (s.τ 74) (.int .i64 1) s.H) s ⟨K⟩⟩ ⟨W14_c13 P Φ⟩
def W14_c15 (P : Program) (Φ : Exit → St → Prop) (s : St) : Prop :=
  @sGrd (guardOf (s.τ 71) true) (some 74) s ⟨fun s K => @sOp (some 74) (xLen (s.τ 73) s.H) s ⟨K⟩⟩ ⟨W14_c14 P Φ⟩
def W14_c16 (P : Program) (Φ : Exit → St → Prop) (s : St) : Prop :=
  @sGrd (guardOf (s.τ 71) true) (some 73) s ⟨fun s K => @sOp (some 73) (xLoad 1 false (s.τ 72) s.H) s ⟨K⟩⟩ ⟨W14_c15 P Φ⟩
def W14_b17 (P : Program) (Φ : Exit → St → Prop) (s : St) : Prop :=
  @sOp (some 68) (xFld 0 (s.τ 10) s.H) s <| .mk fun s =>
  @sOp (some 69) (xLoad 1 false (s.τ 68) s.H) s <| .mk fun s =>
  @sOp (some 70) (xBin .eql false (s.τ 69) (.int .i64 7) s.H) s <| .mk fun s =>
  @sOp (some 71) (xMov (s.τ 70) s.H) s <| .mk fun s =>
  @sGrd (guardOf (s.τ 71) true) (some 72) s ⟨fun s K => @sOp (some 72) (xFld 8 (s.τ 10) s.H) s ⟨K⟩⟩ ⟨W14_c16 P Φ⟩
def W14_c18 (P : Program) (Φ : Exit → St → Prop) (s : St) : Prop :=
  @sOp (some 10) (xAlloc 10 34 [.int .i64 0, .int .i64 0, .int .i64 0, .str ⟨#[]⟩, .int .i64 0, .int .i64 0, .str ⟨#[]⟩, .nils, .nils] s.H) s <| .mk fun s =>
  @sOp none (xStore 9 (s.τ 10) (s.τ 61) s.H) s <| .mk fun s =>
  @sOp (some 62) (xFld 0 (s.τ 6) s.H) s <| .mk fun s =>
  @sOp (some 63) (xLoad 1 false (s.τ 62) s.H) s <| .mk fun s =>
  @sOp (some 64) (xBin .eql false (s.τ 63) (.int .i64 0) s.H) s <| .mk fun s =>
  @sIf (s.τ 64) ⟨W14_b4 P Φ s⟩ ⟨W14_b17 P Φ s⟩
def W14_b19 (P : Program) (Φ : Exit → St → Prop) (s : St) : Prop :=
  @sOp (some 60) (xLoad 9 true (s.τ 8) s.H) s <| .mk fun s =>
  @sCall P (.func 40 []) [(s.τ 60)] (some 61) s ⟨W14_c18 P Φ⟩
def W14_c20 (P : Program) (Φ : Exit → St → Prop) (s : St) : Prop :=
  @sOp (some 59) (xPick (s.τ 53) (.bool true) (s.τ 58) s.H) s <| .mk fun s =>
  @sIf (s.τ 59) ⟨W14_b3 P Φ s⟩ ⟨W14_b19 P Φ s⟩
def W14_c21 (P : Program) (Φ : Exit → St → Prop) (s : St) : Prop :=
  @sGrd (guardOf (s.τ 53) false) (some 58) s ⟨fun s K => @sOp (some 58) (xNot (s.τ 57) s.H) s ⟨K⟩⟩ ⟨W14_c20 P Φ⟩
def W14_c22 (P : Program) (Φ : Exit → St → Prop) (s : St) : Prop :=
  @sGrd (guardOf (s.τ 53) false) (some 57) s ⟨fun s K => @sCall0 P (.func 39 []) [(s.τ 55), (s.τ 56)] (some 57) s ⟨K⟩⟩ ⟨W14_c21 P Φ⟩
def W14_c23 (P : Program) (Φ : Exit → St → Prop) (s : St) : Prop :=
  @sGrd (guardOf (s.τ 53) false) (some 56) s ⟨fun s K => @sOp (some 56) (xBuild [.int .i64 0, .int .i64 0, .int .i64 0, .str ⟨#[]⟩, .int .i64 0, .int .i64 0, .str ⟨#[]⟩, .nils, .nils] [] s.H) s ⟨K⟩⟩ ⟨W14_c22 P Φ⟩
def W14_c24 (P : Program) (Φ : Exit → St → Prop) (s : St) : Prop :=
  @sGrd (guardOf (s.τ 53) false) (some 55) s ⟨fun s K => @sCall0 P (.func 40 []) [(s.τ 54)] (some 55) s ⟨K⟩⟩ ⟨W14_c23 P Φ⟩
def W14_c25 (P : Program) (Φ : Exit → St → Prop) (s : St) : Prop :=
  @sOp (some 52) (xPick (s.τ 46) (.bool true) (s.τ 51) s.H) s <| .mk fun u19 =>
  @sOp (some 53) (xMov (u19.τ 52) u19.H) u19 <| .mk fun u20 =>
  @sGrd (guardOf (u20.τ 53) false) (some 54) u20 ⟨fun s K => @sOp (some 54) (xLoad 9 true (s.τ 9) s.H) s ⟨K⟩⟩ ⟨W14_c24 P Φ⟩
def W14_c26 (P : Program) (Φ : Exit → St → Prop) (s : St) : Prop :=
  @sGrd (guardOf (s.τ 46) false) (some 51) s ⟨fun s K => @sOp (some 51) (xNot (s.τ 50) s.H) s ⟨K⟩⟩ ⟨W14_c25 P Φ⟩
def W14_c27 (P : Program) (Φ : Exit → St → Prop) (s : St) : Prop :=
  @sGrd (guardOf (s.τ 46) false) (some 50) s ⟨fun s K => @sCall0 P (.func 39 []) [(s.τ 48), (s.τ 49)] (some 50) s ⟨K⟩⟩ ⟨W14_c26 P Φ⟩
def W14_c28 (P : Program) (Φ : Exit → St → Prop) (u14 : St) (s : St) : Prop :=
  @sChk (compat ([48] ++ (occ (.func 40 []) ++ occL [(u14.τ 47)]), [48] ++ (occ (.func 40 []) ++ occL [(u14.τ 47)])) (occ (s.τ 6), [])) <| .mk <|
  @sGrd (guardOf (s.τ 46) false) (some 49) s ⟨fun s K => @sOp (some 49) (xLoad 9 true (s.τ 6) s.H) s ⟨K⟩⟩ ⟨W14_c27 P Φ⟩
def W14_c29 (P : Program) (Φ : Exit → St → Prop) (s : St) : Prop :=
  @sGrd (guardOf (s.τ 46) false) (some 48) s ⟨fun s K => @sCall0 P (.func 40 []) [(s.τ 47)] (some 48) s ⟨K⟩⟩ ⟨W14_c28 P Φ s⟩
def W14_c30 (P : Program) (Φ : Exit → St → Prop) (s : St) : Prop :=
  @sOp (some 45) (xPick (s.τ 39) (.bool true) (s.τ 44) s.H) s <| .mk fun u12 =>
  @sOp (some 46) (xMov (u12.τ 45) u12.H) u12 <| .mk fun u13 =>
  @sGrd (guardOf (u13.τ 46) false) (some 47) u13 ⟨fun s K => @sOp (some 47) (xLoad 9 true (s.τ 7) s.H) s ⟨K⟩⟩ ⟨W14_c29 P Φ⟩
def W14_c31 (P : Program) (Φ : Exit → St → Prop) (s : St) : Prop :=
  @sGrd (guardOf (s.τ 39) false) (some 44) s ⟨fun s K => @sOp (some 44) (xBin .gtr false (s.τ 41) (s.τ 43) s.H) s ⟨K⟩⟩ ⟨W14_c30 P Φ⟩
def W14_c32 (P : Program) (Φ : Exit → St → Prop) (s : St) : Prop :=
  @sGrd (guardOf (s.τ 39) false) (some 43) s ⟨fun s K => @sCall0 P (.func 36 []) [(s.τ 42)] (some 43) s ⟨K⟩⟩ ⟨W14_c31 P Φ⟩
def W14_c33 (P : Program) (Φ : Exit → St → Prop) (u7 : St) (s : St) : Prop :=
  @sChk (compat ([41] ++ (occ (.func 36 []) ++ occL [(u7.τ 40)]), [41] ++ (occ (.func 36 []) ++ occL [(u7.τ 40)])) (occ (s.τ 5), [])) <| .mk <|
  @sGrd (guardOf (s.τ 39) false) (some 42) s ⟨fun s K => @sOp (some 42) (xLoad 9 true (s.τ 5) s.H) s ⟨K⟩⟩ ⟨W14_c32 P Φ⟩
def W14_c34 (P : Program) (Φ : Exit → St → Prop) (s : St) : Prop :=
  @sGrd (guardOf (s.τ 39) false) (some 41) s ⟨fun s K => @sCall0 P (.func 36 []) [(s.τ 40)] (some 41) s ⟨K⟩⟩ ⟨W14_c33 P Φ s⟩
def W14_c35 (P : Program) (Φ : Exit → St → Prop) (s : St) : Prop :=
  @sOp (some 38) (xNot (s.τ 37) s.H) s <| .mk fun u5 =>
  @sOp (some 39) (xMov (u5.τ 38) u5.H) u5 <| .mk fun u6 =>
  @sGrd (guardOf (u6.τ 39) false) (some 40) u6 ⟨fun s K => @sOp (some 40) (xLoad 9 true (s.τ 6) s.H) s ⟨K⟩⟩ ⟨W14_c34 P Φ⟩
def W14_c36 (P : Program) (Φ : Exit → St → Prop) (u1 : St) (s : St) : Prop :=
  @sChk (compat ([35] ++ (occ (.func 40 []) ++ occL [(u1.τ 34)]), [35] ++ (occ (.func 40 []) ++ occL [(u1.τ 34)])) (occ (s.τ 6), [])) <| .mk <|
  @sOp (some 36) (xLoad 9 true (s.τ 6) s.H) s <| .mk fun u3 =>
  @sCall0 P (.func 39 []) [(u3.τ 35), (u3.τ 36)] (some 37) u3 ⟨W14_c35 P Φ⟩
def W14_c37 (P : Program) (Φ : Exit → St → Prop) (s : St) : Prop :=
  @sOp (some 6) (xAlloc 6 34 [.int .i64 0, .int .i64 0, .int .i64 0, .str ⟨#[]⟩, .int .i64 0, .int .i64 0, .str ⟨#[]⟩, .nils, .nils] s.H) s <| .mk fun s =>
  @sOp none (xStore 9 (s.τ 6) (s.τ 22) s.H) s <| .mk fun s =>
  @sOp (some 23) (xBuild [.int .i64 0, .int .i64 0, .int .i64 0, .str ⟨#[]⟩, .int .i64 0, .int .i64 0, .str ⟨#[]⟩, .nils, .nils] [] s.H) s <| .mk fun s =>
  @sOp (some 24) (xLoad 9 true (s.τ 5) s.H) s <| .mk fun s =>
  @sOp (some 25) (xLit 9 2 [.int .i64 0, .int .i64 0, .int .i64 0, .str ⟨#[]⟩, .int .i64 0, .int .i64 0, .str ⟨#[]⟩, .nils, .nils] [(0, (s.τ 23)), (1, (s.τ 24))] s.H) s <| .mk fun s =>
  @sOp (some 26) (xBuild [.int .i64 0, .int .i64 0, .int .i64 0, .str ⟨#[]⟩, .int .i64 0, .int .i64 0, .str ⟨#[]⟩, .nils, .nils] [(0, 1, (.int .i64 12)), (8, 1, (s.τ 25))] s.H) s <| .mk fun s =>
  @sOp (some 7) (xAlloc 7 34 [.int .i64 0, .int .i64 0, .int .i64 0, .str ⟨#[]⟩, .int .i64 0, .int .i64 0, .str ⟨#[]⟩, .nils, .nils] s.H) s <| .mk fun s =>
  @sOp none (xStore 9 (s.τ 7) (s.τ 26) s.H) s <| .mk fun s =>
  @sOp (some 27) (xLoad 9 true (s.τ 5) s.H) s <| .mk fun s =>
  @sOp (some 28) (xLit 9 1 [.int .i64 0, .int .i64 0, .int .i64 0, .str ⟨#[]⟩, .int .i64 0, .int .i64 0, .str ⟨#[]⟩, .nils, .nils] [(0, (s.τ 27))] s.H) s <| .mk fun s =>
  @sOp (some 29) (xBuild [.int .i64 0, .int .i64 0, .int .i64 0, .str ⟨#[]⟩, .int .i64 0, .int .i64 0, .str ⟨#[]⟩, .nils, .nils] [(0, 1, (.int .i64 7)), (8, 1, (s.τ 28))] s.H) s <| .mk fun s =>
  @sOp (some 8) (xAlloc 8 34 [.int .i64 0, .int .i64 0, .int .i64 0, .str ⟨#[]⟩, .int .i64 0, .int .i64 0, .str ⟨#[]⟩, .nils, .nils] s.H) s <| .mk fun s =>
  @sOp none (xStore 9 (s.τ 8) (s.τ 29) s.H) s <| .mk fun s =>
  @sOp (some 30) (xBuild [.int .i64 0, .int .i64 0, .int .i64 0, .str ⟨#[]⟩, .int .i64 0, .int .i64 0, .str ⟨#[]⟩, .nils, .nils] [] s.H) s <| .mk fun s =>
  @sOp (some 31) (xBuild [.int .i64 0, .int .i64 0, .int .i64 0, .str ⟨#[]⟩, .int .i64 0, .int .i64 0, .str ⟨#[]⟩, .nils, .nils] [] s.H) s <| .mk fun s =>
  @sOp (some 32) (xLit 9 2 [.int .i64 0, .int .i64 0, .int .i64 0, .str ⟨#[]⟩, .int .i64 0, .int .i64 0, .str ⟨#[]⟩, .nils, .nils] [(0, (s.τ 30)), (1, (s.τ 31))] s.H) s <| .mk fun s =>
  @sOp (some 33) (xBuild [.int .i64 0, .int .i64 0, .int .i64 0, .str ⟨#[]⟩, .int .i64 0, .int .i64 0, .str ⟨#[]⟩, .nils, .nils] [(0, 1, (.int .i64 11)), (8, 1, (s.τ 32))] s.H) s <| .mk fun s =>
  @sOp (some 9) (xAlloc 9 34 [.int .i64 0, .int .i64 0, .int .i64 0, .str ⟨#[]⟩, .int .i64 0, .int .i64 0, .str ⟨#[]⟩, .nils, .nils] s.H) s <| .mk fun s =>
  @sOp none (xStore 9 (s.τ 9) (s.τ 33) s.H) s <| .mk fun s =>
  @sOp (some 34) (xLoad 9 true (s.τ 6) s.H) s <| .mk fun u1 =>
  @sCall0 P (.func 40 []) [(u1.τ 34)] (some 35) u1 ⟨W14_c36 P Φ u1⟩
def W14_c38 (P : Program) (Φ : Exit → St → Prop) (s : St) : Prop :=
  @sOp (some 5) (xAlloc 5 34 [.int .i64 0, .int .i64 0, .int .i64 0, .str ⟨#[]⟩, .int .i64 0, .int .i64 0, .str ⟨#[]⟩, .nils, .nils] s.H) s <| .mk fun s =>
  @sOp none (xStore 9 (s.τ 5) (s.τ 20) s.H) s <| .mk fun s =>
  @sOp (some 21) (xLoad 9 true (s.τ 5) s.H) s <| .mk fun s =>
  @sCall P (.func 40 []) [(s.τ 21)] (some 22) s ⟨W14_c37 P Φ⟩
def W14_b39 (P : Program) (Φ : Exit → St → Prop) (s : St) : Prop :=
  @sOp (some 18) (xLoad 5 true (s.τ 2) s.H) s <| .mk fun s =>
  @sOp (some 19) (xMov (s.τ 1) s.H) s <| .mk fun s =>
  @sCall P (.func 23 []) [(s.τ 18), (s.τ 19)] (some 20) s ⟨W14_c38 P Φ⟩
def W14_c40 (P : Program) (Φ : Exit → St → Prop) (s : St) : Prop :=
  @sOp (some 17) (xNot (s.τ 16) s.H) s <| .mk fun s =>
  @sIf (s.τ 17) ⟨W14_b2 P Φ s⟩ ⟨W14_b39 P Φ s⟩
def W14_b41 (P : Program) (Φ : Exit → St → Prop) (s : St) : Prop :=
  @sOp (some 13) (xLoad 5 true (s.τ 2) s.H) s <| .mk fun s =>
  @sOp (some 14) (xLit 5 1 [.int .i64 0, .int .i64 0, .int .i64 0, .nils, .nils] [(0, (s.τ 13))] s.H) s <| .mk fun s =>
  @sOp (some 15) (xBuild [.int .i64 0, .int .i64 0, .nils] [(2, 1, (s.τ 14))] s.H) s <| .mk fun s =>
  @sCall P (.func 21 []) [(s.τ 15)] (some 16) s ⟨W14_c40 P Φ⟩
def W14_c42 (P : Program) (Φ : Exit → St → Prop) (s : St) : Prop :=
  @sOp (some 12) (xNot (s.τ 11) s.H) s <| .mk fun s =>
  @sIf (s.τ 12) ⟨W14_b1 P Φ s⟩ ⟨W14_b41 P Φ s⟩
def W14 (P : Program) (Φ : Exit → St → Prop) (s : St) : Prop :=
  @sOp (some 2) (xBox 2 25 (s.τ 0) s.H) s <| .mk fun s =>
  @sOp (some 4) (xMov (.bool false) s.H) s <| .mk fun s =>
  @sCall P (.func 32 []) [] (some 11) s ⟨W14_c42 P Φ⟩
theorem W14_rs (τ : Nat → AV) (H : Heap) : resV Try.prog τ H [.tmp 4] = some (τ 4) := by kernel_rfl
theorem W14_eq (Φ : Exit → St → Prop) (s : St) : awp Try.prog (Try.f14.body.getD .skip) Φ s = W14 Try.prog Φ s := by kernel_rfl

-- 15 "penance/penancelaw5.TermWaits"
def W15_b1 (P : Program) (Φ : Exit → St → Prop) (s : St) : Prop :=
  @sOp (some 8) (xMov (.bool false) s.H) s <| .mk fun s =>
  Φ .ret s
def W15_b2 (P : Program) (Φ : Exit → St → Prop) (s : St) : Prop :=
  @sOp (some 8) (xMov (.bool true) s.H) s <| .mk fun s =>
  Φ .ret s
def W15_c3 (P : Program) (Φ : Exit → St → Prop) (s : St) : Prop :=
  @sOp (some 67) (xPick (s.τ 61) (s.τ 66) (.bool false) s.H) s <| .mk fun s =>
  @sOp (some 8) (xMov (s.τ 67) s.H) s <| .mk fun s =>
  Φ .ret s
def W15_c4 (P : Program) (Φ : Exit → St → Prop) (s : St) : Prop :=
  @sGrd (guardOf (s.τ 61) true) (some 66) s ⟨fun s K => @sOp (some 66) (xBin .eql false (s.τ 65) (.int .i64 0) s.H) s ⟨K⟩⟩ ⟨W15_c3 P Φ⟩
def W15_c5 (P : Program) (Φ : Exit → St → Prop) (s : St) : Prop :=
  @sGrd (guardOf (s.τ 61) true) (some 65) s ⟨fun s K => @sOp (some 65) (xLen (s.τ 64) s.H) s ⟨K⟩⟩ ⟨W15_c4 P Φ⟩
def W15_c6 (P : Program) (Φ : Exit → St → Prop) (s : St) : Prop :=
  @sGrd (guardOf (s.τ 61) true) (some 64) s ⟨fun s K => @sCall P (.func 41 []) [(s.τ 63)] (some 64) s ⟨K⟩⟩ ⟨W15_c5 P Φ⟩
def W15_c7 (P : Program) (Φ : Exit → St → Prop) (s : St) : Prop :=
  @sGrd (guardOf (s.τ 61) true) (some 63) s ⟨fun s K => @sOp (some 63) (xBuild [.int .i64 0, .int .i64 0, .int .i64 0, .str ⟨#[]⟩, .int .i64 0, .int .i64 0, .str ⟨#[]⟩, .nils, .nils] [(0, 1, (.int .i64 10)), (8, 1, (s.τ 62))] s.H) s ⟨K⟩⟩ ⟨W15_c6 P Φ⟩
def W15_c8 (P : Program) (Φ : Exit → St → Prop) (s : St) : Prop :=
  @sOp (some 60) (xPick (s.τ 53) (s.τ 59) (.bool false) s.H) s <| .mk fun s =>
  @sOp (some 61) (xMov (s.τ 60) s.H) s <| .mk fun s =>
  @sGrd (guardOf (s.τ 61) true) (some 62) s ⟨fun s K => @sOp (some 62) (xMov (s.τ 14) s.H) s ⟨K⟩⟩ ⟨W15_c7 P Φ⟩
def W15_c9 (P : Program) (Φ : Exit → St → Prop) (s : St) : Prop :=
  @sGrd (guardOf (s.τ 53) true) (some 59) s ⟨fun s K => @sCall P (.func 27 []) [(s.τ 57), (s.τ 58)] (some 59) s ⟨K⟩⟩ ⟨W15_c8 P Φ⟩
def W15_c10 (P : Program) (Φ : Exit → St → Prop) (s : St) : Prop :=
  @sGrd (guardOf (s.τ 53) true) (some 58) s ⟨fun s K => @sOp (some 58) (xMov (s.τ 11) s.H) s ⟨K⟩⟩ ⟨W15_c9 P Φ⟩
def W15_c11 (P : Program) (Φ : Exit → St → Prop) (s : St) : Prop :=
  @sGrd (guardOf (s.τ 53) true) (some 57) s ⟨fun s K => @sCall P (.func 41 []) [(s.τ 56)] (some 57) s ⟨K⟩⟩ ⟨W15_c10 P Φ⟩
def W15_c12 (P : Program) (Φ : Exit → St → Prop) (s : St) : Prop :=
  @sGrd (guardOf (s.τ 53) true) (some 56) s ⟨fun s K => @sOp (some 56) (xBuild [.int .i64 0, .int .i64 0, .int .i64 0, .str ⟨#[]⟩, .int .i64 0, .int .i64 0, .str ⟨#[]⟩, .nils, .nils] [(0, 1, (.int .i64 7)), (8, 1, (s.τ 55))] s.H) s ⟨K⟩⟩ ⟨W15_c11 P Φ⟩
def W15_c13 (P : Program) (Φ : Exit → St → Prop) (s : St) : Prop :=
  @sGrd (guardOf (s.τ 53) true) (some 55) s ⟨fun s K => @sOp (some 55) (xLit 9 1 [.int .i64 0, .int .i64 0, .int .i64 0, .str ⟨#[]⟩, .int .i64 0, .int .i64 0, .str ⟨#[]⟩, .nils, .nils] [(0, (s.τ 54))] s.H) s ⟨K⟩⟩ ⟨W15_c12 P Φ⟩
def W15_c14 (P : Program) (Φ : Exit → St → Prop) (s : St) : Prop :=
  @sOp (some 52) (xPick (s.τ 46) (s.τ 51) (.bool false) s.H) s <| .mk fun s =>
  @sOp (some 53) (xMov (s.τ 52) s.H) s <| .mk fun s =>
  @sGrd (guardOf (s.τ 53) true) (some 54) s ⟨fun s K => @sOp (some 54) (xLoad 9 true (s.τ 9) s.H) s ⟨K⟩⟩ ⟨W15_c13 P Φ⟩
def W15_c15 (P : Program) (Φ : Exit → St → Prop) (s : St) : Prop :=
  @sGrd (guardOf (s.τ 46) true) (some 51) s ⟨fun s K => @sCall P (.func 27 []) [(s.τ 49), (s.τ 50)] (some 51) s ⟨K⟩⟩ ⟨W15_c14 P Φ⟩
def W15_c16 (P : Program) (Φ : Exit → St → Prop) (s : St) : Prop :=
  @sGrd (guardOf (s.τ 46) true) (some 50) s ⟨fun s K => @sOp (some 50) (xMov (s.τ 11) s.H) s ⟨K⟩⟩ ⟨W15_c15 P Φ⟩
def W15_c17 (P : Program) (Φ : Exit → St → Prop) (s : St) : Prop :=
  @sGrd (guardOf (s.τ 46) true) (some 49) s ⟨fun s K => @sCall P (.func 41 []) [(s.τ 48)] (some 49) s ⟨K⟩⟩ ⟨W15_c16 P Φ⟩
def W15_c18 (P : Program) (Φ : Exit → St → Prop) (s : St) : Prop :=
  @sGrd (guardOf (s.τ 46) true) (some 48) s ⟨fun s K => @sOp (some 48) (xBuild [.int .i64 0, .int .i64 0, .int .i64 0, .str ⟨#[]⟩, .int .i64 0, .int .i64 0, .str ⟨#[]⟩, .nils, .nils] [(0, 1, (.int .i64 12)), (8, 1, (s.τ 47))] s.H) s ⟨K⟩⟩ ⟨W15_c17 P Φ⟩
def W15_c19 (P : Program) (Φ : Exit → St → Prop) (s : St) : Prop :=
  @sOp (some 46) (xMov (s.τ 45) s.H) s <| .mk fun s =>
  @sGrd (guardOf (s.τ 46) true) (some 47) s ⟨fun s K => @sOp (some 47) (xMov (s.τ 14) s.H) s ⟨K⟩⟩ ⟨W15_c18 P Φ⟩
def W15_c20 (P : Program) (Φ : Exit → St → Prop) (s : St) : Prop :=
  @sOp (some 44) (xMov (s.τ 13) s.H) s <| .mk fun s =>
  @sCall P (.func 27 []) [(s.τ 43), (s.τ 44)] (some 45) s ⟨W15_c19 P Φ⟩
def W15_c21 (P : Program) (Φ : Exit → St → Prop) (s : St) : Prop :=
  @sOp (some 11) (xMov (s.τ 30) s.H) s <| .mk fun u5 =>
  @sOp (some 12) (xMov (u5.τ 32) u5.H) u5 <| .mk fun s =>
  @sOp (some 33) (xRow 33 3 1 0 [.int .i64 0] [] s.H) s <| .mk fun s =>
  @sOp (some 34) (xMov (s.τ 11) s.H) s <| .mk fun s =>
  @sOp (some 35) (xApp P 3 1 8 (some 35) (s.τ 33) (s.τ 34) s.H) s <| .mk fun s =>
  @sOp (some 36) (xMov (s.τ 12) s.H) s <| .mk fun s =>
  @sOp (some 37) (xApp P 3 1 8 (some 37) (s.τ 35) (s.τ 36) s.H) s <| .mk fun s =>
  @sOp (some 13) (xMov (s.τ 37) s.H) s <| .mk fun s =>
  @sOp (some 38) (xLoad 9 true (s.τ 9) s.H) s <| .mk fun s =>
  @sOp (some 39) (xLoad 9 true (s.τ 10) s.H) s <| .mk fun s =>
  @sOp (some 40) (xLit 9 2 [.int .i64 0, .int .i64 0, .int .i64 0, .str ⟨#[]⟩, .int .i64 0, .int .i64 0, .str ⟨#[]⟩, .nils, .nils] [(0, (s.τ 38)), (1, (s.τ 39))] s.H) s <| .mk fun s =>
  @sOp (some 14) (xMov (s.τ 40) s.H) s <| .mk fun s =>
  @sOp (some 41) (xMov (s.τ 14) s.H) s <| .mk fun s =>
  @sOp (some 42) (xBuild [.int .i64 0, .int .i64 0, .int .i64 0, .str ⟨#[]⟩, .int .i64 0, .int .i64 0, .str ⟨#[]⟩, .nils, .nils] [(0, 1, (.int .i64 11)), (8, 1, (s.τ 41))] s.H) s <| .mk fun s =>
  @sCall P (.func 41 []) [(s.τ 42)] (some 43) s ⟨W15_c20 P Φ⟩
def W15_c22 (P : Program) (Φ : Exit → St → Prop) (u1 : St) (s : St) : Prop :=
  @sChk (compat ([30] ++ (occ (.func 41 []) ++ occL [(u1.τ 29)]), [30] ++ (occ (.func 41 []) ++ occL [(u1.τ 29)])) (occ (s.τ 10), [])) <| .mk <|
  @sOp (some 31) (xLoad 9 true (s.τ 10) s.H) s <| .mk fun u3 =>
  @sCall0 P (.func 41 []) [(u3.τ 31)] (some 32) u3 ⟨W15_c21 P Φ⟩
def W15_c23 (P : Program) (Φ : Exit → St → Prop) (u0 : St) (u2 : St) (u3 : St) (u5 : St) (s : St) : Prop :=
  @sChk (compat (occ (u0.τ 4), []) ([9], [9])) <| .mk <|
  @sChk (compat ([25] ++ (occ (.func 23 []) ++ occL [(u2.τ 23), (u2.τ 24)]), [25] ++ (occ (.func 23 []) ++ occL [(u2.τ 23), (u2.τ 24)])) ([9], [9])) <| .mk <|
  @sChk (compat (occ (u3.τ 5), []) ([9], [9])) <| .mk <|
  @sChk (compat ([28] ++ (occ (.func 23 []) ++ occL [(u5.τ 26), (u5.τ 27)]), [28] ++ (occ (.func 23 []) ++ occL [(u5.τ 26), (u5.τ 27)])) ([9], [9])) <| .mk <|
  @sOp (some 9) (xAlloc 9 34 [.int .i64 0, .int .i64 0, .int .i64 0, .str ⟨#[]⟩, .int .i64 0, .int .i64 0, .str ⟨#[]⟩, .nils, .nils] s.H) s <| .mk fun u7 =>
  @sChk (compat (occ (u0.τ 4), []) ([10], [10])) <| .mk <|
  @sChk (compat ([25] ++ (occ (.func 23 []) ++ occL [(u2.τ 23), (u2.τ 24)]), [25] ++ (occ (.func 23 []) ++ occL [(u2.τ 23), (u2.τ 24)])) ([10], [10])) <| .mk <|
  @sChk (compat (occ (u3.τ 5), []) ([10], [10])) <| .mk <|
  @sChk (compat ([28] ++ (occ (.func 23 []) ++ occL [(u5.τ 26), (u5.τ 27)]), [28] ++ (occ (.func 23 []) ++ occL [(u5.τ 26), (u5.τ 27)])) ([10], [10])) <| .mk <|
  @sChk (compat ([9], [9]) ([10], [10])) <| .mk <|
  @sOp (some 10) (xAlloc 10 34 [.int .i64 0, .int .i64 0, .int .i64 0, .str ⟨#[]⟩, .int .i64 0, .int .i64 0, .str ⟨#[]⟩, .nils, .nils] u7.H) u7 <| .mk fun u8 =>
  @sOp none (xStore 9 (u8.τ 9) (u8.τ 25) u8.H) u8 <| .mk fun u9 =>
  @sOp none (xStore 9 (u9.τ 10) (u9.τ 28) u9.H) u9 <| .mk fun s =>
  @sOp (some 29) (xLoad 9 true (s.τ 9) s.H) s <| .mk fun u1 =>
  @sCall0 P (.func 41 []) [(u1.τ 29)] (some 30) u1 ⟨W15_c22 P Φ u1⟩
def W15_c24 (P : Program) (Φ : Exit → St → Prop) (u0 : St) (u2 : St) (s : St) : Prop :=
  @sChk (compat ([25] ++ (occ (.func 23 []) ++ occL [(u2.τ 23), (u2.τ 24)]), [25] ++ (occ (.func 23 []) ++ occL [(u2.τ 23), (u2.τ 24)])) (occ (s.τ 5), [])) <| .mk <|
  @sOp (some 26) (xLoad 5 true (s.τ 5) s.H) s <| .mk fun u4 =>
  @sOp (some 27) (xMov (u4.τ 3) u4.H) u4 <| .mk fun u5 =>
  @sCall0 P (.func 23 []) [(u5.τ 26), (u5.τ 27)] (some 28) u5 ⟨W15_c23 P Φ u0 u2 s u5⟩
def W15_b25 (P : Program) (Φ : Exit → St → Prop) (s : St) : Prop :=
  @sOp (some 23) (xLoad 5 true (s.τ 4) s.H) s <| .mk fun u1 =>
  @sOp (some 24) (xMov (u1.τ 2) u1.H) u1 <| .mk fun u2 =>
  @sCall0 P (.func 23 []) [(u2.τ 23), (u2.τ 24)] (some 25) u2 ⟨W15_c24 P Φ s u2⟩
def W15_c26 (P : Program) (Φ : Exit → St → Prop) (s : St) : Prop :=
  @sOp (some 22) (xNot (s.τ 21) s.H) s <| .mk fun s =>
  @sIf (s.τ 22) ⟨W15_b2 P Φ s⟩ ⟨W15_b25 P Φ s⟩
def W15_b27 (P : Program) (Φ : Exit → St → Prop) (s : St) : Prop :=
  @sOp (some 17) (xLoad 5 true (s.τ 4) s.H) s <| .mk fun s =>
  @sOp (some 18) (xLoad 5 true (s.τ 5) s.H) s <| .mk fun s =>
  @sOp (some 19) (xLit 5 2 [.int .i64 0, .int .i64 0, .int .i64 0, .nils, .nils] [(0, (s.τ 17)), (1, (s.τ 18))] s.H) s <| .mk fun s =>
  @sOp (some 20) (xBuild [.int .i64 0, .int .i64 0, .nils] [(2, 1, (s.τ 19))] s.H) s <| .mk fun s =>
  @sCall P (.func 21 []) [(s.τ 20)] (some 21) s ⟨W15_c26 P Φ⟩
def W15_c28 (P : Program) (Φ : Exit → St → Prop) (s : St) : Prop :=
  @sOp (some 16) (xNot (s.τ 15) s.H) s <| .mk fun s =>
  @sIf (s.τ 16) ⟨W15_b1 P Φ s⟩ ⟨W15_b27 P Φ s⟩
def W15 (P : Program) (Φ : Exit → St → Prop) (s : St) : Prop :=
  @sOp (some 4) (xBox 4 25 (s.τ 0) s.H) s <| .mk fun s =>
  @sOp (some 5) (xBox 5 25 (s.τ 1) s.H) s <| .mk fun s =>
  @sOp (some 8) (xMov (.bool false) s.H) s <| .mk fun s =>
  @sCall P (.func 32 []) [] (some 15) s ⟨W15_c28 P Φ⟩
theorem W15_rs (τ : Nat → AV) (H : Heap) : resV Try.prog τ H [.tmp 8] = some (τ 8) := by kernel_rfl
theorem W15_eq (Φ : Exit → St → Prop) (s : St) : awp Try.prog (Try.f15.body.getD .skip) Φ s = W15 Try.prog Φ s := by kernel_rfl

end Go.Proofs.Ytkagfenchknjjaa
