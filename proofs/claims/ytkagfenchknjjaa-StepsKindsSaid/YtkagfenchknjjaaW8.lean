import Derived.Test.YtkagfenchknjjaaAmSimp
import Derived.Test.YtkagfenchknjjaaProg
import Derived.KernelRfl
set_option linter.unusedVariables false
namespace Go.Proofs.Ytkagfenchknjjaa
open Go Go.Am
-- 70 "penance/penanceref4.Lower"
def W70_b1 (P : Program) (Φ : Exit → St → Prop) (s : St) : Prop :=
  @sOp (some 26) (xBuild [.nils, .int .i64 0, .nils, .int .i64 0] [] s.H) s <| .mk fun s =>
  @sOp none (xStore 4 (s.τ 2) (s.τ 26) s.H) s <| .mk fun s =>
  @sOp (some 3) (xMov (.int .i64 3) s.H) s <| .mk fun s =>
  Φ .ret s
def W70_b2 (P : Program) (Φ : Exit → St → Prop) (s : St) : Prop :=
  @sOp (some 43) (xBuild [.nils, .int .i64 0, .nils, .int .i64 0] [] s.H) s <| .mk fun s =>
  @sOp none (xStore 4 (s.τ 2) (s.τ 43) s.H) s <| .mk fun s =>
  @sOp (some 3) (xMov (.int .i64 5) s.H) s <| .mk fun s =>
  Φ .ret s
def W70_b3 (P : Program) (Φ : Exit → St → Prop) (s : St) : Prop :=
  @sOp (some 99) (xBuild [.nils, .int .i64 0, .nils, .int .i64 0] [] s.H) s <| .mk fun s =>
  @sOp none (xStore 4 (s.τ 2) (s.τ 99) s.H) s <| .mk fun s =>
  @sOp (some 3) (xMov (.int .i64 4) s.H) s <| .mk fun s =>
  Φ .ret s
def W70_b4 (P : Program) (Φ : Exit → St → Prop) (s : St) : Prop :=
  @sOp (some 104) (xBuild [.nils, .int .i64 0, .nils, .int .i64 0] [] s.H) s <| .mk fun s =>
  @sOp none (xStore 4 (s.τ 2) (s.τ 104) s.H) s <| .mk fun s =>
  @sOp (some 3) (xMov (.int .i64 6) s.H) s <| .mk fun s =>
  Φ .ret s
def W70_b5 (P : Program) (Φ : Exit → St → Prop) (s : St) : Prop :=
  @sOp (some 108) (xBuild [.nils, .int .i64 0, .nils, .int .i64 0] [] s.H) s <| .mk fun s =>
  @sOp none (xStore 4 (s.τ 2) (s.τ 108) s.H) s <| .mk fun s =>
  @sOp (some 3) (xMov (.int .i64 7) s.H) s <| .mk fun s =>
  Φ .ret s
def W70_b6 (P : Program) (Φ : Exit → St → Prop) (s : St) : Prop :=
  @sOp (some 109) (xLoad 4 true (s.τ 7) s.H) s <| .mk fun s =>
  @sOp none (xStore 4 (s.τ 2) (s.τ 109) s.H) s <| .mk fun s =>
  @sOp (some 3) (xMov (.int .i64 0) s.H) s <| .mk fun s =>
  Φ .ret s
def W70_c7 (P : Program) (Φ : Exit → St → Prop) (s : St) : Prop :=
  @sOp (some 105) (xMov (s.τ 107) s.H) s <| .mk fun s =>
  @sIf (s.τ 105) ⟨W70_b5 P Φ s⟩ ⟨W70_b6 P Φ s⟩
def W70_b8 (P : Program) (Φ : Exit → St → Prop) (s : St) : Prop :=
  @sOp (some 106) (xLoad 3 true (s.τ 1) s.H) s <| .mk fun s =>
  @sCall P (.func 93 []) [(s.τ 106)] (some 107) s ⟨W70_c7 P Φ⟩
def W70_b9 (P : Program) (Φ : Exit → St → Prop) (s : St) : Prop :=
  @sOp (some 101) (xFld 3 (s.τ 7) s.H) s <| .mk fun s =>
  @sOp (some 102) (xLoad 1 false (s.τ 101) s.H) s <| .mk fun s =>
  @sOp (some 103) (xBin .lss false (s.τ 102) (.int .i64 0) s.H) s <| .mk fun s =>
  @sOp (some 100) (xMov (s.τ 103) s.H) s <| .mk fun s =>
  @sIf (s.τ 100) ⟨W70_b4 P Φ s⟩ ⟨W70_b8 P Φ s⟩
def W70_k10 (P : Program) (Φ : Exit → St → Prop) (s : St) : Prop :=
  @sOp (some 95) (xMov (s.τ 6) s.H) s <| .mk fun s =>
  @sOp (some 96) (xNil (s.τ 95) s.H) s <| .mk fun s =>
  @sOp (some 97) (xFld 3 (s.τ 96) s.H) s <| .mk fun s =>
  @sOp (some 98) (xLoad 1 false (s.τ 97) s.H) s <| .mk fun s =>
  @sOp (some 94) (xMov (s.τ 98) s.H) s <| .mk fun s =>
  @sIf (s.τ 94) ⟨W70_b3 P Φ s⟩ ⟨W70_b9 P Φ s⟩
def W70_c11 (P : Program) (Φ : Exit → St → Prop) (L0 : St → Prop) (u0 : St) (u1 : St) (s : St) : Prop :=
  @sChk (compat (occ (u0.τ 7), []) ([91] ++ occL [(s.τ 90)], [91] ++ occL [(s.τ 90)])) <| .mk <|
  @sChk (compat (occ (u1.τ 81), []) ([91] ++ occL [(s.τ 90)], [91] ++ occL [(s.τ 90)])) <| .mk <|
  @sOp (some 91) (xLit 9 1 [.int .i64 0, .int .i64 0, .int .i64 0, .str ⟨#[]⟩, .int .i64 0, .int .i64 0, .str ⟨#[]⟩, .nils, .nils] [(0, (s.τ 90))] s.H) s <| .mk fun u11 =>
  @sOp (some 92) (xApp P 34 9 120 (some 92) (u11.τ 82) (u11.τ 91) u11.H) u11 <| .mk fun u12 =>
  @sOp (some 93) (xFld 2 (u12.τ 7) u12.H) u12 <| .mk fun u13 =>
  @sOp none (xStore 1 (u13.τ 93) (u13.τ 92) u13.H) u13 <| .mk fun s =>
  @sOp (some 79) (xMov (s.τ 9) s.H) s <| .mk fun s =>
  @sOp (some 80) (xBin .add false (s.τ 79) (.int .i64 1) s.H) s <| .mk fun s =>
  @sOp (some 9) (xMov (s.τ 80) s.H) s <| .mk fun s =>
  L0 s
def W70_b12 (P : Program) (Φ : Exit → St → Prop) (L0 : St → Prop) (s : St) : Prop :=
  @sOp (some 81) (xFld 2 (s.τ 7) s.H) s <| .mk fun u1 =>
  @sOp (some 82) (xLoad 1 false (u1.τ 81) u1.H) u1 <| .mk fun u2 =>
  @sOp (some 83) (xMov (u2.τ 6) u2.H) u2 <| .mk fun u3 =>
  @sOp (some 84) (xFld 2 (u3.τ 1) u3.H) u3 <| .mk fun u4 =>
  @sOp (some 85) (xLoad 1 false (u4.τ 84) u4.H) u4 <| .mk fun u5 =>
  @sOp (some 86) (xMov (u5.τ 9) u5.H) u5 <| .mk fun u6 =>
  @sOp (some 87) (xIx 9 (u6.τ 85) (u6.τ 86) u6.H) u6 <| .mk fun u7 =>
  @sOp (some 88) (xFld 1 (u7.τ 87) u7.H) u7 <| .mk fun u8 =>
  @sOp (some 89) (xLoad 8 true (u8.τ 88) u8.H) u8 <| .mk fun u9 =>
  @sChk (compat (occ (s.τ 7), []) ([90] ++ (occ (.func 92 []) ++ occL [(u9.τ 83), (u9.τ 89)]), [90] ++ (occ (.func 92 []) ++ occL [(u9.τ 83), (u9.τ 89)]))) <| .mk <|
  @sChk (compat (occ (u1.τ 81), []) ([90] ++ (occ (.func 92 []) ++ occL [(u9.τ 83), (u9.τ 89)]), [90] ++ (occ (.func 92 []) ++ occL [(u9.τ 83), (u9.τ 89)]))) <| .mk <|
  @sCall0 P (.func 92 []) [(u9.τ 83), (u9.τ 89)] (some 90) u9 ⟨W70_c11 P Φ L0 s u1⟩
def W70_l13 (P : Program) (Φ : Exit → St → Prop) (L0 : St → Prop) (s : St) : Prop :=
  @sOp (some 74) (xMov (s.τ 9) s.H) s <| .mk fun s =>
  @sOp (some 75) (xFld 2 (s.τ 1) s.H) s <| .mk fun s =>
  @sOp (some 76) (xLoad 1 false (s.τ 75) s.H) s <| .mk fun s =>
  @sOp (some 77) (xLen (s.τ 76) s.H) s <| .mk fun s =>
  @sOp (some 78) (xBin .lss false (s.τ 74) (s.τ 77) s.H) s <| .mk fun s =>
  @sIf (s.τ 78) ⟨W70_b12 P Φ L0 s⟩ ⟨W70_k10 P Φ s⟩
def W70_k14 (P : Program) (Φ : Exit → St → Prop) (s : St) : Prop :=
  @sOp (some 9) (xMov (.int .i64 0) s.H) s <| .mk fun s =>
  @sLoop s ⟨fun L0 s => W70_l13 P Φ L0 s⟩
def W70_b15 (P : Program) (Φ : Exit → St → Prop) (L0 : St → Prop) (s : St) : Prop :=
  @sOp (some 63) (xFld 0 (s.τ 7) s.H) s <| .mk fun u1 =>
  @sOp (some 64) (xLoad 1 false (u1.τ 63) u1.H) u1 <| .mk fun u2 =>
  @sOp (some 65) (xFld 0 (u2.τ 1) u2.H) u2 <| .mk fun u3 =>
  @sOp (some 66) (xLoad 1 false (u3.τ 65) u3.H) u3 <| .mk fun u4 =>
  @sOp (some 67) (xMov (u4.τ 8) u4.H) u4 <| .mk fun u5 =>
  @sOp (some 68) (xIx 2 (u5.τ 66) (u5.τ 67) u5.H) u5 <| .mk fun u6 =>
  @sOp (some 69) (xFld 1 (u6.τ 68) u6.H) u6 <| .mk fun u7 =>
  @sOp (some 70) (xLoad 1 false (u7.τ 69) u7.H) u7 <| .mk fun u8 =>
  @sChk (compat (occ (s.τ 7), []) ([71] ++ occL [(u8.τ 70)], [71] ++ occL [(u8.τ 70)])) <| .mk <|
  @sChk (compat (occ (u1.τ 63), []) ([71] ++ occL [(u8.τ 70)], [71] ++ occL [(u8.τ 70)])) <| .mk <|
  @sOp (some 71) (xLit 1 1 [.int .i64 0] [(0, (u8.τ 70))] u8.H) u8 <| .mk fun u9 =>
  @sOp (some 72) (xApp P 3 1 8 (some 72) (u9.τ 64) (u9.τ 71) u9.H) u9 <| .mk fun u10 =>
  @sOp (some 73) (xFld 0 (u10.τ 7) u10.H) u10 <| .mk fun u11 =>
  @sOp none (xStore 1 (u11.τ 73) (u11.τ 72) u11.H) u11 <| .mk fun s =>
  @sOp (some 61) (xMov (s.τ 8) s.H) s <| .mk fun s =>
  @sOp (some 62) (xBin .add false (s.τ 61) (.int .i64 1) s.H) s <| .mk fun s =>
  @sOp (some 8) (xMov (s.τ 62) s.H) s <| .mk fun s =>
  L0 s
def W70_l16 (P : Program) (Φ : Exit → St → Prop) (L0 : St → Prop) (s : St) : Prop :=
  @sOp (some 56) (xMov (s.τ 8) s.H) s <| .mk fun s =>
  @sOp (some 57) (xFld 0 (s.τ 1) s.H) s <| .mk fun s =>
  @sOp (some 58) (xLoad 1 false (s.τ 57) s.H) s <| .mk fun s =>
  @sOp (some 59) (xLen (s.τ 58) s.H) s <| .mk fun s =>
  @sOp (some 60) (xBin .lss false (s.τ 56) (s.τ 59) s.H) s <| .mk fun s =>
  @sIf (s.τ 60) ⟨W70_b15 P Φ L0 s⟩ ⟨W70_k14 P Φ s⟩
def W70_c17 (P : Program) (Φ : Exit → St → Prop) (u0 : St) (u1 : St) (u2 : St) (u4 : St) (s : St) : Prop :=
  @sOp (some 55) (xBuild [.nils, .int .i64 0, .nils, .int .i64 0] [(1, 1, (s.τ 52)), (3, 1, (s.τ 54))] s.H) s <| .mk fun u6 =>
  @sChk (compat (occ (u0.τ 1), []) ([7], [7])) <| .mk <|
  @sChk (compat (occ (u1.τ 50), []) ([7], [7])) <| .mk <|
  @sChk (compat (occ (u2.τ 51), []) ([7], [7])) <| .mk <|
  @sChk (compat ([54] ++ (occ (.func 91 []) ++ occL [(u4.τ 53), (.str ⟨#[109, 97, 105, 110]⟩)]), [54] ++ (occ (.func 91 []) ++ occL [(u4.τ 53), (.str ⟨#[109, 97, 105, 110]⟩)])) ([7], [7])) <| .mk <|
  @sOp (some 7) (xAlloc 7 106 [.nils, .int .i64 0, .nils, .int .i64 0] u6.H) u6 <| .mk fun u7 =>
  @sOp none (xStore 4 (u7.τ 7) (u7.τ 55) u7.H) u7 <| .mk fun s =>
  @sOp (some 8) (xMov (.int .i64 0) s.H) s <| .mk fun s =>
  @sLoop s ⟨fun L0 s => W70_l16 P Φ L0 s⟩
def W70_b18 (P : Program) (Φ : Exit → St → Prop) (s : St) : Prop :=
  @sOp (some 44) (xMov (s.τ 4) s.H) s <| .mk fun s =>
  @sOp (some 45) (xFld 1 (s.τ 1) s.H) s <| .mk fun s =>
  @sOp (some 46) (xLoad 1 false (s.τ 45) s.H) s <| .mk fun s =>
  @sOp (some 47) (xMov (s.τ 5) s.H) s <| .mk fun s =>
  @sOp (some 48) (xBuild [.nils, .nils, .nils, .bool false] [(0, 1, (s.τ 44)), (1, 1, (s.τ 46)), (2, 1, (s.τ 47))] s.H) s <| .mk fun s =>
  @sOp (some 49) (xBox 49 133 (s.τ 48) s.H) s <| .mk fun s =>
  @sOp (some 6) (xMov (s.τ 49) s.H) s <| .mk fun s =>
  @sOp (some 50) (xFld 1 (s.τ 1) s.H) s <| .mk fun u1 =>
  @sOp (some 51) (xLoad 1 false (u1.τ 50) u1.H) u1 <| .mk fun u2 =>
  @sOp (some 52) (xLen (u2.τ 51) u2.H) u2 <| .mk fun u3 =>
  @sOp (some 53) (xMov (u3.τ 5) u3.H) u3 <| .mk fun u4 =>
  @sChk (compat (occ (s.τ 1), []) ([54] ++ (occ (.func 91 []) ++ occL [(u4.τ 53), (.str ⟨#[109, 97, 105, 110]⟩)]), [54] ++ (occ (.func 91 []) ++ occL [(u4.τ 53), (.str ⟨#[109, 97, 105, 110]⟩)]))) <| .mk <|
  @sChk (compat (occ (u1.τ 50), []) ([54] ++ (occ (.func 91 []) ++ occL [(u4.τ 53), (.str ⟨#[109, 97, 105, 110]⟩)]), [54] ++ (occ (.func 91 []) ++ occL [(u4.τ 53), (.str ⟨#[109, 97, 105, 110]⟩)]))) <| .mk <|
  @sChk (compat (occ (u2.τ 51), []) ([54] ++ (occ (.func 91 []) ++ occL [(u4.τ 53), (.str ⟨#[109, 97, 105, 110]⟩)]), [54] ++ (occ (.func 91 []) ++ occL [(u4.τ 53), (.str ⟨#[109, 97, 105, 110]⟩)]))) <| .mk <|
  @sCall0 P (.func 91 []) [(u4.τ 53), (.str ⟨#[109, 97, 105, 110]⟩)] (some 54) u4 ⟨W70_c17 P Φ s u1 u2 u4⟩
def W70_c19 (P : Program) (Φ : Exit → St → Prop) (s : St) : Prop :=
  @sOp (some 42) (xPick (s.τ 39) (.bool true) (s.τ 41) s.H) s <| .mk fun s =>
  @sIf (s.τ 42) ⟨W70_b2 P Φ s⟩ ⟨W70_b18 P Φ s⟩
def W70_c20 (P : Program) (Φ : Exit → St → Prop) (s : St) : Prop :=
  @sGrd (guardOf (s.τ 39) false) (some 41) s ⟨fun s K => @sCall P (.func 90 []) [(s.τ 40)] (some 41) s ⟨K⟩⟩ ⟨W70_c19 P Φ⟩
def W70_c21 (P : Program) (Φ : Exit → St → Prop) (s : St) : Prop :=
  @sOp (some 38) (xPick (s.τ 34) (.bool true) (s.τ 37) s.H) s <| .mk fun s =>
  @sOp (some 39) (xMov (s.τ 38) s.H) s <| .mk fun s =>
  @sGrd (guardOf (s.τ 39) false) (some 40) s ⟨fun s K => @sOp (some 40) (xMov (s.τ 5) s.H) s ⟨K⟩⟩ ⟨W70_c20 P Φ⟩
def W70_c22 (P : Program) (Φ : Exit → St → Prop) (s : St) : Prop :=
  @sGrd (guardOf (s.τ 34) false) (some 37) s ⟨fun s K => @sCall P (.func 90 []) [(s.τ 36)] (some 37) s ⟨K⟩⟩ ⟨W70_c21 P Φ⟩
def W70_c23 (P : Program) (Φ : Exit → St → Prop) (s : St) : Prop :=
  @sGrd (guardOf (s.τ 34) false) (some 36) s ⟨fun s K => @sOp (some 36) (xLoad 1 false (s.τ 35) s.H) s ⟨K⟩⟩ ⟨W70_c22 P Φ⟩
def W70_c24 (P : Program) (Φ : Exit → St → Prop) (s : St) : Prop :=
  @sOp (some 34) (xMov (s.τ 33) s.H) s <| .mk fun s =>
  @sGrd (guardOf (s.τ 34) false) (some 35) s ⟨fun s K => @sOp (some 35) (xFld 1 (s.τ 1) s.H) s ⟨K⟩⟩ ⟨W70_c23 P Φ⟩
def W70_c25 (P : Program) (Φ : Exit → St → Prop) (s : St) : Prop :=
  @sOp (some 27) (xMov (s.τ 29) s.H) s <| .mk fun s =>
  @sOp (some 30) (xExt (s.τ 27) 0 s.H) s <| .mk fun s =>
  @sOp (some 31) (xExt (s.τ 27) 1 s.H) s <| .mk fun s =>
  @sOp (some 4) (xMov (s.τ 30) s.H) s <| .mk fun s =>
  @sOp (some 5) (xMov (s.τ 31) s.H) s <| .mk fun s =>
  @sOp (some 32) (xMov (s.τ 4) s.H) s <| .mk fun s =>
  @sCall P (.func 90 []) [(s.τ 32)] (some 33) s ⟨W70_c24 P Φ⟩
def W70_b26 (P : Program) (Φ : Exit → St → Prop) (s : St) : Prop :=
  @sOp (some 28) (xLoad 3 true (s.τ 1) s.H) s <| .mk fun s =>
  @sCall P (.func 89 []) [(s.τ 28)] (some 29) s ⟨W70_c25 P Φ⟩
def W70_c27 (P : Program) (Φ : Exit → St → Prop) (s : St) : Prop :=
  @sOp (some 25) (xPick (s.τ 20) (.bool true) (s.τ 24) s.H) s <| .mk fun s =>
  @sIf (s.τ 25) ⟨W70_b1 P Φ s⟩ ⟨W70_b26 P Φ s⟩
def W70_c28 (P : Program) (Φ : Exit → St → Prop) (s : St) : Prop :=
  @sGrd (guardOf (s.τ 20) false) (some 24) s ⟨fun s K => @sOp (some 24) (xBin .gtr false (s.τ 23) (.int .i64 20) s.H) s ⟨K⟩⟩ ⟨W70_c27 P Φ⟩
def W70_c29 (P : Program) (Φ : Exit → St → Prop) (s : St) : Prop :=
  @sGrd (guardOf (s.τ 20) false) (some 23) s ⟨fun s K => @sOp (some 23) (xLen (s.τ 22) s.H) s ⟨K⟩⟩ ⟨W70_c28 P Φ⟩
def W70_c30 (P : Program) (Φ : Exit → St → Prop) (s : St) : Prop :=
  @sGrd (guardOf (s.τ 20) false) (some 22) s ⟨fun s K => @sOp (some 22) (xLoad 1 false (s.τ 21) s.H) s ⟨K⟩⟩ ⟨W70_c29 P Φ⟩
def W70_c31 (P : Program) (Φ : Exit → St → Prop) (s : St) : Prop :=
  @sOp (some 19) (xPick (s.τ 14) (.bool true) (s.τ 18) s.H) s <| .mk fun s =>
  @sOp (some 20) (xMov (s.τ 19) s.H) s <| .mk fun s =>
  @sGrd (guardOf (s.τ 20) false) (some 21) s ⟨fun s K => @sOp (some 21) (xFld 2 (s.τ 1) s.H) s ⟨K⟩⟩ ⟨W70_c30 P Φ⟩
def W70_c32 (P : Program) (Φ : Exit → St → Prop) (s : St) : Prop :=
  @sGrd (guardOf (s.τ 14) false) (some 18) s ⟨fun s K => @sOp (some 18) (xBin .gtr false (s.τ 17) (.int .i64 10) s.H) s ⟨K⟩⟩ ⟨W70_c31 P Φ⟩
def W70_c33 (P : Program) (Φ : Exit → St → Prop) (s : St) : Prop :=
  @sGrd (guardOf (s.τ 14) false) (some 17) s ⟨fun s K => @sOp (some 17) (xLen (s.τ 16) s.H) s ⟨K⟩⟩ ⟨W70_c32 P Φ⟩
def W70_c34 (P : Program) (Φ : Exit → St → Prop) (s : St) : Prop :=
  @sGrd (guardOf (s.τ 14) false) (some 16) s ⟨fun s K => @sOp (some 16) (xLoad 1 false (s.τ 15) s.H) s ⟨K⟩⟩ ⟨W70_c33 P Φ⟩
def W70 (P : Program) (Φ : Exit → St → Prop) (s : St) : Prop :=
  @sOp (some 1) (xBox 1 69 (s.τ 0) s.H) s <| .mk fun s =>
  @sOp (some 2) (xAlloc 2 106 [.nils, .int .i64 0, .nils, .int .i64 0] s.H) s <| .mk fun s =>
  @sOp (some 3) (xMov (.int .i64 0) s.H) s <| .mk fun s =>
  @sOp (some 10) (xFld 0 (s.τ 1) s.H) s <| .mk fun s =>
  @sOp (some 11) (xLoad 1 false (s.τ 10) s.H) s <| .mk fun s =>
  @sOp (some 12) (xLen (s.τ 11) s.H) s <| .mk fun s =>
  @sOp (some 13) (xBin .gtr false (s.τ 12) (.int .i64 20) s.H) s <| .mk fun s =>
  @sOp (some 14) (xMov (s.τ 13) s.H) s <| .mk fun s =>
  @sGrd (guardOf (s.τ 14) false) (some 15) s ⟨fun s K => @sOp (some 15) (xFld 1 (s.τ 1) s.H) s ⟨K⟩⟩ ⟨W70_c34 P Φ⟩
theorem W70_rs (τ : Nat → AV) (H : Heap) : resV Try.prog τ H [.cell 2 106, .tmp 3] = ob (ob (rdV H 4 true (τ 2)) fun v => ob (ob (some (τ 3)) fun v => ob (some []) fun vs => some (v :: vs)) fun vs => some (v :: vs)) fun vs => some (.tup vs) := by kernel_rfl
theorem W70_eq (Φ : Exit → St → Prop) (s : St) : awp Try.prog (Try.f70.body.getD .skip) Φ s = W70 Try.prog Φ s := by kernel_rfl

-- 71 "penance/steps.places$1"
def W71_c1 (P : Program) (Φ : Exit → St → Prop) (s : St) : Prop :=
  Φ .normal s
def W71_c2 (P : Program) (Φ : Exit → St → Prop) (s : St) : Prop :=
  @sOp (some 6) (xLen (s.τ 5) s.H) s <| .mk fun u4 =>
  @sOp (some 7) (xBin .gtr false (u4.τ 6) (.int .i64 0) u4.H) u4 <| .mk fun u5 =>
  @sOp (some 8) (xBuild [.int .i64 0, .int .i64 0, .int .i64 0, .str ⟨#[]⟩, .int .i64 0, .int .i64 0, .str ⟨#[]⟩, .nils, .nils, .nils, .bool false] [(0, 9, (u5.τ 3)), (9, 1, (.nils)), (10, 1, (u5.τ 7))] u5.H) u5 <| .mk fun u6 =>
  @sOp (some 9) (xMov (u6.τ 0) u6.H) u6 <| .mk fun u7 =>
  @sCall P (.func 72 []) [(u7.τ 8), (u7.τ 9)] (some 10) u7 ⟨W71_c1 P Φ⟩
def W71 (P : Program) (Φ : Exit → St → Prop) (s : St) : Prop :=
  @sOp (some 3) (xLoad 9 true (s.τ 1) s.H) s <| .mk fun u1 =>
  @sOp (some 4) (xLoad 9 true (u1.τ 1) u1.H) u1 <| .mk fun u2 =>
  @sChk (compat (occ (s.τ 1), []) ([5] ++ (occ (.func 41 []) ++ occL [(u2.τ 4)]), [5] ++ (occ (.func 41 []) ++ occL [(u2.τ 4)]))) <| .mk <|
  @sCall0 P (.func 41 []) [(u2.τ 4)] (some 5) u2 ⟨W71_c2 P Φ⟩
theorem W71_rs (τ : Nat → AV) (H : Heap) : resV Try.prog τ H [] = ob (some []) fun vs => some (.tup vs) := by kernel_rfl
theorem W71_eq (Φ : Exit → St → Prop) (s : St) : awp Try.prog (Try.f71.body.getD .skip) Φ s = W71 Try.prog Φ s := by kernel_rfl

-- 72 "penance/steps.walk"
def W72_b1 (P : Program) (Φ : Exit → St → Prop) (s : St) : Prop :=
  @sOp (some 4) (xMov (.bool false) s.H) s <| .mk fun s =>
  Φ .ret s
def W72_k2 (P : Program) (Φ : Exit → St → Prop) (s : St) : Prop :=
  @sOp (some 4) (xMov (.bool true) s.H) s <| .mk fun s =>
  Φ .ret s
def W72_b3 (P : Program) (Φ : Exit → St → Prop) (L0 : St → Prop) (s : St) : Prop :=
  @sOp (some 4) (xMov (.bool false) s.H) s <| .mk fun s =>
  Φ .ret s
def W72_b4 (P : Program) (Φ : Exit → St → Prop) (L0 : St → Prop) (s : St) : Prop :=
  @sOp (some 35) (xBin .add false (s.τ 26) (.int .i64 1) s.H) s <| .mk fun s =>
  @sOp (some 26) (xMov (s.τ 35) s.H) s <| .mk fun s =>
  L0 s
def W72_c5 (P : Program) (Φ : Exit → St → Prop) (L0 : St → Prop) (s : St) : Prop :=
  @sOp (some 34) (xNot (s.τ 33) s.H) s <| .mk fun s =>
  @sIf (s.τ 34) ⟨W72_b3 P Φ L0 s⟩ ⟨W72_b4 P Φ L0 s⟩
def W72_c6 (P : Program) (Φ : Exit → St → Prop) (L0 : St → Prop) (s : St) : Prop :=
  @sOp (some 32) (xMov (s.τ 1) s.H) s <| .mk fun s =>
  @sCall P (.func 72 []) [(s.τ 31), (s.τ 32)] (some 33) s ⟨W72_c5 P Φ L0⟩
def W72_b7 (P : Program) (Φ : Exit → St → Prop) (L0 : St → Prop) (s : St) : Prop :=
  @sOp (some 28) (xMov (s.τ 26) s.H) s <| .mk fun s =>
  @sOp (some 6) (xMov (s.τ 28) s.H) s <| .mk fun s =>
  @sOp (some 29) (xLoad 11 true (s.τ 2) s.H) s <| .mk fun s =>
  @sOp (some 30) (xMov (s.τ 6) s.H) s <| .mk fun s =>
  @sCall P (.func 94 []) [(s.τ 29), (s.τ 30)] (some 31) s ⟨W72_c6 P Φ L0⟩
def W72_l8 (P : Program) (Φ : Exit → St → Prop) (L0 : St → Prop) (s : St) : Prop :=
  @sOp (some 27) (xBin .lss false (s.τ 26) (s.τ 25) s.H) s <| .mk fun s =>
  @sIf (s.τ 27) ⟨W72_b7 P Φ L0 s⟩ ⟨W72_k2 P Φ s⟩
def W72_k9 (P : Program) (Φ : Exit → St → Prop) (s : St) : Prop :=
  @sOp (some 25) (xMov (s.τ 5) s.H) s <| .mk fun s =>
  @sOp (some 26) (xMov (.int .i64 0) s.H) s <| .mk fun s =>
  @sLoop s ⟨fun L0 s => W72_l8 P Φ L0 s⟩
def W72_b10 (P : Program) (Φ : Exit → St → Prop) (s : St) : Prop :=
  @sOp (some 21) (xMov (s.τ 5) s.H) s <| .mk fun s =>
  @sOp (some 22) (xMin (s.τ 21) (.int .i64 1) s.H) s <| .mk fun s =>
  @sOp (some 5) (xMov (s.τ 22) s.H) s <| .mk fun s =>
  W72_k9 P Φ s
def W72_b11 (P : Program) (Φ : Exit → St → Prop) (s : St) : Prop :=
  @sOp (some 5) (xMov (.int .i64 0) s.H) s <| .mk fun s =>
  W72_k9 P Φ s
def W72_b12 (P : Program) (Φ : Exit → St → Prop) (s : St) : Prop :=
  @sOp (some 24) (xBin .eql false (s.τ 17) (.int .i64 11) s.H) s <| .mk fun s =>
  @sOp (some 23) (xMov (s.τ 24) s.H) s <| .mk fun s =>
  @sIf (s.τ 23) ⟨W72_k9 P Φ s⟩ ⟨W72_b11 P Φ s⟩
def W72_k13 (P : Program) (Φ : Exit → St → Prop) (s : St) : Prop :=
  @sIf (s.τ 18) ⟨W72_b10 P Φ s⟩ ⟨W72_b12 P Φ s⟩
def W72_b14 (P : Program) (Φ : Exit → St → Prop) (s : St) : Prop :=
  @sOp (some 20) (xBin .eql false (s.τ 17) (.int .i64 7) s.H) s <| .mk fun s =>
  @sOp (some 18) (xMov (s.τ 20) s.H) s <| .mk fun s =>
  W72_k13 P Φ s
def W72_b15 (P : Program) (Φ : Exit → St → Prop) (s : St) : Prop :=
  @sOp (some 11) (xFld 0 (s.τ 2) s.H) s <| .mk fun s =>
  @sOp (some 12) (xFld 8 (s.τ 11) s.H) s <| .mk fun s =>
  @sOp (some 13) (xLoad 1 false (s.τ 12) s.H) s <| .mk fun s =>
  @sOp (some 14) (xLen (s.τ 13) s.H) s <| .mk fun s =>
  @sOp (some 5) (xMov (s.τ 14) s.H) s <| .mk fun s =>
  @sOp (some 15) (xFld 0 (s.τ 2) s.H) s <| .mk fun s =>
  @sOp (some 16) (xFld 0 (s.τ 15) s.H) s <| .mk fun s =>
  @sOp (some 17) (xLoad 1 false (s.τ 16) s.H) s <| .mk fun s =>
  @sOp (some 19) (xBin .eql false (s.τ 17) (.int .i64 12) s.H) s <| .mk fun s =>
  @sOp (some 18) (xMov (s.τ 19) s.H) s <| .mk fun s =>
  @sIf (s.τ 18) ⟨W72_k13 P Φ s⟩ ⟨W72_b14 P Φ s⟩
def W72_c16 (P : Program) (Φ : Exit → St → Prop) (s : St) : Prop :=
  @sOp (some 10) (xNot (s.τ 9) s.H) s <| .mk fun s =>
  @sIf (s.τ 10) ⟨W72_b1 P Φ s⟩ ⟨W72_b15 P Φ s⟩
def W72 (P : Program) (Φ : Exit → St → Prop) (s : St) : Prop :=
  @sOp (some 2) (xBox 2 83 (s.τ 0) s.H) s <| .mk fun s =>
  @sOp (some 4) (xMov (.bool false) s.H) s <| .mk fun s =>
  @sOp (some 7) (xMov (s.τ 1) s.H) s <| .mk fun s =>
  @sOp (some 8) (xLoad 11 true (s.τ 2) s.H) s <| .mk fun s =>
  @sCall P (s.τ 7) [(s.τ 8)] (some 9) s ⟨W72_c16 P Φ⟩
theorem W72_rs (τ : Nat → AV) (H : Heap) : resV Try.prog τ H [.tmp 4] = some (τ 4) := by kernel_rfl
theorem W72_eq (Φ : Exit → St → Prop) (s : St) : awp Try.prog (Try.f72.body.getD .skip) Φ s = W72 Try.prog Φ s := by kernel_rfl

-- 73 "penance/term.shapes"

def W73 (P : Program) (Φ : Exit → St → Prop) (s : St) : Prop :=
  @sOp (some 0) (xMov (.nils) s.H) s <| .mk fun s =>
  @sOp (some 1) (xBuild [.int .i64 0, .int .i64 0, .bool false, .bool false, .int .i64 0] [] s.H) s <| .mk fun s =>
  @sOp (some 2) (xBuild [.int .i64 0, .int .i64 0, .bool false, .bool false, .int .i64 0] [(0, 1, (.int .i64 2)), (2, 1, (.bool true))] s.H) s <| .mk fun s =>
  @sOp (some 3) (xBuild [.int .i64 0, .int .i64 0, .bool false, .bool false, .int .i64 0] [(0, 1, (.int .i64 1)), (3, 1, (.bool true))] s.H) s <| .mk fun s =>
  @sOp (some 4) (xBuild [.int .i64 0, .int .i64 0, .bool false, .bool false, .int .i64 0] [(0, 1, (.int .i64 3)), (4, 1, (.int .i64 1))] s.H) s <| .mk fun s =>
  @sOp (some 5) (xBuild [.int .i64 0, .int .i64 0, .bool false, .bool false, .int .i64 0] [(0, 1, (.int .i64 3))] s.H) s <| .mk fun s =>
  @sOp (some 6) (xBuild [.int .i64 0, .int .i64 0, .bool false, .bool false, .int .i64 0] [(0, 1, (.int .i64 3))] s.H) s <| .mk fun s =>
  @sOp (some 7) (xBuild [.int .i64 0, .int .i64 0, .bool false, .bool false, .int .i64 0] [(0, 1, (.int .i64 3)), (1, 1, (.int .i64 3))] s.H) s <| .mk fun s =>
  @sOp (some 8) (xBuild [.int .i64 0, .int .i64 0, .bool false, .bool false, .int .i64 0] [(4, 1, (.int .i64 1))] s.H) s <| .mk fun s =>
  @sOp (some 9) (xBuild [.int .i64 0, .int .i64 0, .bool false, .bool false, .int .i64 0] [] s.H) s <| .mk fun s =>
  @sOp (some 10) (xBuild [.int .i64 0, .int .i64 0, .bool false, .bool false, .int .i64 0] [(3, 1, (.bool true)), (4, 1, (.int .i64 2))] s.H) s <| .mk fun s =>
  @sOp (some 11) (xBuild [.int .i64 0, .int .i64 0, .bool false, .bool false, .int .i64 0] [(4, 1, (.int .i64 2))] s.H) s <| .mk fun s =>
  @sOp (some 12) (xBuild [.int .i64 0, .int .i64 0, .bool false, .bool false, .int .i64 0] [(4, 1, (.int .i64 2))] s.H) s <| .mk fun s =>
  @sOp (some 13) (xBuild [.int .i64 0, .int .i64 0, .bool false, .bool false, .int .i64 0] [(4, 1, (.int .i64 2))] s.H) s <| .mk fun s =>
  @sOp (some 14) (xBuild [.int .i64 0, .int .i64 0, .bool false, .bool false, .int .i64 0] [(0, 1, (.int .i64 4))] s.H) s <| .mk fun s =>
  @sOp (some 15) (xBuild [.int .i64 0, .int .i64 0, .bool false, .bool false, .int .i64 0] [(0, 1, (.int .i64 5)), (1, 1, (.int .i64 2)), (2, 1, (.bool true))] s.H) s <| .mk fun s =>
  @sOp (some 16) (xLit 5 15 [.int .i64 0, .int .i64 0, .bool false, .bool false, .int .i64 0] [(0, (s.τ 1)), (1, (s.τ 2)), (2, (s.τ 3)), (3, (s.τ 4)), (4, (s.τ 5)), (5, (s.τ 6)), (6, (s.τ 7)), (7, (s.τ 8)), (8, (s.τ 9)), (9, (s.τ 10)), (10, (s.τ 11)), (11, (s.τ 12)), (12, (s.τ 13)), (13, (s.τ 14)), (14, (s.τ 15))] s.H) s <| .mk fun s =>
  @sOp (some 0) (xMov (s.τ 16) s.H) s <| .mk fun s =>
  Φ .ret s
theorem W73_rs (τ : Nat → AV) (H : Heap) : resV Try.prog τ H [.tmp 0] = some (τ 0) := by kernel_rfl
theorem W73_eq (Φ : Exit → St → Prop) (s : St) : awp Try.prog (Try.f73.body.getD .skip) Φ s = W73 Try.prog Φ s := by kernel_rfl

-- 74 "(penance/term.bounds).number"
def W74_c1 (P : Program) (Φ : Exit → St → Prop) (s : St) : Prop :=
  @sOp (some 17) (xPick (s.τ 12) (s.τ 16) (.bool false) s.H) s <| .mk fun s =>
  @sOp (some 6) (xMov (s.τ 17) s.H) s <| .mk fun s =>
  Φ .ret s
def W74_c2 (P : Program) (Φ : Exit → St → Prop) (s : St) : Prop :=
  @sGrd (guardOf (s.τ 12) true) (some 16) s ⟨fun s K => @sOp (some 16) (xBin .lss false (s.τ 13) (s.τ 15) s.H) s ⟨K⟩⟩ ⟨W74_c1 P Φ⟩
def W74_c3 (P : Program) (Φ : Exit → St → Prop) (s : St) : Prop :=
  @sGrd (guardOf (s.τ 12) true) (some 15) s ⟨fun s K => @sOp (some 15) (xLoad 1 false (s.τ 14) s.H) s ⟨K⟩⟩ ⟨W74_c2 P Φ⟩
def W74_c4 (P : Program) (Φ : Exit → St → Prop) (s : St) : Prop :=
  @sGrd (guardOf (s.τ 12) true) (some 14) s ⟨fun s K => @sOp (some 14) (xFld 0 (s.τ 3) s.H) s ⟨K⟩⟩ ⟨W74_c3 P Φ⟩
def W74_b5 (P : Program) (Φ : Exit → St → Prop) (s : St) : Prop :=
  @sOp (some 10) (xMov (s.τ 2) s.H) s <| .mk fun s =>
  @sOp (some 11) (xBin .geq false (s.τ 10) (.int .i64 0) s.H) s <| .mk fun s =>
  @sOp (some 12) (xMov (s.τ 11) s.H) s <| .mk fun s =>
  @sGrd (guardOf (s.τ 12) true) (some 13) s ⟨fun s K => @sOp (some 13) (xMov (s.τ 2) s.H) s ⟨K⟩⟩ ⟨W74_c4 P Φ⟩
def W74_c6 (P : Program) (Φ : Exit → St → Prop) (s : St) : Prop :=
  @sOp (some 27) (xPick (s.τ 22) (s.τ 26) (.bool false) s.H) s <| .mk fun s =>
  @sOp (some 6) (xMov (s.τ 27) s.H) s <| .mk fun s =>
  Φ .ret s
def W74_c7 (P : Program) (Φ : Exit → St → Prop) (s : St) : Prop :=
  @sGrd (guardOf (s.τ 22) true) (some 26) s ⟨fun s K => @sOp (some 26) (xBin .lss false (s.τ 23) (s.τ 25) s.H) s ⟨K⟩⟩ ⟨W74_c6 P Φ⟩
def W74_c8 (P : Program) (Φ : Exit → St → Prop) (s : St) : Prop :=
  @sGrd (guardOf (s.τ 22) true) (some 25) s ⟨fun s K => @sOp (some 25) (xLoad 1 false (s.τ 24) s.H) s ⟨K⟩⟩ ⟨W74_c7 P Φ⟩
def W74_c9 (P : Program) (Φ : Exit → St → Prop) (s : St) : Prop :=
  @sGrd (guardOf (s.τ 22) true) (some 24) s ⟨fun s K => @sOp (some 24) (xFld 0 (s.τ 3) s.H) s ⟨K⟩⟩ ⟨W74_c8 P Φ⟩
def W74_b10 (P : Program) (Φ : Exit → St → Prop) (s : St) : Prop :=
  @sOp (some 20) (xMov (s.τ 2) s.H) s <| .mk fun s =>
  @sOp (some 21) (xBin .geq false (s.τ 20) (.int .i64 (-1)) s.H) s <| .mk fun s =>
  @sOp (some 22) (xMov (s.τ 21) s.H) s <| .mk fun s =>
  @sGrd (guardOf (s.τ 22) true) (some 23) s ⟨fun s K => @sOp (some 23) (xMov (s.τ 2) s.H) s ⟨K⟩⟩ ⟨W74_c9 P Φ⟩
def W74_c11 (P : Program) (Φ : Exit → St → Prop) (s : St) : Prop :=
  @sOp (some 37) (xPick (s.τ 32) (s.τ 36) (.bool false) s.H) s <| .mk fun s =>
  @sOp (some 6) (xMov (s.τ 37) s.H) s <| .mk fun s =>
  Φ .ret s
def W74_c12 (P : Program) (Φ : Exit → St → Prop) (s : St) : Prop :=
  @sGrd (guardOf (s.τ 32) true) (some 36) s ⟨fun s K => @sOp (some 36) (xBin .lss false (s.τ 33) (s.τ 35) s.H) s ⟨K⟩⟩ ⟨W74_c11 P Φ⟩
def W74_c13 (P : Program) (Φ : Exit → St → Prop) (s : St) : Prop :=
  @sGrd (guardOf (s.τ 32) true) (some 35) s ⟨fun s K => @sOp (some 35) (xLoad 1 false (s.τ 34) s.H) s ⟨K⟩⟩ ⟨W74_c12 P Φ⟩
def W74_c14 (P : Program) (Φ : Exit → St → Prop) (s : St) : Prop :=
  @sGrd (guardOf (s.τ 32) true) (some 34) s ⟨fun s K => @sOp (some 34) (xFld 1 (s.τ 3) s.H) s ⟨K⟩⟩ ⟨W74_c13 P Φ⟩
def W74_b15 (P : Program) (Φ : Exit → St → Prop) (s : St) : Prop :=
  @sOp (some 30) (xMov (s.τ 2) s.H) s <| .mk fun s =>
  @sOp (some 31) (xBin .geq false (s.τ 30) (.int .i64 0) s.H) s <| .mk fun s =>
  @sOp (some 32) (xMov (s.τ 31) s.H) s <| .mk fun s =>
  @sGrd (guardOf (s.τ 32) true) (some 33) s ⟨fun s K => @sOp (some 33) (xMov (s.τ 2) s.H) s ⟨K⟩⟩ ⟨W74_c14 P Φ⟩
def W74_c16 (P : Program) (Φ : Exit → St → Prop) (s : St) : Prop :=
  @sOp (some 47) (xPick (s.τ 42) (s.τ 46) (.bool false) s.H) s <| .mk fun s =>
  @sOp (some 6) (xMov (s.τ 47) s.H) s <| .mk fun s =>
  Φ .ret s
def W74_c17 (P : Program) (Φ : Exit → St → Prop) (s : St) : Prop :=
  @sGrd (guardOf (s.τ 42) true) (some 46) s ⟨fun s K => @sOp (some 46) (xBin .lss false (s.τ 43) (s.τ 45) s.H) s ⟨K⟩⟩ ⟨W74_c16 P Φ⟩
def W74_c18 (P : Program) (Φ : Exit → St → Prop) (s : St) : Prop :=
  @sGrd (guardOf (s.τ 42) true) (some 45) s ⟨fun s K => @sOp (some 45) (xLoad 1 false (s.τ 44) s.H) s ⟨K⟩⟩ ⟨W74_c17 P Φ⟩
def W74_c19 (P : Program) (Φ : Exit → St → Prop) (s : St) : Prop :=
  @sGrd (guardOf (s.τ 42) true) (some 44) s ⟨fun s K => @sOp (some 44) (xFld 2 (s.τ 3) s.H) s ⟨K⟩⟩ ⟨W74_c18 P Φ⟩
def W74_b20 (P : Program) (Φ : Exit → St → Prop) (s : St) : Prop :=
  @sOp (some 40) (xMov (s.τ 2) s.H) s <| .mk fun s =>
  @sOp (some 41) (xBin .geq false (s.τ 40) (.int .i64 0) s.H) s <| .mk fun s =>
  @sOp (some 42) (xMov (s.τ 41) s.H) s <| .mk fun s =>
  @sGrd (guardOf (s.τ 42) true) (some 43) s ⟨fun s K => @sOp (some 43) (xMov (s.τ 2) s.H) s ⟨K⟩⟩ ⟨W74_c19 P Φ⟩
def W74_b21 (P : Program) (Φ : Exit → St → Prop) (s : St) : Prop :=
  @sOp (some 50) (xMov (s.τ 2) s.H) s <| .mk fun s =>
  @sOp (some 51) (xBin .geq false (s.τ 50) (.int .i64 0) s.H) s <| .mk fun s =>
  @sOp (some 6) (xMov (s.τ 51) s.H) s <| .mk fun s =>
  Φ .ret s
def W74_b22 (P : Program) (Φ : Exit → St → Prop) (s : St) : Prop :=
  @sOp (some 52) (xMov (s.τ 2) s.H) s <| .mk fun s =>
  @sOp (some 53) (xBin .eql false (s.τ 52) (.int .i64 0) s.H) s <| .mk fun s =>
  @sOp (some 6) (xMov (s.τ 53) s.H) s <| .mk fun s =>
  Φ .ret s
def W74_b23 (P : Program) (Φ : Exit → St → Prop) (s : St) : Prop :=
  @sOp (some 49) (xBin .eql false (s.τ 7) (.int .i64 5) s.H) s <| .mk fun s =>
  @sOp (some 48) (xMov (s.τ 49) s.H) s <| .mk fun s =>
  @sIf (s.τ 48) ⟨W74_b21 P Φ s⟩ ⟨W74_b22 P Φ s⟩
def W74_b24 (P : Program) (Φ : Exit → St → Prop) (s : St) : Prop :=
  @sOp (some 39) (xBin .eql false (s.τ 7) (.int .i64 4) s.H) s <| .mk fun s =>
  @sOp (some 38) (xMov (s.τ 39) s.H) s <| .mk fun s =>
  @sIf (s.τ 38) ⟨W74_b20 P Φ s⟩ ⟨W74_b23 P Φ s⟩
def W74_b25 (P : Program) (Φ : Exit → St → Prop) (s : St) : Prop :=
  @sOp (some 29) (xBin .eql false (s.τ 7) (.int .i64 3) s.H) s <| .mk fun s =>
  @sOp (some 28) (xMov (s.τ 29) s.H) s <| .mk fun s =>
  @sIf (s.τ 28) ⟨W74_b15 P Φ s⟩ ⟨W74_b24 P Φ s⟩
def W74_b26 (P : Program) (Φ : Exit → St → Prop) (s : St) : Prop :=
  @sOp (some 19) (xBin .eql false (s.τ 7) (.int .i64 2) s.H) s <| .mk fun s =>
  @sOp (some 18) (xMov (s.τ 19) s.H) s <| .mk fun s =>
  @sIf (s.τ 18) ⟨W74_b10 P Φ s⟩ ⟨W74_b25 P Φ s⟩
def W74 (P : Program) (Φ : Exit → St → Prop) (s : St) : Prop :=
  @sOp (some 3) (xBox 3 87 (s.τ 0) s.H) s <| .mk fun s =>
  @sOp (some 6) (xMov (.bool false) s.H) s <| .mk fun s =>
  @sOp (some 7) (xMov (s.τ 1) s.H) s <| .mk fun s =>
  @sOp (some 9) (xBin .eql false (s.τ 7) (.int .i64 1) s.H) s <| .mk fun s =>
  @sOp (some 8) (xMov (s.τ 9) s.H) s <| .mk fun s =>
  @sIf (s.τ 8) ⟨W74_b5 P Φ s⟩ ⟨W74_b26 P Φ s⟩
theorem W74_rs (τ : Nat → AV) (H : Heap) : resV Try.prog τ H [.tmp 6] = some (τ 6) := by kernel_rfl
theorem W74_eq (Φ : Exit → St → Prop) (s : St) : awp Try.prog (Try.f74.body.getD .skip) Φ s = W74 Try.prog Φ s := by kernel_rfl

-- 75 "penance/term.none"
def W75_c1 (P : Program) (Φ : Exit → St → Prop) (s : St) : Prop :=
  @sOp (some 21) (xPick (s.τ 16) (s.τ 20) (.bool false) s.H) s <| .mk fun s =>
  @sOp (some 2) (xMov (s.τ 21) s.H) s <| .mk fun s =>
  Φ .ret s
def W75_c2 (P : Program) (Φ : Exit → St → Prop) (s : St) : Prop :=
  @sGrd (guardOf (s.τ 16) true) (some 20) s ⟨fun s K => @sOp (some 20) (xBin .eql false (s.τ 19) (.int .i64 0) s.H) s ⟨K⟩⟩ ⟨W75_c1 P Φ⟩
def W75_c3 (P : Program) (Φ : Exit → St → Prop) (s : St) : Prop :=
  @sGrd (guardOf (s.τ 16) true) (some 19) s ⟨fun s K => @sOp (some 19) (xLen (s.τ 18) s.H) s ⟨K⟩⟩ ⟨W75_c2 P Φ⟩
def W75_c4 (P : Program) (Φ : Exit → St → Prop) (s : St) : Prop :=
  @sGrd (guardOf (s.τ 16) true) (some 18) s ⟨fun s K => @sOp (some 18) (xLoad 1 false (s.τ 17) s.H) s ⟨K⟩⟩ ⟨W75_c3 P Φ⟩
def W75_c5 (P : Program) (Φ : Exit → St → Prop) (s : St) : Prop :=
  @sOp (some 15) (xPick (s.τ 11) (s.τ 14) (.bool false) s.H) s <| .mk fun s =>
  @sOp (some 16) (xMov (s.τ 15) s.H) s <| .mk fun s =>
  @sGrd (guardOf (s.τ 16) true) (some 17) s ⟨fun s K => @sOp (some 17) (xFld 3 (s.τ 1) s.H) s ⟨K⟩⟩ ⟨W75_c4 P Φ⟩
def W75_c6 (P : Program) (Φ : Exit → St → Prop) (s : St) : Prop :=
  @sGrd (guardOf (s.τ 11) true) (some 14) s ⟨fun s K => @sOp (some 14) (xBin .eql false (s.τ 13) (.str ⟨#[]⟩) s.H) s ⟨K⟩⟩ ⟨W75_c5 P Φ⟩
def W75_c7 (P : Program) (Φ : Exit → St → Prop) (s : St) : Prop :=
  @sGrd (guardOf (s.τ 11) true) (some 13) s ⟨fun s K => @sOp (some 13) (xLoad 1 false (s.τ 12) s.H) s ⟨K⟩⟩ ⟨W75_c6 P Φ⟩
def W75_c8 (P : Program) (Φ : Exit → St → Prop) (s : St) : Prop :=
  @sOp (some 10) (xPick (s.τ 6) (s.τ 9) (.bool false) s.H) s <| .mk fun s =>
  @sOp (some 11) (xMov (s.τ 10) s.H) s <| .mk fun s =>
  @sGrd (guardOf (s.τ 11) true) (some 12) s ⟨fun s K => @sOp (some 12) (xFld 2 (s.τ 1) s.H) s ⟨K⟩⟩ ⟨W75_c7 P Φ⟩
def W75_c9 (P : Program) (Φ : Exit → St → Prop) (s : St) : Prop :=
  @sGrd (guardOf (s.τ 6) true) (some 9) s ⟨fun s K => @sOp (some 9) (xBin .eql false (s.τ 8) (.int .i64 0) s.H) s ⟨K⟩⟩ ⟨W75_c8 P Φ⟩
def W75_c10 (P : Program) (Φ : Exit → St → Prop) (s : St) : Prop :=
  @sGrd (guardOf (s.τ 6) true) (some 8) s ⟨fun s K => @sOp (some 8) (xLoad 1 false (s.τ 7) s.H) s ⟨K⟩⟩ ⟨W75_c9 P Φ⟩
def W75 (P : Program) (Φ : Exit → St → Prop) (s : St) : Prop :=
  @sOp (some 1) (xBox 1 31 (s.τ 0) s.H) s <| .mk fun s =>
  @sOp (some 2) (xMov (.bool false) s.H) s <| .mk fun s =>
  @sOp (some 3) (xFld 0 (s.τ 1) s.H) s <| .mk fun s =>
  @sOp (some 4) (xLoad 1 false (s.τ 3) s.H) s <| .mk fun s =>
  @sOp (some 5) (xBin .eql false (s.τ 4) (.int .i64 0) s.H) s <| .mk fun s =>
  @sOp (some 6) (xMov (s.τ 5) s.H) s <| .mk fun s =>
  @sGrd (guardOf (s.τ 6) true) (some 7) s ⟨fun s K => @sOp (some 7) (xFld 1 (s.τ 1) s.H) s ⟨K⟩⟩ ⟨W75_c10 P Φ⟩
theorem W75_rs (τ : Nat → AV) (H : Heap) : resV Try.prog τ H [.tmp 2] = some (τ 2) := by kernel_rfl
theorem W75_eq (Φ : Exit → St → Prop) (s : St) : awp Try.prog (Try.f75.body.getD .skip) Φ s = W75 Try.prog Φ s := by kernel_rfl

-- 76 "penance/lex.Name"
def W76_b1 (P : Program) (Φ : Exit → St → Prop) (s : St) : Prop :=
  @sOp (some 2) (xMov (.bool false) s.H) s <| .mk fun s =>
  Φ .ret s
def W76_k2 (P : Program) (Φ : Exit → St → Prop) (s : St) : Prop :=
  @sOp (some 2) (xMov (.bool true) s.H) s <| .mk fun s =>
  Φ .ret s
def W76_b3 (P : Program) (Φ : Exit → St → Prop) (L0 : St → Prop) (s : St) : Prop :=
  @sOp (some 2) (xMov (.bool false) s.H) s <| .mk fun s =>
  Φ .ret s
def W76_c4 (P : Program) (Φ : Exit → St → Prop) (L0 : St → Prop) (s : St) : Prop :=
  @sOp (some 40) (xPick (s.τ 35) (.bool true) (s.τ 39) s.H) s <| .mk fun s =>
  @sIf (s.τ 40) ⟨W76_b3 P Φ L0 s⟩ ⟨L0 s⟩
def W76_c5 (P : Program) (Φ : Exit → St → Prop) (L0 : St → Prop) (s : St) : Prop :=
  @sGrd (guardOf (s.τ 35) false) (some 39) s ⟨fun s K => @sOp (some 39) (xNot (s.τ 38) s.H) s ⟨K⟩⟩ ⟨W76_c4 P Φ L0⟩
def W76_c6 (P : Program) (Φ : Exit → St → Prop) (L0 : St → Prop) (s : St) : Prop :=
  @sGrd (guardOf (s.τ 35) false) (some 38) s ⟨fun s K => @sCall P (.func 97 []) [(s.τ 37)] (some 38) s ⟨K⟩⟩ ⟨W76_c5 P Φ L0⟩
def W76_c7 (P : Program) (Φ : Exit → St → Prop) (L0 : St → Prop) (s : St) : Prop :=
  @sGrd (guardOf (s.τ 35) false) (some 37) s ⟨fun s K => @sOp (some 37) (xConv .u8 (s.τ 36) s.H) s ⟨K⟩⟩ ⟨W76_c6 P Φ L0⟩
def W76_c8 (P : Program) (Φ : Exit → St → Prop) (L0 : St → Prop) (s : St) : Prop :=
  @sOp (some 34) (xPick (s.τ 25) (.bool true) (s.τ 33) s.H) s <| .mk fun s =>
  @sOp (some 35) (xMov (s.τ 34) s.H) s <| .mk fun s =>
  @sGrd (guardOf (s.τ 35) false) (some 36) s ⟨fun s K => @sOp (some 36) (xMov (s.τ 4) s.H) s ⟨K⟩⟩ ⟨W76_c7 P Φ L0⟩
def W76_c9 (P : Program) (Φ : Exit → St → Prop) (L0 : St → Prop) (s : St) : Prop :=
  @sGrd (guardOf (s.τ 25) false) (some 33) s ⟨fun s K => @sOp (some 33) (xPick (s.τ 28) (s.τ 32) (.bool false) s.H) s ⟨K⟩⟩ ⟨W76_c8 P Φ L0⟩
def W76_c10 (P : Program) (Φ : Exit → St → Prop) (L0 : St → Prop) (s : St) : Prop :=
  @sGrd (guardOf (s.τ 28) true) (some 32) s ⟨fun s K => @sOp (some 32) (xNot (s.τ 31) s.H) s ⟨K⟩⟩ ⟨W76_c9 P Φ L0⟩
def W76_c11 (P : Program) (Φ : Exit → St → Prop) (L0 : St → Prop) (s : St) : Prop :=
  @sGrd (guardOf (s.τ 28) true) (some 31) s ⟨fun s K => @sCall P (.func 96 []) [(s.τ 30)] (some 31) s ⟨K⟩⟩ ⟨W76_c10 P Φ L0⟩
def W76_c12 (P : Program) (Φ : Exit → St → Prop) (L0 : St → Prop) (s : St) : Prop :=
  @sGrd (guardOf (s.τ 28) true) (some 30) s ⟨fun s K => @sOp (some 30) (xConv .u8 (s.τ 29) s.H) s ⟨K⟩⟩ ⟨W76_c11 P Φ L0⟩
def W76_c13 (P : Program) (Φ : Exit → St → Prop) (L0 : St → Prop) (s : St) : Prop :=
  @sGrd (guardOf (s.τ 28) true) (some 29) s ⟨fun s K => @sOp (some 29) (xMov (s.τ 4) s.H) s ⟨K⟩⟩ ⟨W76_c12 P Φ L0⟩
def W76_c14 (P : Program) (Φ : Exit → St → Prop) (L0 : St → Prop) (s : St) : Prop :=
  @sGrd (guardOf (s.τ 25) false) (some 28) s ⟨fun s K => @sOp (some 28) (xMov (s.τ 27) s.H) s ⟨K⟩⟩ ⟨W76_c13 P Φ L0⟩
def W76_c15 (P : Program) (Φ : Exit → St → Prop) (L0 : St → Prop) (s : St) : Prop :=
  @sGrd (guardOf (s.τ 25) false) (some 27) s ⟨fun s K => @sOp (some 27) (xBin .eql false (s.τ 26) (.int .i64 0) s.H) s ⟨K⟩⟩ ⟨W76_c14 P Φ L0⟩
def W76_b16 (P : Program) (Φ : Exit → St → Prop) (L0 : St → Prop) (s : St) : Prop :=
  @sOp (some 21) (xExt (s.τ 19) 1 s.H) s <| .mk fun s =>
  @sOp (some 22) (xExt (s.τ 19) 2 s.H) s <| .mk fun s =>
  @sOp (some 3) (xMov (s.τ 21) s.H) s <| .mk fun s =>
  @sOp (some 4) (xMov (s.τ 22) s.H) s <| .mk fun s =>
  @sOp (some 23) (xMov (s.τ 4) s.H) s <| .mk fun s =>
  @sOp (some 24) (xBin .gtr false (s.τ 23) (.int .i32 127) s.H) s <| .mk fun s =>
  @sOp (some 25) (xMov (s.τ 24) s.H) s <| .mk fun s =>
  @sGrd (guardOf (s.τ 25) false) (some 26) s ⟨fun s K => @sOp (some 26) (xMov (s.τ 3) s.H) s ⟨K⟩⟩ ⟨W76_c15 P Φ L0⟩
def W76_l17 (P : Program) (Φ : Exit → St → Prop) (L0 : St → Prop) (s : St) : Prop :=
  @sOp (some 19) (xNxt (s.τ 18) s.H) s <| .mk fun s =>
  @sOp (some 20) (xExt (s.τ 19) 0 s.H) s <| .mk fun s =>
  @sIf (s.τ 20) ⟨W76_b16 P Φ L0 s⟩ ⟨W76_k2 P Φ s⟩
def W76_b18 (P : Program) (Φ : Exit → St → Prop) (s : St) : Prop :=
  @sOp (some 17) (xMov (s.τ 0) s.H) s <| .mk fun s =>
  @sOp (some 18) (xRng 18 (s.τ 17) s.H) s <| .mk fun s =>
  @sLoop s ⟨fun L0 s => W76_l17 P Φ L0 s⟩
def W76_c19 (P : Program) (Φ : Exit → St → Prop) (s : St) : Prop :=
  @sOp (some 16) (xPick (s.τ 13) (.bool true) (s.τ 15) s.H) s <| .mk fun s =>
  @sIf (s.τ 16) ⟨W76_b1 P Φ s⟩ ⟨W76_b18 P Φ s⟩
def W76_c20 (P : Program) (Φ : Exit → St → Prop) (s : St) : Prop :=
  @sGrd (guardOf (s.τ 13) false) (some 15) s ⟨fun s K => @sCall P (.func 95 []) [(s.τ 14)] (some 15) s ⟨K⟩⟩ ⟨W76_c19 P Φ⟩
def W76_c21 (P : Program) (Φ : Exit → St → Prop) (s : St) : Prop :=
  @sOp (some 12) (xPick (s.τ 8) (.bool true) (s.τ 11) s.H) s <| .mk fun s =>
  @sOp (some 13) (xMov (s.τ 12) s.H) s <| .mk fun s =>
  @sGrd (guardOf (s.τ 13) false) (some 14) s ⟨fun s K => @sOp (some 14) (xMov (s.τ 0) s.H) s ⟨K⟩⟩ ⟨W76_c20 P Φ⟩
def W76_c22 (P : Program) (Φ : Exit → St → Prop) (s : St) : Prop :=
  @sGrd (guardOf (s.τ 8) false) (some 11) s ⟨fun s K => @sOp (some 11) (xBin .gtr false (s.τ 10) (.int .i64 20) s.H) s ⟨K⟩⟩ ⟨W76_c21 P Φ⟩
def W76_c23 (P : Program) (Φ : Exit → St → Prop) (s : St) : Prop :=
  @sGrd (guardOf (s.τ 8) false) (some 10) s ⟨fun s K => @sOp (some 10) (xSlen (s.τ 9) s.H) s ⟨K⟩⟩ ⟨W76_c22 P Φ⟩
def W76 (P : Program) (Φ : Exit → St → Prop) (s : St) : Prop :=
  @sOp (some 2) (xMov (.bool false) s.H) s <| .mk fun s =>
  @sOp (some 5) (xMov (s.τ 0) s.H) s <| .mk fun s =>
  @sOp (some 6) (xSlen (s.τ 5) s.H) s <| .mk fun s =>
  @sOp (some 7) (xBin .lss false (s.τ 6) (.int .i64 1) s.H) s <| .mk fun s =>
  @sOp (some 8) (xMov (s.τ 7) s.H) s <| .mk fun s =>
  @sGrd (guardOf (s.τ 8) false) (some 9) s ⟨fun s K => @sOp (some 9) (xMov (s.τ 0) s.H) s ⟨K⟩⟩ ⟨W76_c23 P Φ⟩
theorem W76_rs (τ : Nat → AV) (H : Heap) : resV Try.prog τ H [.tmp 2] = some (τ 2) := by kernel_rfl
theorem W76_eq (Φ : Exit → St → Prop) (s : St) : awp Try.prog (Try.f76.body.getD .skip) Φ s = W76 Try.prog Φ s := by kernel_rfl

-- 77 "penance/expr.Right"
def W77_k1 (P : Program) (Φ : Exit → St → Prop) (s : St) : Prop :=
  @sOp none (xStore 1 (s.τ 4) (.bool true) s.H) s <| .mk fun s =>
  Φ .ret s
def W77_b2 (P : Program) (Φ : Exit → St → Prop) (s : St) : Prop :=
  @sOp none (xStore 1 (s.τ 4) (.bool false) s.H) s <| .mk fun s =>
  Φ .ret s
def W77_b3 (P : Program) (Φ : Exit → St → Prop) (s : St) : Prop :=
  @sOp none (xStore 1 (s.τ 4) (.bool false) s.H) s <| .mk fun s =>
  Φ .ret s
def W77_c4 (P : Program) (Φ : Exit → St → Prop) (s : St) : Prop :=
  @sOp (some 64) (xPick (s.τ 55) (.bool true) (s.τ 63) s.H) s <| .mk fun s =>
  @sIf (s.τ 64) ⟨W77_b3 P Φ s⟩ ⟨Φ .normal s⟩
def W77_c5 (P : Program) (Φ : Exit → St → Prop) (s : St) : Prop :=
  @sGrd (guardOf (s.τ 55) false) (some 63) s ⟨fun s K => @sOp (some 63) (xPick (s.τ 59) (s.τ 62) (.bool false) s.H) s ⟨K⟩⟩ ⟨W77_c4 P Φ⟩
def W77_c6 (P : Program) (Φ : Exit → St → Prop) (s : St) : Prop :=
  @sGrd (guardOf (s.τ 59) true) (some 62) s ⟨fun s K => @sOp (some 62) (xBin .neq false (s.τ 61) (.int .i64 0) s.H) s ⟨K⟩⟩ ⟨W77_c5 P Φ⟩
def W77_c7 (P : Program) (Φ : Exit → St → Prop) (s : St) : Prop :=
  @sGrd (guardOf (s.τ 59) true) (some 61) s ⟨fun s K => @sOp (some 61) (xLoad 1 false (s.τ 60) s.H) s ⟨K⟩⟩ ⟨W77_c6 P Φ⟩
def W77_c8 (P : Program) (Φ : Exit → St → Prop) (s : St) : Prop :=
  @sGrd (guardOf (s.τ 59) true) (some 60) s ⟨fun s K => @sOp (some 60) (xFld 1 (s.τ 5) s.H) s ⟨K⟩⟩ ⟨W77_c7 P Φ⟩
def W77_c9 (P : Program) (Φ : Exit → St → Prop) (s : St) : Prop :=
  @sGrd (guardOf (s.τ 55) false) (some 59) s ⟨fun s K => @sOp (some 59) (xMov (s.τ 58) s.H) s ⟨K⟩⟩ ⟨W77_c8 P Φ⟩
def W77_c10 (P : Program) (Φ : Exit → St → Prop) (s : St) : Prop :=
  @sGrd (guardOf (s.τ 55) false) (some 58) s ⟨fun s K => @sOp (some 58) (xBin .gtr false (s.τ 57) (.int .i64 2) s.H) s ⟨K⟩⟩ ⟨W77_c9 P Φ⟩
def W77_c11 (P : Program) (Φ : Exit → St → Prop) (s : St) : Prop :=
  @sGrd (guardOf (s.τ 55) false) (some 57) s ⟨fun s K => @sOp (some 57) (xLoad 1 false (s.τ 56) s.H) s ⟨K⟩⟩ ⟨W77_c10 P Φ⟩
def W77_c12 (P : Program) (Φ : Exit → St → Prop) (s : St) : Prop :=
  @sOp (some 54) (xPick (s.τ 39) (.bool true) (s.τ 53) s.H) s <| .mk fun s =>
  @sOp (some 55) (xMov (s.τ 54) s.H) s <| .mk fun s =>
  @sGrd (guardOf (s.τ 55) false) (some 56) s ⟨fun s K => @sOp (some 56) (xFld 0 (s.τ 5) s.H) s ⟨K⟩⟩ ⟨W77_c11 P Φ⟩
def W77_c13 (P : Program) (Φ : Exit → St → Prop) (s : St) : Prop :=
  @sGrd (guardOf (s.τ 39) false) (some 53) s ⟨fun s K => @sOp (some 53) (xPick (s.τ 43) (s.τ 52) (.bool false) s.H) s ⟨K⟩⟩ ⟨W77_c12 P Φ⟩
def W77_c14 (P : Program) (Φ : Exit → St → Prop) (s : St) : Prop :=
  @sGrd (guardOf (s.τ 43) true) (some 52) s ⟨fun s K => @sOp (some 52) (xPick (s.τ 47) (.bool true) (s.τ 51) s.H) s ⟨K⟩⟩ ⟨W77_c13 P Φ⟩
def W77_c15 (P : Program) (Φ : Exit → St → Prop) (s : St) : Prop :=
  @sGrd (guardOf (s.τ 47) false) (some 51) s ⟨fun s K => @sOp (some 51) (xBin .geq false (s.τ 49) (s.τ 50) s.H) s ⟨K⟩⟩ ⟨W77_c14 P Φ⟩
def W77_c16 (P : Program) (Φ : Exit → St → Prop) (s : St) : Prop :=
  @sGrd (guardOf (s.τ 47) false) (some 50) s ⟨fun s K => @sOp (some 50) (xLoad 1 false (s.τ 3) s.H) s ⟨K⟩⟩ ⟨W77_c15 P Φ⟩
def W77_c17 (P : Program) (Φ : Exit → St → Prop) (s : St) : Prop :=
  @sGrd (guardOf (s.τ 47) false) (some 49) s ⟨fun s K => @sOp (some 49) (xLoad 1 false (s.τ 48) s.H) s ⟨K⟩⟩ ⟨W77_c16 P Φ⟩
def W77_c18 (P : Program) (Φ : Exit → St → Prop) (s : St) : Prop :=
  @sGrd (guardOf (s.τ 47) false) (some 48) s ⟨fun s K => @sOp (some 48) (xFld 1 (s.τ 5) s.H) s ⟨K⟩⟩ ⟨W77_c17 P Φ⟩
def W77_c19 (P : Program) (Φ : Exit → St → Prop) (s : St) : Prop :=
  @sGrd (guardOf (s.τ 43) true) (some 47) s ⟨fun s K => @sOp (some 47) (xMov (s.τ 46) s.H) s ⟨K⟩⟩ ⟨W77_c18 P Φ⟩
def W77_c20 (P : Program) (Φ : Exit → St → Prop) (s : St) : Prop :=
  @sGrd (guardOf (s.τ 43) true) (some 46) s ⟨fun s K => @sOp (some 46) (xBin .lss false (s.τ 45) (.int .i64 0) s.H) s ⟨K⟩⟩ ⟨W77_c19 P Φ⟩
def W77_c21 (P : Program) (Φ : Exit → St → Prop) (s : St) : Prop :=
  @sGrd (guardOf (s.τ 43) true) (some 45) s ⟨fun s K => @sOp (some 45) (xLoad 1 false (s.τ 44) s.H) s ⟨K⟩⟩ ⟨W77_c20 P Φ⟩
def W77_c22 (P : Program) (Φ : Exit → St → Prop) (s : St) : Prop :=
  @sGrd (guardOf (s.τ 43) true) (some 44) s ⟨fun s K => @sOp (some 44) (xFld 1 (s.τ 5) s.H) s ⟨K⟩⟩ ⟨W77_c21 P Φ⟩
def W77_c23 (P : Program) (Φ : Exit → St → Prop) (s : St) : Prop :=
  @sGrd (guardOf (s.τ 39) false) (some 43) s ⟨fun s K => @sOp (some 43) (xMov (s.τ 42) s.H) s ⟨K⟩⟩ ⟨W77_c22 P Φ⟩
def W77_c24 (P : Program) (Φ : Exit → St → Prop) (s : St) : Prop :=
  @sGrd (guardOf (s.τ 39) false) (some 42) s ⟨fun s K => @sOp (some 42) (xBin .eql false (s.τ 41) (.int .i64 2) s.H) s ⟨K⟩⟩ ⟨W77_c23 P Φ⟩
def W77_c25 (P : Program) (Φ : Exit → St → Prop) (s : St) : Prop :=
  @sGrd (guardOf (s.τ 39) false) (some 41) s ⟨fun s K => @sOp (some 41) (xLoad 1 false (s.τ 40) s.H) s ⟨K⟩⟩ ⟨W77_c24 P Φ⟩
def W77_c26 (P : Program) (Φ : Exit → St → Prop) (s : St) : Prop :=
  @sOp (some 38) (xPick (s.τ 34) (s.τ 37) (.bool false) s.H) s <| .mk fun s =>
  @sOp (some 39) (xMov (s.τ 38) s.H) s <| .mk fun s =>
  @sGrd (guardOf (s.τ 39) false) (some 40) s ⟨fun s K => @sOp (some 40) (xFld 0 (s.τ 5) s.H) s ⟨K⟩⟩ ⟨W77_c25 P Φ⟩
def W77_c27 (P : Program) (Φ : Exit → St → Prop) (s : St) : Prop :=
  @sGrd (guardOf (s.τ 34) true) (some 37) s ⟨fun s K => @sOp (some 37) (xBin .lss false (s.τ 36) (.int .i64 0) s.H) s ⟨K⟩⟩ ⟨W77_c26 P Φ⟩
def W77_c28 (P : Program) (Φ : Exit → St → Prop) (s : St) : Prop :=
  @sGrd (guardOf (s.τ 34) true) (some 36) s ⟨fun s K => @sOp (some 36) (xLoad 1 false (s.τ 35) s.H) s ⟨K⟩⟩ ⟨W77_c27 P Φ⟩
def W77_b29 (P : Program) (Φ : Exit → St → Prop) (s : St) : Prop :=
  @sOp (some 31) (xFld 0 (s.τ 5) s.H) s <| .mk fun s =>
  @sOp (some 32) (xLoad 1 false (s.τ 31) s.H) s <| .mk fun s =>
  @sOp (some 33) (xBin .eql false (s.τ 32) (.int .i64 1) s.H) s <| .mk fun s =>
  @sOp (some 34) (xMov (s.τ 33) s.H) s <| .mk fun s =>
  @sGrd (guardOf (s.τ 34) true) (some 35) s ⟨fun s K => @sOp (some 35) (xFld 1 (s.τ 5) s.H) s ⟨K⟩⟩ ⟨W77_c28 P Φ⟩
def W77_c30 (P : Program) (Φ : Exit → St → Prop) (s : St) : Prop :=
  @sOp (some 30) (xPick (s.τ 22) (.bool true) (s.τ 29) s.H) s <| .mk fun s =>
  @sIf (s.τ 30) ⟨W77_b2 P Φ s⟩ ⟨W77_b29 P Φ s⟩
def W77_c31 (P : Program) (Φ : Exit → St → Prop) (s : St) : Prop :=
  @sGrd (guardOf (s.τ 22) false) (some 29) s ⟨fun s K => @sOp (some 29) (xBin .neq false (s.τ 25) (s.τ 28) s.H) s ⟨K⟩⟩ ⟨W77_c30 P Φ⟩
def W77_c32 (P : Program) (Φ : Exit → St → Prop) (u14 : St) (u15 : St) (u16 : St) (s : St) : Prop :=
  @sChk (compat (occ (u14.τ 5), []) ([28] ++ (occ (.func 99 []) ++ occL [(s.τ 27)]), [28] ++ (occ (.func 99 []) ++ occL [(s.τ 27)]))) <| .mk <|
  @sChk (compat (occ (u15.τ 23), []) ([28] ++ (occ (.func 99 []) ++ occL [(s.τ 27)]), [28] ++ (occ (.func 99 []) ++ occL [(s.τ 27)]))) <| .mk <|
  @sChk (compat (occ (u16.τ 24), []) ([28] ++ (occ (.func 99 []) ++ occL [(s.τ 27)]), [28] ++ (occ (.func 99 []) ++ occL [(s.τ 27)]))) <| .mk <|
  @sGrd (guardOf (s.τ 22) false) (some 28) s ⟨fun s K => @sCall0 P (.func 99 []) [(s.τ 27)] (some 28) s ⟨K⟩⟩ ⟨W77_c31 P Φ⟩
def W77_c33 (P : Program) (Φ : Exit → St → Prop) (u14 : St) (u15 : St) (u16 : St) (s : St) : Prop :=
  @sGrd (guardOf (s.τ 22) false) (some 27) s ⟨fun s K => @sOp (some 27) (xLoad 1 false (s.τ 26) s.H) s ⟨K⟩⟩ ⟨W77_c32 P Φ u14 u15 u16⟩
def W77_c34 (P : Program) (Φ : Exit → St → Prop) (u14 : St) (u15 : St) (u16 : St) (s : St) : Prop :=
  @sGrd (guardOf (s.τ 22) false) (some 26) s ⟨fun s K => @sOp (some 26) (xFld 0 (s.τ 5) s.H) s ⟨K⟩⟩ ⟨W77_c33 P Φ u14 u15 u16⟩
def W77_c35 (P : Program) (Φ : Exit → St → Prop) (u14 : St) (u15 : St) (s : St) : Prop :=
  @sGrd (guardOf (s.τ 22) false) (some 25) s ⟨fun s K => @sOp (some 25) (xLen (s.τ 24) s.H) s ⟨K⟩⟩ ⟨W77_c34 P Φ u14 u15 s⟩
def W77_c36 (P : Program) (Φ : Exit → St → Prop) (u14 : St) (s : St) : Prop :=
  @sGrd (guardOf (s.τ 22) false) (some 24) s ⟨fun s K => @sOp (some 24) (xLoad 1 false (s.τ 23) s.H) s ⟨K⟩⟩ ⟨W77_c35 P Φ u14 s⟩
def W77_c37 (P : Program) (Φ : Exit → St → Prop) (s : St) : Prop :=
  @sOp (some 21) (xPick (s.τ 17) (.bool true) (s.τ 20) s.H) s <| .mk fun u13 =>
  @sOp (some 22) (xMov (u13.τ 21) u13.H) u13 <| .mk fun u14 =>
  @sGrd (guardOf (u14.τ 22) false) (some 23) u14 ⟨fun s K => @sOp (some 23) (xFld 3 (s.τ 5) s.H) s ⟨K⟩⟩ ⟨W77_c36 P Φ u14⟩
def W77_c38 (P : Program) (Φ : Exit → St → Prop) (s : St) : Prop :=
  @sGrd (guardOf (s.τ 17) false) (some 20) s ⟨fun s K => @sOp (some 20) (xBin .neq false (s.τ 19) (.str ⟨#[]⟩) s.H) s ⟨K⟩⟩ ⟨W77_c37 P Φ⟩
def W77_c39 (P : Program) (Φ : Exit → St → Prop) (s : St) : Prop :=
  @sGrd (guardOf (s.τ 17) false) (some 19) s ⟨fun s K => @sOp (some 19) (xLoad 1 false (s.τ 18) s.H) s ⟨K⟩⟩ ⟨W77_c38 P Φ⟩
def W77_c40 (P : Program) (Φ : Exit → St → Prop) (s : St) : Prop :=
  @sOp (some 16) (xPick (s.τ 12) (.bool true) (s.τ 15) s.H) s <| .mk fun u8 =>
  @sOp (some 17) (xMov (u8.τ 16) u8.H) u8 <| .mk fun u9 =>
  @sGrd (guardOf (u9.τ 17) false) (some 18) u9 ⟨fun s K => @sOp (some 18) (xFld 2 (s.τ 5) s.H) s ⟨K⟩⟩ ⟨W77_c39 P Φ⟩
def W77_c41 (P : Program) (Φ : Exit → St → Prop) (s : St) : Prop :=
  @sGrd (guardOf (s.τ 12) false) (some 15) s ⟨fun s K => @sOp (some 15) (xBin .gtr false (s.τ 14) (.int .i64 17) s.H) s ⟨K⟩⟩ ⟨W77_c40 P Φ⟩
def W77_c42 (P : Program) (Φ : Exit → St → Prop) (s : St) : Prop :=
  @sGrd (guardOf (s.τ 12) false) (some 14) s ⟨fun s K => @sOp (some 14) (xLoad 1 false (s.τ 13) s.H) s ⟨K⟩⟩ ⟨W77_c41 P Φ⟩
def W77_r43 (P : Program) (Φ : Exit → St → Prop) (s : St) : Prop :=
  @sOp (some 5) (xAlloc 5 31 [.int .i64 0, .int .i64 0, .str ⟨#[]⟩, .nils] s.H) s <| .mk fun s =>
  @sOp none (xStore 4 (s.τ 5) (s.τ 8) s.H) s <| .mk fun s =>
  @sOp (some 9) (xFld 0 (s.τ 5) s.H) s <| .mk fun u1 =>
  @sOp (some 10) (xLoad 1 false (u1.τ 9) u1.H) u1 <| .mk fun u2 =>
  @sOp (some 11) (xBin .lss false (u2.τ 10) (.int .i64 1) u2.H) u2 <| .mk fun u3 =>
  @sOp (some 12) (xMov (u3.τ 11) u3.H) u3 <| .mk fun u4 =>
  @sGrd (guardOf (u4.τ 12) false) (some 13) u4 ⟨fun s K => @sOp (some 13) (xFld 0 (s.τ 5) s.H) s ⟨K⟩⟩ ⟨W77_c42 P Φ⟩
def W77_c44 (P : Program) (Φ : Exit → St → Prop) (s : St) : Prop :=
  @sRange P (s.τ 7) [8] s ⟨fun Φ s => W77_r43 P Φ s⟩ ⟨(blkK 0 (thenK (W77_k1 P Φ) Φ))⟩
def W77 (P : Program) (Φ : Exit → St → Prop) (s : St) : Prop :=
  @sOp (some 2) (xBox 2 31 (s.τ 0) s.H) s <| .mk fun s =>
  @sOp (some 3) (xBox 3 3 (s.τ 1) s.H) s <| .mk fun s =>
  @sOp (some 4) (xAlloc 4 4 [.bool false] s.H) s <| .mk fun s =>
  @sOp (some 6) (xLoad 4 true (s.τ 2) s.H) s <| .mk fun s =>
  @sCall P (.func 98 []) [(s.τ 6)] (some 7) s ⟨W77_c44 P Φ⟩
theorem W77_rs (τ : Nat → AV) (H : Heap) : resV Try.prog τ H [.cell 4 4] = rdV H 1 false (τ 4) := by kernel_rfl
theorem W77_eq (Φ : Exit → St → Prop) (s : St) : awp Try.prog (Try.f77.body.getD .skip) Φ s = W77 Try.prog Φ s := by kernel_rfl

-- 78 "penance/penanceref5.in"
def W78_c1 (P : Program) (Φ : Exit → St → Prop) (s : St) : Prop :=
  @sOp (some 14) (xPick (s.τ 10) (s.τ 13) (.bool false) s.H) s <| .mk fun s =>
  @sOp (some 6) (xMov (s.τ 14) s.H) s <| .mk fun s =>
  Φ .ret s
def W78_c2 (P : Program) (Φ : Exit → St → Prop) (s : St) : Prop :=
  @sGrd (guardOf (s.τ 10) true) (some 13) s ⟨fun s K => @sOp (some 13) (xBin .lss false (s.τ 11) (s.τ 12) s.H) s ⟨K⟩⟩ ⟨W78_c1 P Φ⟩
def W78_c3 (P : Program) (Φ : Exit → St → Prop) (s : St) : Prop :=
  @sGrd (guardOf (s.τ 10) true) (some 12) s ⟨fun s K => @sOp (some 12) (xMov (s.τ 2) s.H) s ⟨K⟩⟩ ⟨W78_c2 P Φ⟩
def W78 (P : Program) (Φ : Exit → St → Prop) (s : St) : Prop :=
  @sOp (some 6) (xMov (.bool false) s.H) s <| .mk fun s =>
  @sOp (some 7) (xMov (s.τ 0) s.H) s <| .mk fun s =>
  @sOp (some 8) (xMov (s.τ 1) s.H) s <| .mk fun s =>
  @sOp (some 9) (xBin .geq false (s.τ 7) (s.τ 8) s.H) s <| .mk fun s =>
  @sOp (some 10) (xMov (s.τ 9) s.H) s <| .mk fun s =>
  @sGrd (guardOf (s.τ 10) true) (some 11) s ⟨fun s K => @sOp (some 11) (xMov (s.τ 0) s.H) s ⟨K⟩⟩ ⟨W78_c3 P Φ⟩
theorem W78_rs (τ : Nat → AV) (H : Heap) : resV Try.prog τ H [.tmp 6] = some (τ 6) := by kernel_rfl
theorem W78_eq (Φ : Exit → St → Prop) (s : St) : awp Try.prog (Try.f78.body.getD .skip) Φ s = W78 Try.prog Φ s := by kernel_rfl

-- 79 "penance/penanceref1.Key"
def W79_k1 (P : Program) (Φ : Exit → St → Prop) (s : St) : Prop :=
  @sOp (some 2) (xMov (.bool false) s.H) s <| .mk fun s =>
  Φ .ret s
def W79_k2 (P : Program) (Φ : Exit → St → Prop) (L0 : St → Prop) (s : St) : Prop :=
  @sOp (some 16) (xMov (s.τ 3) s.H) s <| .mk fun s =>
  @sOp (some 17) (xBin .add false (s.τ 16) (.int .i64 1) s.H) s <| .mk fun s =>
  @sOp (some 3) (xMov (s.τ 17) s.H) s <| .mk fun s =>
  L0 s
def W79_k3 (P : Program) (Φ : Exit → St → Prop) (L0 : St → Prop) (s : St) : Prop :=
  @sOp (some 2) (xMov (.bool true) s.H) s <| .mk fun s =>
  Φ .ret s
def W79_b4 (P : Program) (Φ : Exit → St → Prop) (L0 : St → Prop) (L1 : St → Prop) (s : St) : Prop :=
  @sOp (some 2) (xMov (.bool false) s.H) s <| .mk fun s =>
  Φ .ret s
def W79_b5 (P : Program) (Φ : Exit → St → Prop) (L0 : St → Prop) (L1 : St → Prop) (s : St) : Prop :=
  @sOp (some 46) (xMov (s.τ 4) s.H) s <| .mk fun s =>
  @sOp (some 47) (xBin .add false (s.τ 46) (.int .i64 1) s.H) s <| .mk fun s =>
  @sOp (some 4) (xMov (s.τ 47) s.H) s <| .mk fun s =>
  L1 s
def W79_b6 (P : Program) (Φ : Exit → St → Prop) (L0 : St → Prop) (L1 : St → Prop) (s : St) : Prop :=
  @sOp (some 48) (xMov (s.τ 0) s.H) s <| .mk fun s =>
  @sOp (some 49) (xMov (s.τ 4) s.H) s <| .mk fun s =>
  @sOp (some 50) (xSix (s.τ 48) (s.τ 49) s.H) s <| .mk fun s =>
  @sOp (some 51) (xBin .eql false (s.τ 50) (.int .u8 32) s.H) s <| .mk fun s =>
  @sIf (s.τ 51) ⟨W79_b4 P Φ L0 L1 s⟩ ⟨W79_b5 P Φ L0 L1 s⟩
def W79_l7 (P : Program) (Φ : Exit → St → Prop) (L0 : St → Prop) (L1 : St → Prop) (s : St) : Prop :=
  @sOp (some 42) (xMov (s.τ 4) s.H) s <| .mk fun s =>
  @sOp (some 43) (xMov (s.τ 0) s.H) s <| .mk fun s =>
  @sOp (some 44) (xSlen (s.τ 43) s.H) s <| .mk fun s =>
  @sOp (some 45) (xBin .lss false (s.τ 42) (s.τ 44) s.H) s <| .mk fun s =>
  @sIf (s.τ 45) ⟨W79_b6 P Φ L0 L1 s⟩ ⟨W79_k3 P Φ L0 s⟩
def W79_b8 (P : Program) (Φ : Exit → St → Prop) (L0 : St → Prop) (s : St) : Prop :=
  @sOp (some 4) (xMov (.int .i64 0) s.H) s <| .mk fun s =>
  @sLoop s ⟨fun L1 s => W79_l7 P Φ L0 L1 s⟩
def W79_c9 (P : Program) (Φ : Exit → St → Prop) (L0 : St → Prop) (s : St) : Prop :=
  @sOp (some 41) (xPick (s.τ 30) (s.τ 40) (.bool false) s.H) s <| .mk fun s =>
  @sIf (s.τ 41) ⟨W79_b8 P Φ L0 s⟩ ⟨W79_k2 P Φ L0 s⟩
def W79_c10 (P : Program) (Φ : Exit → St → Prop) (L0 : St → Prop) (s : St) : Prop :=
  @sGrd (guardOf (s.τ 30) true) (some 40) s ⟨fun s K => @sOp (some 40) (xBin .eql false (s.τ 38) (s.τ 39) s.H) s ⟨K⟩⟩ ⟨W79_c9 P Φ L0⟩
def W79_c11 (P : Program) (Φ : Exit → St → Prop) (L0 : St → Prop) (s : St) : Prop :=
  @sGrd (guardOf (s.τ 30) true) (some 39) s ⟨fun s K => @sOp (some 39) (xMov (s.τ 0) s.H) s ⟨K⟩⟩ ⟨W79_c10 P Φ L0⟩
def W79_c12 (P : Program) (Φ : Exit → St → Prop) (L0 : St → Prop) (s : St) : Prop :=
  @sGrd (guardOf (s.τ 30) true) (some 38) s ⟨fun s K => @sOp (some 38) (xSsl (.str ⟨#[32, 118, 97, 114, 32, 115, 116, 97, 99, 107, 32, 112, 114, 111, 99, 32, 115, 107, 105, 112, 32, 100, 111, 32, 112, 117, 115, 104, 32, 114, 101, 118, 101, 114, 115, 101, 32, 97, 99, 99, 101, 112, 116, 32, 109, 101, 114, 103, 101, 32, 98, 108, 111, 99, 107, 32, 101, 120, 105, 116, 32, 105, 102, 32, 101, 108, 115, 101, 32, 99, 104, 111, 111, 115, 101, 32, 112, 97, 114, 32, 99, 97, 108, 108, 32]⟩) (some (s.τ 32)) (some (s.τ 37)) s.H) s ⟨K⟩⟩ ⟨W79_c11 P Φ L0⟩
def W79_c13 (P : Program) (Φ : Exit → St → Prop) (L0 : St → Prop) (s : St) : Prop :=
  @sGrd (guardOf (s.τ 30) true) (some 37) s ⟨fun s K => @sOp (some 37) (xBin .add false (s.τ 34) (s.τ 36) s.H) s ⟨K⟩⟩ ⟨W79_c12 P Φ L0⟩
def W79_c14 (P : Program) (Φ : Exit → St → Prop) (L0 : St → Prop) (s : St) : Prop :=
  @sGrd (guardOf (s.τ 30) true) (some 36) s ⟨fun s K => @sOp (some 36) (xSlen (s.τ 35) s.H) s ⟨K⟩⟩ ⟨W79_c13 P Φ L0⟩
def W79_c15 (P : Program) (Φ : Exit → St → Prop) (L0 : St → Prop) (s : St) : Prop :=
  @sGrd (guardOf (s.τ 30) true) (some 35) s ⟨fun s K => @sOp (some 35) (xMov (s.τ 0) s.H) s ⟨K⟩⟩ ⟨W79_c14 P Φ L0⟩
def W79_c16 (P : Program) (Φ : Exit → St → Prop) (L0 : St → Prop) (s : St) : Prop :=
  @sGrd (guardOf (s.τ 30) true) (some 34) s ⟨fun s K => @sOp (some 34) (xBin .add false (s.τ 33) (.int .i64 1) s.H) s ⟨K⟩⟩ ⟨W79_c15 P Φ L0⟩
def W79_c17 (P : Program) (Φ : Exit → St → Prop) (L0 : St → Prop) (s : St) : Prop :=
  @sGrd (guardOf (s.τ 30) true) (some 33) s ⟨fun s K => @sOp (some 33) (xMov (s.τ 3) s.H) s ⟨K⟩⟩ ⟨W79_c16 P Φ L0⟩
def W79_c18 (P : Program) (Φ : Exit → St → Prop) (L0 : St → Prop) (s : St) : Prop :=
  @sGrd (guardOf (s.τ 30) true) (some 32) s ⟨fun s K => @sOp (some 32) (xBin .add false (s.τ 31) (.int .i64 1) s.H) s ⟨K⟩⟩ ⟨W79_c17 P Φ L0⟩
def W79_c19 (P : Program) (Φ : Exit → St → Prop) (L0 : St → Prop) (s : St) : Prop :=
  @sOp (some 29) (xPick (s.τ 21) (s.τ 28) (.bool false) s.H) s <| .mk fun s =>
  @sOp (some 30) (xMov (s.τ 29) s.H) s <| .mk fun s =>
  @sGrd (guardOf (s.τ 30) true) (some 31) s ⟨fun s K => @sOp (some 31) (xMov (s.τ 3) s.H) s ⟨K⟩⟩ ⟨W79_c18 P Φ L0⟩
def W79_c20 (P : Program) (Φ : Exit → St → Prop) (L0 : St → Prop) (s : St) : Prop :=
  @sGrd (guardOf (s.τ 21) true) (some 28) s ⟨fun s K => @sOp (some 28) (xBin .eql false (s.τ 27) (.int .u8 32) s.H) s ⟨K⟩⟩ ⟨W79_c19 P Φ L0⟩
def W79_c21 (P : Program) (Φ : Exit → St → Prop) (L0 : St → Prop) (s : St) : Prop :=
  @sGrd (guardOf (s.τ 21) true) (some 27) s ⟨fun s K => @sOp (some 27) (xSix (.str ⟨#[32, 118, 97, 114, 32, 115, 116, 97, 99, 107, 32, 112, 114, 111, 99, 32, 115, 107, 105, 112, 32, 100, 111, 32, 112, 117, 115, 104, 32, 114, 101, 118, 101, 114, 115, 101, 32, 97, 99, 99, 101, 112, 116, 32, 109, 101, 114, 103, 101, 32, 98, 108, 111, 99, 107, 32, 101, 120, 105, 116, 32, 105, 102, 32, 101, 108, 115, 101, 32, 99, 104, 111, 111, 115, 101, 32, 112, 97, 114, 32, 99, 97, 108, 108, 32]⟩) (s.τ 26) s.H) s ⟨K⟩⟩ ⟨W79_c20 P Φ L0⟩
def W79_c22 (P : Program) (Φ : Exit → St → Prop) (L0 : St → Prop) (s : St) : Prop :=
  @sGrd (guardOf (s.τ 21) true) (some 26) s ⟨fun s K => @sOp (some 26) (xBin .add false (s.τ 25) (.int .i64 1) s.H) s ⟨K⟩⟩ ⟨W79_c21 P Φ L0⟩
def W79_c23 (P : Program) (Φ : Exit → St → Prop) (L0 : St → Prop) (s : St) : Prop :=
  @sGrd (guardOf (s.τ 21) true) (some 25) s ⟨fun s K => @sOp (some 25) (xBin .add false (s.τ 22) (s.τ 24) s.H) s ⟨K⟩⟩ ⟨W79_c22 P Φ L0⟩
def W79_c24 (P : Program) (Φ : Exit → St → Prop) (L0 : St → Prop) (s : St) : Prop :=
  @sGrd (guardOf (s.τ 21) true) (some 24) s ⟨fun s K => @sOp (some 24) (xSlen (s.τ 23) s.H) s ⟨K⟩⟩ ⟨W79_c23 P Φ L0⟩
def W79_c25 (P : Program) (Φ : Exit → St → Prop) (L0 : St → Prop) (s : St) : Prop :=
  @sGrd (guardOf (s.τ 21) true) (some 23) s ⟨fun s K => @sOp (some 23) (xMov (s.τ 0) s.H) s ⟨K⟩⟩ ⟨W79_c24 P Φ L0⟩
def W79_b26 (P : Program) (Φ : Exit → St → Prop) (L0 : St → Prop) (s : St) : Prop :=
  @sOp (some 18) (xMov (s.τ 3) s.H) s <| .mk fun s =>
  @sOp (some 19) (xSix (.str ⟨#[32, 118, 97, 114, 32, 115, 116, 97, 99, 107, 32, 112, 114, 111, 99, 32, 115, 107, 105, 112, 32, 100, 111, 32, 112, 117, 115, 104, 32, 114, 101, 118, 101, 114, 115, 101, 32, 97, 99, 99, 101, 112, 116, 32, 109, 101, 114, 103, 101, 32, 98, 108, 111, 99, 107, 32, 101, 120, 105, 116, 32, 105, 102, 32, 101, 108, 115, 101, 32, 99, 104, 111, 111, 115, 101, 32, 112, 97, 114, 32, 99, 97, 108, 108, 32]⟩) (s.τ 18) s.H) s <| .mk fun s =>
  @sOp (some 20) (xBin .eql false (s.τ 19) (.int .u8 32) s.H) s <| .mk fun s =>
  @sOp (some 21) (xMov (s.τ 20) s.H) s <| .mk fun s =>
  @sGrd (guardOf (s.τ 21) true) (some 22) s ⟨fun s K => @sOp (some 22) (xMov (s.τ 3) s.H) s ⟨K⟩⟩ ⟨W79_c25 P Φ L0⟩
def W79_c27 (P : Program) (Φ : Exit → St → Prop) (L0 : St → Prop) (s : St) : Prop :=
  @sOp (some 15) (xPick (s.τ 11) (s.τ 14) (.bool false) s.H) s <| .mk fun s =>
  @sIf (s.τ 15) ⟨W79_b26 P Φ L0 s⟩ ⟨W79_k1 P Φ s⟩
def W79_c28 (P : Program) (Φ : Exit → St → Prop) (L0 : St → Prop) (s : St) : Prop :=
  @sGrd (guardOf (s.τ 11) true) (some 14) s ⟨fun s K => @sOp (some 14) (xBin .gtr false (s.τ 13) (.int .i64 0) s.H) s ⟨K⟩⟩ ⟨W79_c27 P Φ L0⟩
def W79_c29 (P : Program) (Φ : Exit → St → Prop) (L0 : St → Prop) (s : St) : Prop :=
  @sGrd (guardOf (s.τ 11) true) (some 13) s ⟨fun s K => @sOp (some 13) (xSlen (s.τ 12) s.H) s ⟨K⟩⟩ ⟨W79_c28 P Φ L0⟩
def W79_l30 (P : Program) (Φ : Exit → St → Prop) (L0 : St → Prop) (s : St) : Prop :=
  @sOp (some 5) (xMov (s.τ 3) s.H) s <| .mk fun s =>
  @sOp (some 6) (xMov (s.τ 0) s.H) s <| .mk fun s =>
  @sOp (some 7) (xSlen (s.τ 6) s.H) s <| .mk fun s =>
  @sOp (some 8) (xBin .add false (s.τ 5) (s.τ 7) s.H) s <| .mk fun s =>
  @sOp (some 9) (xBin .add false (s.τ 8) (.int .i64 2) s.H) s <| .mk fun s =>
  @sOp (some 10) (xBin .leq false (s.τ 9) (.int .i64 85) s.H) s <| .mk fun s =>
  @sOp (some 11) (xMov (s.τ 10) s.H) s <| .mk fun s =>
  @sGrd (guardOf (s.τ 11) true) (some 12) s ⟨fun s K => @sOp (some 12) (xMov (s.τ 0) s.H) s ⟨K⟩⟩ ⟨W79_c29 P Φ L0⟩
def W79 (P : Program) (Φ : Exit → St → Prop) (s : St) : Prop :=
  @sOp (some 2) (xMov (.bool false) s.H) s <| .mk fun s =>
  @sOp (some 3) (xMov (.int .i64 0) s.H) s <| .mk fun s =>
  @sLoop s ⟨fun L0 s => W79_l30 P Φ L0 s⟩
theorem W79_rs (τ : Nat → AV) (H : Heap) : resV Try.prog τ H [.tmp 2] = some (τ 2) := by kernel_rfl
theorem W79_eq (Φ : Exit → St → Prop) (s : St) : awp Try.prog (Try.f79.body.getD .skip) Φ s = W79 Try.prog Φ s := by kernel_rfl

-- 80 "penance/penanceref1.word"
def W80_c1 (P : Program) (Φ : Exit → St → Prop) (s : St) : Prop :=
  @sOp (some 26) (xPick (s.τ 11) (.bool true) (s.τ 25) s.H) s <| .mk fun s =>
  @sOp (some 4) (xMov (s.τ 26) s.H) s <| .mk fun s =>
  Φ .ret s
def W80_c2 (P : Program) (Φ : Exit → St → Prop) (s : St) : Prop :=
  @sGrd (guardOf (s.τ 11) false) (some 25) s ⟨fun s K => @sOp (some 25) (xPick (s.τ 14) (s.τ 24) (.bool false) s.H) s ⟨K⟩⟩ ⟨W80_c1 P Φ⟩
def W80_c3 (P : Program) (Φ : Exit → St → Prop) (s : St) : Prop :=
  @sGrd (guardOf (s.τ 14) true) (some 24) s ⟨fun s K => @sOp (some 24) (xPick (s.τ 21) (.bool true) (s.τ 23) s.H) s ⟨K⟩⟩ ⟨W80_c2 P Φ⟩
def W80_c4 (P : Program) (Φ : Exit → St → Prop) (s : St) : Prop :=
  @sGrd (guardOf (s.τ 21) false) (some 23) s ⟨fun s K => @sOp (some 23) (xBin .eql false (s.τ 22) (.int .u8 95) s.H) s ⟨K⟩⟩ ⟨W80_c3 P Φ⟩
def W80_c5 (P : Program) (Φ : Exit → St → Prop) (s : St) : Prop :=
  @sGrd (guardOf (s.τ 21) false) (some 22) s ⟨fun s K => @sOp (some 22) (xMov (s.τ 0) s.H) s ⟨K⟩⟩ ⟨W80_c4 P Φ⟩
def W80_c6 (P : Program) (Φ : Exit → St → Prop) (s : St) : Prop :=
  @sGrd (guardOf (s.τ 14) true) (some 21) s ⟨fun s K => @sOp (some 21) (xMov (s.τ 20) s.H) s ⟨K⟩⟩ ⟨W80_c5 P Φ⟩
def W80_c7 (P : Program) (Φ : Exit → St → Prop) (s : St) : Prop :=
  @sGrd (guardOf (s.τ 14) true) (some 20) s ⟨fun s K => @sOp (some 20) (xPick (s.τ 17) (s.τ 19) (.bool false) s.H) s ⟨K⟩⟩ ⟨W80_c6 P Φ⟩
def W80_c8 (P : Program) (Φ : Exit → St → Prop) (s : St) : Prop :=
  @sGrd (guardOf (s.τ 17) true) (some 19) s ⟨fun s K => @sOp (some 19) (xBin .leq false (s.τ 18) (.int .u8 57) s.H) s ⟨K⟩⟩ ⟨W80_c7 P Φ⟩
def W80_c9 (P : Program) (Φ : Exit → St → Prop) (s : St) : Prop :=
  @sGrd (guardOf (s.τ 17) true) (some 18) s ⟨fun s K => @sOp (some 18) (xMov (s.τ 0) s.H) s ⟨K⟩⟩ ⟨W80_c8 P Φ⟩
def W80_c10 (P : Program) (Φ : Exit → St → Prop) (s : St) : Prop :=
  @sGrd (guardOf (s.τ 14) true) (some 17) s ⟨fun s K => @sOp (some 17) (xMov (s.τ 16) s.H) s ⟨K⟩⟩ ⟨W80_c9 P Φ⟩
def W80_c11 (P : Program) (Φ : Exit → St → Prop) (s : St) : Prop :=
  @sGrd (guardOf (s.τ 14) true) (some 16) s ⟨fun s K => @sOp (some 16) (xBin .geq false (s.τ 15) (.int .u8 48) s.H) s ⟨K⟩⟩ ⟨W80_c10 P Φ⟩
def W80_c12 (P : Program) (Φ : Exit → St → Prop) (s : St) : Prop :=
  @sGrd (guardOf (s.τ 14) true) (some 15) s ⟨fun s K => @sOp (some 15) (xMov (s.τ 0) s.H) s ⟨K⟩⟩ ⟨W80_c11 P Φ⟩
def W80_c13 (P : Program) (Φ : Exit → St → Prop) (s : St) : Prop :=
  @sGrd (guardOf (s.τ 11) false) (some 14) s ⟨fun s K => @sOp (some 14) (xMov (s.τ 13) s.H) s ⟨K⟩⟩ ⟨W80_c12 P Φ⟩
def W80_c14 (P : Program) (Φ : Exit → St → Prop) (s : St) : Prop :=
  @sGrd (guardOf (s.τ 11) false) (some 13) s ⟨fun s K => @sOp (some 13) (xNot (s.τ 12) s.H) s ⟨K⟩⟩ ⟨W80_c13 P Φ⟩
def W80_c15 (P : Program) (Φ : Exit → St → Prop) (s : St) : Prop :=
  @sOp (some 10) (xPick (s.τ 7) (s.τ 9) (.bool false) s.H) s <| .mk fun s =>
  @sOp (some 11) (xMov (s.τ 10) s.H) s <| .mk fun s =>
  @sGrd (guardOf (s.τ 11) false) (some 12) s ⟨fun s K => @sOp (some 12) (xMov (s.τ 1) s.H) s ⟨K⟩⟩ ⟨W80_c14 P Φ⟩
def W80_c16 (P : Program) (Φ : Exit → St → Prop) (s : St) : Prop :=
  @sGrd (guardOf (s.τ 7) true) (some 9) s ⟨fun s K => @sOp (some 9) (xBin .leq false (s.τ 8) (.int .u8 122) s.H) s ⟨K⟩⟩ ⟨W80_c15 P Φ⟩
def W80 (P : Program) (Φ : Exit → St → Prop) (s : St) : Prop :=
  @sOp (some 4) (xMov (.bool false) s.H) s <| .mk fun s =>
  @sOp (some 5) (xMov (s.τ 0) s.H) s <| .mk fun s =>
  @sOp (some 6) (xBin .geq false (s.τ 5) (.int .u8 97) s.H) s <| .mk fun s =>
  @sOp (some 7) (xMov (s.τ 6) s.H) s <| .mk fun s =>
  @sGrd (guardOf (s.τ 7) true) (some 8) s ⟨fun s K => @sOp (some 8) (xMov (s.τ 0) s.H) s ⟨K⟩⟩ ⟨W80_c16 P Φ⟩
theorem W80_rs (τ : Nat → AV) (H : Heap) : resV Try.prog τ H [.tmp 4] = some (τ 4) := by kernel_rfl
theorem W80_eq (Φ : Exit → St → Prop) (s : St) : awp Try.prog (Try.f80.body.getD .skip) Φ s = W80 Try.prog Φ s := by kernel_rfl

end Go.Proofs.Ytkagfenchknjjaa
