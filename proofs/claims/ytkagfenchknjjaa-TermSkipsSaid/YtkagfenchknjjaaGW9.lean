import Derived.Test.YtkagfenchknjjaaGA5
import Derived.Test.YtkagfenchknjjaaProg
import Derived.KernelRfl
set_option linter.unusedVariables false
namespace Go.Proofs.Ytkagfenchknjjaa
open Go Go.Am
-- 70 "penance/penanceref4.Lower"
def W70_b1 (P : Program) (Φ : Exit → St → Prop) (s : St) : Prop :=
  @sOp (some 26) (xBuild [.nils, .int .i64 0, .nils, .int .i64 0] [] s.H) s <| .mk fun s =>
  @sOp none (xStore 4 (s.τ 2) (s.τ 26) s.H) s <| .mk fun s =>
  @sOp (some 3) (xMov (.int .i64 3) s.H) s <| .mk fun s =>
  Φ .ret s
def W70_b2 (P : Program) (Φ : Exit → St → Prop) (s : St) : Prop :=
  @sOp (some 43) (xBuild [.nils, .int .i64 0, .nils, .int .i64 0] [] s.H) s <| .mk fun s =>
  @sOp none (xStore 4 (s.τ 2) (s.τ 43) s.H) s <| .mk fun s =>
  @sOp (some 3) (xMov (.int .i64 5) s.H) s <| .mk fun s =>
  Φ .ret s
def W70_b3 (P : Program) (Φ : Exit → St → Prop) (s : St) : Prop :=
  @sOp (some 99) (xBuild [.nils, .int .i64 0, .nils, .int .i64 0] [] s.H) s <| .mk fun s =>
  @sOp none (xStore 4 (s.τ 2) (s.τ 99) s.H) s <| .mk fun s =>
  @sOp (some 3) (xMov (.int .i64 4) s.H) s <| .mk fun s =>
  Φ .ret s
def W70_b4 (P : Program) (Φ : Exit → St → Prop) (s : St) : Prop :=
  @sOp (some 104) (xBuild [.nils, .int .i64 0, .nils, .int .i64 0] [] s.H) s <| .mk fun s =>
  @sOp none (xStore 4 (s.τ 2) (s.τ 104) s.H) s <| .mk fun s =>
  @sOp (some 3) (xMov (.int .i64 6) s.H) s <| .mk fun s =>
  Φ .ret s
def W70_b5 (P : Program) (Φ : Exit → St → Prop) (s : St) : Prop :=
  @sOp (some 108) (xBuild [.nils, .int .i64 0, .nils, .int .i64 0] [] s.H) s <| .mk fun s =>
  @sOp none (xStore 4 (s.τ 2) (s.τ 108) s.H) s <| .mk fun s =>
  @sOp (some 3) (xMov (.int .i64 7) s.H) s <| .mk fun s =>
  Φ .ret s
def W70_b6 (P : Program) (Φ : Exit → St → Prop) (s : St) : Prop :=
  @sOp (some 109) (xLoad 4 true (s.τ 7) s.H) s <| .mk fun s =>
  @sOp none (xStore 4 (s.τ 2) (s.τ 109) s.H) s <| .mk fun s =>
  @sOp (some 3) (xMov (.int .i64 0) s.H) s <| .mk fun s =>
  Φ .ret s
def W70_c7 (P : Program) (Φ : Exit → St → Prop) (s : St) : Prop :=
  @sOp (some 105) (xMov (s.τ 107) s.H) s <| .mk fun s =>
  @sIf (s.τ 105) ⟨W70_b5 P Φ s⟩ ⟨W70_b6 P Φ s⟩
def W70_b8 (P : Program) (Φ : Exit → St → Prop) (s : St) : Prop :=
  @sOp (some 106) (xLoad 3 true (s.τ 1) s.H) s <| .mk fun s =>
  @sCall P (.func 93 []) [(s.τ 106)] (some 107) s ⟨W70_c7 P Φ⟩
def W70_b9 (P : Program) (Φ : Exit → St → Prop) (s : St) : Prop :=
  @sOp (some 101) (xFld 3 (s.τ 7) s.H) s <| .mk fun s =>
  @sOp (some 102) (xLoad 1 false (s.τ 101) s.H) s <| .mk fun s =>
  @sOp (some 103) (xBin .lss false (s.τ 102) (.int .i64 0) s.H) s <| .mk fun s =>
  @sOp (some 100) (xMov (s.τ 103) s.H) s <| .mk fun s =>
  @sIf (s.τ 100) ⟨W70_b4 P Φ s⟩ ⟨W70_b8 P Φ s⟩
def W70_k10 (P : Program) (Φ : Exit → St → Prop) (s : St) : Prop :=
  @sOp (some 95) (xMov (s.τ 6) s.H) s <| .mk fun s =>
  @sOp (some 96) (xNil (s.τ 95) s.H) s <| .mk fun s =>
  @sOp (some 97) (xFld 3 (s.τ 96) s.H) s <| .mk fun s =>
  @sOp (some 98) (xLoad 1 false (s.τ 97) s.H) s <| .mk fun s =>
  @sOp (some 94) (xMov (s.τ 98) s.H) s <| .mk fun s =>
  @sIf (s.τ 94) ⟨W70_b3 P Φ s⟩ ⟨W70_b9 P Φ s⟩
def W70_c11 (P : Program) (Φ : Exit → St → Prop) (L0 : St → Prop) (u0 : St) (u1 : St) (s : St) : Prop :=
  @sChk (compat (occ (u0.τ 7), []) ([91] ++ occL [(s.τ 90)], [91] ++ occL [(s.τ 90)])) <| .mk <|
  @sChk (compat (occ (u1.τ 81), []) ([91] ++ occL [(s.τ 90)], [91] ++ occL [(s.τ 90)])) <| .mk <|
  @sOp (some 91) (xLit 9 1 [.int .i64 0, .int .i64 0, .int .i64 0, .str ⟨#[]⟩, .int .i64 0, .int .i64 0, .str ⟨#[]⟩, .nils, .nils] [(0, (s.τ 90))] s.H) s <| .mk fun u11 =>
  @sOp (some 92) (xApp P 34 9 120 (some 92) (u11.τ 82) (u11.τ 91) u11.H) u11 <| .mk fun u12 =>
  @sOp (some 93) (xFld 2 (u12.τ 7) u12.H) u12 <| .mk fun u13 =>
  @sOp none (xStore 1 (u13.τ 93) (u13.τ 92) u13.H) u13 <| .mk fun s =>
  @sOp (some 79) (xMov (s.τ 9) s.H) s <| .mk fun s =>
  @sOp (some 80) (xBin .add false (s.τ 79) (.int .i64 1) s.H) s <| .mk fun s =>
  @sOp (some 9) (xMov (s.τ 80) s.H) s <| .mk fun s =>
  L0 s
def W70_b12 (P : Program) (Φ : Exit → St → Prop) (L0 : St → Prop) (s : St) : Prop :=
  @sOp (some 81) (xFld 2 (s.τ 7) s.H) s <| .mk fun u1 =>
  @sOp (some 82) (xLoad 1 false (u1.τ 81) u1.H) u1 <| .mk fun u2 =>
  @sOp (some 83) (xMov (u2.τ 6) u2.H) u2 <| .mk fun u3 =>
  @sOp (some 84) (xFld 2 (u3.τ 1) u3.H) u3 <| .mk fun u4 =>
  @sOp (some 85) (xLoad 1 false (u4.τ 84) u4.H) u4 <| .mk fun u5 =>
  @sOp (some 86) (xMov (u5.τ 9) u5.H) u5 <| .mk fun u6 =>
  @sOp (some 87) (xIx 9 (u6.τ 85) (u6.τ 86) u6.H) u6 <| .mk fun u7 =>
  @sOp (some 88) (xFld 1 (u7.τ 87) u7.H) u7 <| .mk fun u8 =>
  @sOp (some 89) (xLoad 8 true (u8.τ 88) u8.H) u8 <| .mk fun u9 =>
  @sChk (compat (occ (s.τ 7), []) ([90] ++ (occ (.func 92 []) ++ occL [(u9.τ 83), (u9.τ 89)]), [90] ++ (occ (.func 92 []) ++ occL [(u9.τ 83), (u9.τ 89)]))) <| .mk <|
  @sChk (compat (occ (u1.τ 81), []) ([90] ++ (occ (.func 92 []) ++ occL [(u9.τ 83), (u9.τ 89)]), [90] ++ (occ (.func 92 []) ++ occL [(u9.τ 83), (u9.τ 89)]))) <| .mk <|
  @sCall0 P (.func 92 []) [(u9.τ 83), (u9.τ 89)] (some 90) u9 ⟨W70_c11 P Φ L0 s u1⟩
def W70_l13 (P : Program) (Φ : Exit → St → Prop) (L0 : St → Prop) (s : St) : Prop :=
  @sOp (some 74) (xMov (s.τ 9) s.H) s <| .mk fun s =>
  @sOp (some 75) (xFld 2 (s.τ 1) s.H) s <| .mk fun s =>
  @sOp (some 76) (xLoad 1 false (s.τ 75) s.H) s <| .mk fun s =>
  @sOp (some 77) (xLen (s.τ 76) s.H) s <| .mk fun s =>
  @sOp (some 78) (xBin .lss false (s.τ 74) (s.τ 77) s.H) s <| .mk fun s =>
  @sIf (s.τ 78) ⟨W70_b12 P Φ L0 s⟩ ⟨W70_k10 P Φ s⟩
def W70_k14 (P : Program) (Φ : Exit → St → Prop) (s : St) : Prop :=
  @sOp (some 9) (xMov (.int .i64 0) s.H) s <| .mk fun s =>
  @sLoop s ⟨fun L0 s => W70_l13 P Φ L0 s⟩
def W70_b15 (P : Program) (Φ : Exit → St → Prop) (L0 : St → Prop) (s : St) : Prop :=
  @sOp (some 63) (xFld 0 (s.τ 7) s.H) s <| .mk fun u1 =>
  @sOp (some 64) (xLoad 1 false (u1.τ 63) u1.H) u1 <| .mk fun u2 =>
  @sOp (some 65) (xFld 0 (u2.τ 1) u2.H) u2 <| .mk fun u3 =>
  @sOp (some 66) (xLoad 1 false (u3.τ 65) u3.H) u3 <| .mk fun u4 =>
  @sOp (some 67) (xMov (u4.τ 8) u4.H) u4 <| .mk fun u5 =>
  @sOp (some 68) (xIx 2 (u5.τ 66) (u5.τ 67) u5.H) u5 <| .mk fun u6 =>
  @sOp (some 69) (xFld 1 (u6.τ 68) u6.H) u6 <| .mk fun u7 =>
  @sOp (some 70) (xLoad 1 false (u7.τ 69) u7.H) u7 <| .mk fun u8 =>
  @sChk (compat (occ (s.τ 7), []) ([71] ++ occL [(u8.τ 70)], [71] ++ occL [(u8.τ 70)])) <| .mk <|
  @sChk (compat (occ (u1.τ 63), []) ([71] ++ occL [(u8.τ 70)], [71] ++ occL [(u8.τ 70)])) <| .mk <|
  @sOp (some 71) (xLit 1 1 [.int .i64 0] [(0, (u8.τ 70))] u8.H) u8 <| .mk fun u9 =>
  @sOp (some 72) (xApp P 3 1 8 (some 72) (u9.τ 64) (u9.τ 71) u9.H) u9 <| .mk fun u10 =>
  @sOp (some 73) (xFld 0 (u10.τ 7) u10.H) u10 <| .mk fun u11 =>
  @sOp none (xStore 1 (u11.τ 73) (u11.τ 72) u11.H) u11 <| .mk fun s =>
  @sOp (some 61) (xMov (s.τ 8) s.H) s <| .mk fun s =>
  @sOp (some 62) (xBin .add false (s.τ 61) (.int .i64 1) s.H) s <| .mk fun s =>
  @sOp (some 8) (xMov (s.τ 62) s.H) s <| .mk fun s =>
  L0 s
def W70_l16 (P : Program) (Φ : Exit → St → Prop) (L0 : St → Prop) (s : St) : Prop :=
  @sOp (some 56) (xMov (s.τ 8) s.H) s <| .mk fun s =>
  @sOp (some 57) (xFld 0 (s.τ 1) s.H) s <| .mk fun s =>
  @sOp (some 58) (xLoad 1 false (s.τ 57) s.H) s <| .mk fun s =>
  @sOp (some 59) (xLen (s.τ 58) s.H) s <| .mk fun s =>
  @sOp (some 60) (xBin .lss false (s.τ 56) (s.τ 59) s.H) s <| .mk fun s =>
  @sIf (s.τ 60) ⟨W70_b15 P Φ L0 s⟩ ⟨W70_k14 P Φ s⟩
def W70_c17 (P : Program) (Φ : Exit → St → Prop) (u0 : St) (u1 : St) (u2 : St) (u4 : St) (s : St) : Prop :=
  @sOp (some 55) (xBuild [.nils, .int .i64 0, .nils, .int .i64 0] [(1, 1, (s.τ 52)), (3, 1, (s.τ 54))] s.H) s <| .mk fun u6 =>
  @sChk (compat (occ (u0.τ 1), []) ([7], [7])) <| .mk <|
  @sChk (compat (occ (u1.τ 50), []) ([7], [7])) <| .mk <|
  @sChk (compat (occ (u2.τ 51), []) ([7], [7])) <| .mk <|
  @sChk (compat ([54] ++ (occ (.func 91 []) ++ occL [(u4.τ 53), (.str ⟨#[109, 97, 105, 110]⟩)]), [54] ++ (occ (.func 91 []) ++ occL [(u4.τ 53), (.str ⟨#[109, 97, 105, 110]⟩)])) ([7], [7])) <| .mk <|
  @sOp (some 7) (xAlloc 7 106 [.nils, .int .i64 0, .nils, .int .i64 0] u6.H) u6 <| .mk fun u7 =>
  @sOp none (xStore 4 (u7.τ 7) (u7.τ 55) u7.H) u7 <| .mk fun s =>
  @sOp (some 8) (xMov (.int .i64 0) s.H) s <| .mk fun s =>
  @sLoop s ⟨fun L0 s => W70_l16 P Φ L0 s⟩
def W70_b18 (P : Program) (Φ : Exit → St → Prop) (s : St) : Prop :=
  @sOp (some 44) (xMov (s.τ 4) s.H) s <| .mk fun s =>
  @sOp (some 45) (xFld 1 (s.τ 1) s.H) s <| .mk fun s =>
  @sOp (some 46) (xLoad 1 false (s.τ 45) s.H) s <| .mk fun s =>
  @sOp (some 47) (xMov (s.τ 5) s.H) s <| .mk fun s =>
  @sOp (some 48) (xBuild [.nils, .nils, .nils, .bool false] [(0, 1, (s.τ 44)), (1, 1, (s.τ 46)), (2, 1, (s.τ 47))] s.H) s <| .mk fun s =>
  @sOp (some 49) (xBox 49 133 (s.τ 48) s.H) s <| .mk fun s =>
  @sOp (some 6) (xMov (s.τ 49) s.H) s <| .mk fun s =>
  @sOp (some 50) (xFld 1 (s.τ 1) s.H) s <| .mk fun u1 =>
  @sOp (some 51) (xLoad 1 false (u1.τ 50) u1.H) u1 <| .mk fun u2 =>
  @sOp (some 52) (xLen (u2.τ 51) u2.H) u2 <| .mk fun u3 =>
  @sOp (some 53) (xMov (u3.τ 5) u3.H) u3 <| .mk fun u4 =>
  @sChk (compat (occ (s.τ 1), []) ([54] ++ (occ (.func 91 []) ++ occL [(u4.τ 53), (.str ⟨#[109, 97, 105, 110]⟩)]), [54] ++ (occ (.func 91 []) ++ occL [(u4.τ 53), (.str ⟨#[109, 97, 105, 110]⟩)]))) <| .mk <|
  @sChk (compat (occ (u1.τ 50), []) ([54] ++ (occ (.func 91 []) ++ occL [(u4.τ 53), (.str ⟨#[109, 97, 105, 110]⟩)]), [54] ++ (occ (.func 91 []) ++ occL [(u4.τ 53), (.str ⟨#[109, 97, 105, 110]⟩)]))) <| .mk <|
  @sChk (compat (occ (u2.τ 51), []) ([54] ++ (occ (.func 91 []) ++ occL [(u4.τ 53), (.str ⟨#[109, 97, 105, 110]⟩)]), [54] ++ (occ (.func 91 []) ++ occL [(u4.τ 53), (.str ⟨#[109, 97, 105, 110]⟩)]))) <| .mk <|
  @sCall0 P (.func 91 []) [(u4.τ 53), (.str ⟨#[109, 97, 105, 110]⟩)] (some 54) u4 ⟨W70_c17 P Φ s u1 u2 u4⟩
def W70_c19 (P : Program) (Φ : Exit → St → Prop) (s : St) : Prop :=
  @sOp (some 42) (xPick (s.τ 39) (.bool true) (s.τ 41) s.H) s <| .mk fun s =>
  @sIf (s.τ 42) ⟨W70_b2 P Φ s⟩ ⟨W70_b18 P Φ s⟩
def W70_c20 (P : Program) (Φ : Exit → St → Prop) (s : St) : Prop :=
  @sGrd (guardOf (s.τ 39) false) (some 41) s ⟨fun s K => @sCall P (.func 90 []) [(s.τ 40)] (some 41) s ⟨K⟩⟩ ⟨W70_c19 P Φ⟩
def W70_c21 (P : Program) (Φ : Exit → St → Prop) (s : St) : Prop :=
  @sOp (some 38) (xPick (s.τ 34) (.bool true) (s.τ 37) s.H) s <| .mk fun s =>
  @sOp (some 39) (xMov (s.τ 38) s.H) s <| .mk fun s =>
  @sGrd (guardOf (s.τ 39) false) (some 40) s ⟨fun s K => @sOp (some 40) (xMov (s.τ 5) s.H) s ⟨K⟩⟩ ⟨W70_c20 P Φ⟩
def W70_c22 (P : Program) (Φ : Exit → St → Prop) (s : St) : Prop :=
  @sGrd (guardOf (s.τ 34) false) (some 37) s ⟨fun s K => @sCall P (.func 90 []) [(s.τ 36)] (some 37) s ⟨K⟩⟩ ⟨W70_c21 P Φ⟩
def W70_c23 (P : Program) (Φ : Exit → St → Prop) (s : St) : Prop :=
  @sGrd (guardOf (s.τ 34) false) (some 36) s ⟨fun s K => @sOp (some 36) (xLoad 1 false (s.τ 35) s.H) s ⟨K⟩⟩ ⟨W70_c22 P Φ⟩
def W70_c24 (P : Program) (Φ : Exit → St → Prop) (s : St) : Prop :=
  @sOp (some 34) (xMov (s.τ 33) s.H) s <| .mk fun s =>
  @sGrd (guardOf (s.τ 34) false) (some 35) s ⟨fun s K => @sOp (some 35) (xFld 1 (s.τ 1) s.H) s ⟨K⟩⟩ ⟨W70_c23 P Φ⟩
def W70_c25 (P : Program) (Φ : Exit → St → Prop) (s : St) : Prop :=
  @sOp (some 27) (xMov (s.τ 29) s.H) s <| .mk fun s =>
  @sOp (some 30) (xExt (s.τ 27) 0 s.H) s <| .mk fun s =>
  @sOp (some 31) (xExt (s.τ 27) 1 s.H) s <| .mk fun s =>
  @sOp (some 4) (xMov (s.τ 30) s.H) s <| .mk fun s =>
  @sOp (some 5) (xMov (s.τ 31) s.H) s <| .mk fun s =>
  @sOp (some 32) (xMov (s.τ 4) s.H) s <| .mk fun s =>
  @sCall P (.func 90 []) [(s.τ 32)] (some 33) s ⟨W70_c24 P Φ⟩
def W70_b26 (P : Program) (Φ : Exit → St → Prop) (s : St) : Prop :=
  @sOp (some 28) (xLoad 3 true (s.τ 1) s.H) s <| .mk fun s =>
  @sCall P (.func 89 []) [(s.τ 28)] (some 29) s ⟨W70_c25 P Φ⟩
def W70_c27 (P : Program) (Φ : Exit → St → Prop) (s : St) : Prop :=
  @sOp (some 25) (xPick (s.τ 20) (.bool true) (s.τ 24) s.H) s <| .mk fun s =>
  @sIf (s.τ 25) ⟨W70_b1 P Φ s⟩ ⟨W70_b26 P Φ s⟩
def W70_c28 (P : Program) (Φ : Exit → St → Prop) (s : St) : Prop :=
  @sGrd (guardOf (s.τ 20) false) (some 24) s ⟨fun s K => @sOp (some 24) (xBin .gtr false (s.τ 23) (.int .i64 20) s.H) s ⟨K⟩⟩ ⟨W70_c27 P Φ⟩
def W70_c29 (P : Program) (Φ : Exit → St → Prop) (s : St) : Prop :=
  @sGrd (guardOf (s.τ 20) false) (some 23) s ⟨fun s K => @sOp (some 23) (xLen (s.τ 22) s.H) s ⟨K⟩⟩ ⟨W70_c28 P Φ⟩
def W70_c30 (P : Program) (Φ : Exit → St → Prop) (s : St) : Prop :=
  @sGrd (guardOf (s.τ 20) false) (some 22) s ⟨fun s K => @sOp (some 22) (xLoad 1 false (s.τ 21) s.H) s ⟨K⟩⟩ ⟨W70_c29 P Φ⟩
def W70_c31 (P : Program) (Φ : Exit → St → Prop) (s : St) : Prop :=
  @sOp (some 19) (xPick (s.τ 14) (.bool true) (s.τ 18) s.H) s <| .mk fun s =>
  @sOp (some 20) (xMov (s.τ 19) s.H) s <| .mk fun s =>
  @sGrd (guardOf (s.τ 20) false) (some 21) s ⟨fun s K => @sOp (some 21) (xFld 2 (s.τ 1) s.H) s ⟨K⟩⟩ ⟨W70_c30 P Φ⟩
def W70_c32 (P : Program) (Φ : Exit → St → Prop) (s : St) : Prop :=
  @sGrd (guardOf (s.τ 14) false) (some 18) s ⟨fun s K => @sOp (some 18) (xBin .gtr false (s.τ 17) (.int .i64 10) s.H) s ⟨K⟩⟩ ⟨W70_c31 P Φ⟩
def W70_c33 (P : Program) (Φ : Exit → St → Prop) (s : St) : Prop :=
  @sGrd (guardOf (s.τ 14) false) (some 17) s ⟨fun s K => @sOp (some 17) (xLen (s.τ 16) s.H) s ⟨K⟩⟩ ⟨W70_c32 P Φ⟩
def W70_c34 (P : Program) (Φ : Exit → St → Prop) (s : St) : Prop :=
  @sGrd (guardOf (s.τ 14) false) (some 16) s ⟨fun s K => @sOp (some 16) (xLoad 1 false (s.τ 15) s.H) s ⟨K⟩⟩ ⟨W70_c33 P Φ⟩
def W70 (P : Program) (Φ : Exit → St → Prop) (s : St) : Prop :=
  @sOp (some 1) (xBox 1 69 (s.τ 0) s.H) s <| .mk fun s =>
  @sOp (some 2) (xAlloc 2 106 [.nils, .int .i64 0, .nils, .int .i64 0] s.H) s <| .mk fun s =>
  @sOp (some 3) (xMov (.int .i64 0) s.H) s <| .mk fun s =>
  @sOp (some 10) (xFld 0 (s.τ 1) s.H) s <| .mk fun s =>
  @sOp (some 11) (xLoad 1 false (s.τ 10) s.H) s <| .mk fun s =>
  @sOp (some 12) (xLen (s.τ 11) s.H) s <| .mk fun s =>
  @sOp (some 13) (xBin .gtr false (s.τ 12) (.int .i64 20) s.H) s <| .mk fun s =>
  @sOp (some 14) (xMov (s.τ 13) s.H) s <| .mk fun s =>
  @sGrd (guardOf (s.τ 14) false) (some 15) s ⟨fun s K => @sOp (some 15) (xFld 1 (s.τ 1) s.H) s ⟨K⟩⟩ ⟨W70_c34 P Φ⟩
theorem W70_rs (τ : Nat → AV) (H : Heap) : resV Try.prog τ H [.cell 2 106, .tmp 3] = ob (ob (rdV H 4 true (τ 2)) fun v => ob (ob (some (τ 3)) fun v => ob (some []) fun vs => some (v :: vs)) fun vs => some (v :: vs)) fun vs => some (.tup vs) := by kernel_rfl
theorem W70_eq (Φ : Exit → St → Prop) (s : St) : awp Try.prog (Try.f70.body.getD .skip) Φ s = W70 Try.prog Φ s := by kernel_rfl

-- 73 "penance/term.shapes"

def W73 (P : Program) (Φ : Exit → St → Prop) (s : St) : Prop :=
  @sOp (some 0) (xMov (.nils) s.H) s <| .mk fun s =>
  @sOp (some 1) (xBuild [.int .i64 0, .int .i64 0, .bool false, .bool false, .int .i64 0] [] s.H) s <| .mk fun s =>
  @sOp (some 2) (xBuild [.int .i64 0, .int .i64 0, .bool false, .bool false, .int .i64 0] [(0, 1, (.int .i64 2)), (2, 1, (.bool true))] s.H) s <| .mk fun s =>
  @sOp (some 3) (xBuild [.int .i64 0, .int .i64 0, .bool false, .bool false, .int .i64 0] [(0, 1, (.int .i64 1)), (3, 1, (.bool true))] s.H) s <| .mk fun s =>
  @sOp (some 4) (xBuild [.int .i64 0, .int .i64 0, .bool false, .bool false, .int .i64 0] [(0, 1, (.int .i64 3)), (4, 1, (.int .i64 1))] s.H) s <| .mk fun s =>
  @sOp (some 5) (xBuild [.int .i64 0, .int .i64 0, .bool false, .bool false, .int .i64 0] [(0, 1, (.int .i64 3))] s.H) s <| .mk fun s =>
  @sOp (some 6) (xBuild [.int .i64 0, .int .i64 0, .bool false, .bool false, .int .i64 0] [(0, 1, (.int .i64 3))] s.H) s <| .mk fun s =>
  @sOp (some 7) (xBuild [.int .i64 0, .int .i64 0, .bool false, .bool false, .int .i64 0] [(0, 1, (.int .i64 3)), (1, 1, (.int .i64 3))] s.H) s <| .mk fun s =>
  @sOp (some 8) (xBuild [.int .i64 0, .int .i64 0, .bool false, .bool false, .int .i64 0] [(4, 1, (.int .i64 1))] s.H) s <| .mk fun s =>
  @sOp (some 9) (xBuild [.int .i64 0, .int .i64 0, .bool false, .bool false, .int .i64 0] [] s.H) s <| .mk fun s =>
  @sOp (some 10) (xBuild [.int .i64 0, .int .i64 0, .bool false, .bool false, .int .i64 0] [(3, 1, (.bool true)), (4, 1, (.int .i64 2))] s.H) s <| .mk fun s =>
  @sOp (some 11) (xBuild [.int .i64 0, .int .i64 0, .bool false, .bool false, .int .i64 0] [(4, 1, (.int .i64 2))] s.H) s <| .mk fun s =>
  @sOp (some 12) (xBuild [.int .i64 0, .int .i64 0, .bool false, .bool false, .int .i64 0] [(4, 1, (.int .i64 2))] s.H) s <| .mk fun s =>
  @sOp (some 13) (xBuild [.int .i64 0, .int .i64 0, .bool false, .bool false, .int .i64 0] [(4, 1, (.int .i64 2))] s.H) s <| .mk fun s =>
  @sOp (some 14) (xBuild [.int .i64 0, .int .i64 0, .bool false, .bool false, .int .i64 0] [(0, 1, (.int .i64 4))] s.H) s <| .mk fun s =>
  @sOp (some 15) (xBuild [.int .i64 0, .int .i64 0, .bool false, .bool false, .int .i64 0] [(0, 1, (.int .i64 5)), (1, 1, (.int .i64 2)), (2, 1, (.bool true))] s.H) s <| .mk fun s =>
  @sOp (some 16) (xLit 5 15 [.int .i64 0, .int .i64 0, .bool false, .bool false, .int .i64 0] [(0, (s.τ 1)), (1, (s.τ 2)), (2, (s.τ 3)), (3, (s.τ 4)), (4, (s.τ 5)), (5, (s.τ 6)), (6, (s.τ 7)), (7, (s.τ 8)), (8, (s.τ 9)), (9, (s.τ 10)), (10, (s.τ 11)), (11, (s.τ 12)), (12, (s.τ 13)), (13, (s.τ 14)), (14, (s.τ 15))] s.H) s <| .mk fun s =>
  @sOp (some 0) (xMov (s.τ 16) s.H) s <| .mk fun s =>
  Φ .ret s
theorem W73_rs (τ : Nat → AV) (H : Heap) : resV Try.prog τ H [.tmp 0] = some (τ 0) := by kernel_rfl
theorem W73_eq (Φ : Exit → St → Prop) (s : St) : awp Try.prog (Try.f73.body.getD .skip) Φ s = W73 Try.prog Φ s := by kernel_rfl

-- 74 "(penance/term.bounds).number"
def W74_c1 (P : Program) (Φ : Exit → St → Prop) (s : St) : Prop :=
  @sOp (some 17) (xPick (s.τ 12) (s.τ 16) (.bool false) s.H) s <| .mk fun s =>
  @sOp (some 6) (xMov (s.τ 17) s.H) s <| .mk fun s =>
  Φ .ret s
def W74_c2 (P : Program) (Φ : Exit → St → Prop) (s : St) : Prop :=
  @sGrd (guardOf (s.τ 12) true) (some 16) s ⟨fun s K => @sOp (some 16) (xBin .lss false (s.τ 13) (s.τ 15) s.H) s ⟨K⟩⟩ ⟨W74_c1 P Φ⟩
def W74_c3 (P : Program) (Φ : Exit → St → Prop) (s : St) : Prop :=
  @sGrd (guardOf (s.τ 12) true) (some 15) s ⟨fun s K => @sOp (some 15) (xLoad 1 false (s.τ 14) s.H) s ⟨K⟩⟩ ⟨W74_c2 P Φ⟩
def W74_c4 (P : Program) (Φ : Exit → St → Prop) (s : St) : Prop :=
  @sGrd (guardOf (s.τ 12) true) (some 14) s ⟨fun s K => @sOp (some 14) (xFld 0 (s.τ 3) s.H) s ⟨K⟩⟩ ⟨W74_c3 P Φ⟩
def W74_b5 (P : Program) (Φ : Exit → St → Prop) (s : St) : Prop :=
  @sOp (some 10) (xMov (s.τ 2) s.H) s <| .mk fun s =>
  @sOp (some 11) (xBin .geq false (s.τ 10) (.int .i64 0) s.H) s <| .mk fun s =>
  @sOp (some 12) (xMov (s.τ 11) s.H) s <| .mk fun s =>
  @sGrd (guardOf (s.τ 12) true) (some 13) s ⟨fun s K => @sOp (some 13) (xMov (s.τ 2) s.H) s ⟨K⟩⟩ ⟨W74_c4 P Φ⟩
def W74_c6 (P : Program) (Φ : Exit → St → Prop) (s : St) : Prop :=
  @sOp (some 27) (xPick (s.τ 22) (s.τ 26) (.bool false) s.H) s <| .mk fun s =>
  @sOp (some 6) (xMov (s.τ 27) s.H) s <| .mk fun s =>
  Φ .ret s
def W74_c7 (P : Program) (Φ : Exit → St → Prop) (s : St) : Prop :=
  @sGrd (guardOf (s.τ 22) true) (some 26) s ⟨fun s K => @sOp (some 26) (xBin .lss false (s.τ 23) (s.τ 25) s.H) s ⟨K⟩⟩ ⟨W74_c6 P Φ⟩
def W74_c8 (P : Program) (Φ : Exit → St → Prop) (s : St) : Prop :=
  @sGrd (guardOf (s.τ 22) true) (some 25) s ⟨fun s K => @sOp (some 25) (xLoad 1 false (s.τ 24) s.H) s ⟨K⟩⟩ ⟨W74_c7 P Φ⟩
def W74_c9 (P : Program) (Φ : Exit → St → Prop) (s : St) : Prop :=
  @sGrd (guardOf (s.τ 22) true) (some 24) s ⟨fun s K => @sOp (some 24) (xFld 0 (s.τ 3) s.H) s ⟨K⟩⟩ ⟨W74_c8 P Φ⟩
def W74_b10 (P : Program) (Φ : Exit → St → Prop) (s : St) : Prop :=
  @sOp (some 20) (xMov (s.τ 2) s.H) s <| .mk fun s =>
  @sOp (some 21) (xBin .geq false (s.τ 20) (.int .i64 (-1)) s.H) s <| .mk fun s =>
  @sOp (some 22) (xMov (s.τ 21) s.H) s <| .mk fun s =>
  @sGrd (guardOf (s.τ 22) true) (some 23) s ⟨fun s K => @sOp (some 23) (xMov (s.τ 2) s.H) s ⟨K⟩⟩ ⟨W74_c9 P Φ⟩
def W74_c11 (P : Program) (Φ : Exit → St → Prop) (s : St) : Prop :=
  @sOp (some 37) (xPick (s.τ 32) (s.τ 36) (.bool false) s.H) s <| .mk fun s =>
  @sOp (some 6) (xMov (s.τ 37) s.H) s <| .mk fun s =>
  Φ .ret s
def W74_c12 (P : Program) (Φ : Exit → St → Prop) (s : St) : Prop :=
  @sGrd (guardOf (s.τ 32) true) (some 36) s ⟨fun s K => @sOp (some 36) (xBin .lss false (s.τ 33) (s.τ 35) s.H) s ⟨K⟩⟩ ⟨W74_c11 P Φ⟩
def W74_c13 (P : Program) (Φ : Exit → St → Prop) (s : St) : Prop :=
  @sGrd (guardOf (s.τ 32) true) (some 35) s ⟨fun s K => @sOp (some 35) (xLoad 1 false (s.τ 34) s.H) s ⟨K⟩⟩ ⟨W74_c12 P Φ⟩
def W74_c14 (P : Program) (Φ : Exit → St → Prop) (s : St) : Prop :=
  @sGrd (guardOf (s.τ 32) true) (some 34) s ⟨fun s K => @sOp (some 34) (xFld 1 (s.τ 3) s.H) s ⟨K⟩⟩ ⟨W74_c13 P Φ⟩
def W74_b15 (P : Program) (Φ : Exit → St → Prop) (s : St) : Prop :=
  @sOp (some 30) (xMov (s.τ 2) s.H) s <| .mk fun s =>
  @sOp (some 31) (xBin .geq false (s.τ 30) (.int .i64 0) s.H) s <| .mk fun s =>
  @sOp (some 32) (xMov (s.τ 31) s.H) s <| .mk fun s =>
  @sGrd (guardOf (s.τ 32) true) (some 33) s ⟨fun s K => @sOp (some 33) (xMov (s.τ 2) s.H) s ⟨K⟩⟩ ⟨W74_c14 P Φ⟩
def W74_c16 (P : Program) (Φ : Exit → St → Prop) (s : St) : Prop :=
  @sOp (some 47) (xPick (s.τ 42) (s.τ 46) (.bool false) s.H) s <| .mk fun s =>
  @sOp (some 6) (xMov (s.τ 47) s.H) s <| .mk fun s =>
  Φ .ret s
def W74_c17 (P : Program) (Φ : Exit → St → Prop) (s : St) : Prop :=
  @sGrd (guardOf (s.τ 42) true) (some 46) s ⟨fun s K => @sOp (some 46) (xBin .lss false (s.τ 43) (s.τ 45) s.H) s ⟨K⟩⟩ ⟨W74_c16 P Φ⟩
def W74_c18 (P : Program) (Φ : Exit → St → Prop) (s : St) : Prop :=
  @sGrd (guardOf (s.τ 42) true) (some 45) s ⟨fun s K => @sOp (some 45) (xLoad 1 false (s.τ 44) s.H) s ⟨K⟩⟩ ⟨W74_c17 P Φ⟩
def W74_c19 (P : Program) (Φ : Exit → St → Prop) (s : St) : Prop :=
  @sGrd (guardOf (s.τ 42) true) (some 44) s ⟨fun s K => @sOp (some 44) (xFld 2 (s.τ 3) s.H) s ⟨K⟩⟩ ⟨W74_c18 P Φ⟩
def W74_b20 (P : Program) (Φ : Exit → St → Prop) (s : St) : Prop :=
  @sOp (some 40) (xMov (s.τ 2) s.H) s <| .mk fun s =>
  @sOp (some 41) (xBin .geq false (s.τ 40) (.int .i64 0) s.H) s <| .mk fun s =>
  @sOp (some 42) (xMov (s.τ 41) s.H) s <| .mk fun s =>
  @sGrd (guardOf (s.τ 42) true) (some 43) s ⟨fun s K => @sOp (some 43) (xMov (s.τ 2) s.H) s ⟨K⟩⟩ ⟨W74_c19 P Φ⟩
def W74_b21 (P : Program) (Φ : Exit → St → Prop) (s : St) : Prop :=
  @sOp (some 50) (xMov (s.τ 2) s.H) s <| .mk fun s =>
  @sOp (some 51) (xBin .geq false (s.τ 50) (.int .i64 0) s.H) s <| .mk fun s =>
  @sOp (some 6) (xMov (s.τ 51) s.H) s <| .mk fun s =>
  Φ .ret s
def W74_b22 (P : Program) (Φ : Exit → St → Prop) (s : St) : Prop :=
  @sOp (some 52) (xMov (s.τ 2) s.H) s <| .mk fun s =>
  @sOp (some 53) (xBin .eql false (s.τ 52) (.int .i64 0) s.H) s <| .mk fun s =>
  @sOp (some 6) (xMov (s.τ 53) s.H) s <| .mk fun s =>
  Φ .ret s
def W74_b23 (P : Program) (Φ : Exit → St → Prop) (s : St) : Prop :=
  @sOp (some 49) (xBin .eql false (s.τ 7) (.int .i64 5) s.H) s <| .mk fun s =>
  @sOp (some 48) (xMov (s.τ 49) s.H) s <| .mk fun s =>
  @sIf (s.τ 48) ⟨W74_b21 P Φ s⟩ ⟨W74_b22 P Φ s⟩
def W74_b24 (P : Program) (Φ : Exit → St → Prop) (s : St) : Prop :=
  @sOp (some 39) (xBin .eql false (s.τ 7) (.int .i64 4) s.H) s <| .mk fun s =>
  @sOp (some 38) (xMov (s.τ 39) s.H) s <| .mk fun s =>
  @sIf (s.τ 38) ⟨W74_b20 P Φ s⟩ ⟨W74_b23 P Φ s⟩
def W74_b25 (P : Program) (Φ : Exit → St → Prop) (s : St) : Prop :=
  @sOp (some 29) (xBin .eql false (s.τ 7) (.int .i64 3) s.H) s <| .mk fun s =>
  @sOp (some 28) (xMov (s.τ 29) s.H) s <| .mk fun s =>
  @sIf (s.τ 28) ⟨W74_b15 P Φ s⟩ ⟨W74_b24 P Φ s⟩
def W74_b26 (P : Program) (Φ : Exit → St → Prop) (s : St) : Prop :=
  @sOp (some 19) (xBin .eql false (s.τ 7) (.int .i64 2) s.H) s <| .mk fun s =>
  @sOp (some 18) (xMov (s.τ 19) s.H) s <| .mk fun s =>
  @sIf (s.τ 18) ⟨W74_b10 P Φ s⟩ ⟨W74_b25 P Φ s⟩
def W74 (P : Program) (Φ : Exit → St → Prop) (s : St) : Prop :=
  @sOp (some 3) (xBox 3 87 (s.τ 0) s.H) s <| .mk fun s =>
  @sOp (some 6) (xMov (.bool false) s.H) s <| .mk fun s =>
  @sOp (some 7) (xMov (s.τ 1) s.H) s <| .mk fun s =>
  @sOp (some 9) (xBin .eql false (s.τ 7) (.int .i64 1) s.H) s <| .mk fun s =>
  @sOp (some 8) (xMov (s.τ 9) s.H) s <| .mk fun s =>
  @sIf (s.τ 8) ⟨W74_b5 P Φ s⟩ ⟨W74_b26 P Φ s⟩
theorem W74_rs (τ : Nat → AV) (H : Heap) : resV Try.prog τ H [.tmp 6] = some (τ 6) := by kernel_rfl
theorem W74_eq (Φ : Exit → St → Prop) (s : St) : awp Try.prog (Try.f74.body.getD .skip) Φ s = W74 Try.prog Φ s := by kernel_rfl

-- 75 "penance/term.none"
def W75_c1 (P : Program) (Φ : Exit → St → Prop) (s : St) : Prop :=
  @sOp (some 21) (xPick (s.τ 16) (s.τ 20) (.bool false) s.H) s <| .mk fun s =>
  @sOp (some 2) (xMov (s.τ 21) s.H) s <| .mk fun s =>
  Φ .ret s
def W75_c2 (P : Program) (Φ : Exit → St → Prop) (s : St) : Prop :=
  @sGrd (guardOf (s.τ 16) true) (some 20) s ⟨fun s K => @sOp (some 20) (xBin .eql false (s.τ 19) (.int .i64 0) s.H) s ⟨K⟩⟩ ⟨W75_c1 P Φ⟩
def W75_c3 (P : Program) (Φ : Exit → St → Prop) (s : St) : Prop :=
  @sGrd (guardOf (s.τ 16) true) (some 19) s ⟨fun s K => @sOp (some 19) (xLen (s.τ 18) s.H) s ⟨K⟩⟩ ⟨W75_c2 P Φ⟩
def W75_c4 (P : Program) (Φ : Exit → St → Prop) (s : St) : Prop :=
  @sGrd (guardOf (s.τ 16) true) (some 18) s ⟨fun s K => @sOp (some 18) (xLoad 1 false (s.τ 17) s.H) s ⟨K⟩⟩ ⟨W75_c3 P Φ⟩
def W75_c5 (P : Program) (Φ : Exit → St → Prop) (s : St) : Prop :=
  @sOp (some 15) (xPick (s.τ 11) (s.τ 14) (.bool false) s.H) s <| .mk fun s =>
  @sOp (some 16) (xMov (s.τ 15) s.H) s <| .mk fun s =>
  @sGrd (guardOf (s.τ 16) true) (some 17) s ⟨fun s K => @sOp (some 17) (xFld 3 (s.τ 1) s.H) s ⟨K⟩⟩ ⟨W75_c4 P Φ⟩
def W75_c6 (P : Program) (Φ : Exit → St → Prop) (s : St) : Prop :=
  @sGrd (guardOf (s.τ 11) true) (some 14) s ⟨fun s K => @sOp (some 14) (xBin .eql false (s.τ 13) (.str ⟨#[]⟩) s.H) s ⟨K⟩⟩ ⟨W75_c5 P Φ⟩
def W75_c7 (P : Program) (Φ : Exit → St → Prop) (s : St) : Prop :=
  @sGrd (guardOf (s.τ 11) true) (some 13) s ⟨fun s K => @sOp (some 13) (xLoad 1 false (s.τ 12) s.H) s ⟨K⟩⟩ ⟨W75_c6 P Φ⟩
def W75_c8 (P : Program) (Φ : Exit → St → Prop) (s : St) : Prop :=
  @sOp (some 10) (xPick (s.τ 6) (s.τ 9) (.bool false) s.H) s <| .mk fun s =>
  @sOp (some 11) (xMov (s.τ 10) s.H) s <| .mk fun s =>
  @sGrd (guardOf (s.τ 11) true) (some 12) s ⟨fun s K => @sOp (some 12) (xFld 2 (s.τ 1) s.H) s ⟨K⟩⟩ ⟨W75_c7 P Φ⟩
def W75_c9 (P : Program) (Φ : Exit → St → Prop) (s : St) : Prop :=
  @sGrd (guardOf (s.τ 6) true) (some 9) s ⟨fun s K => @sOp (some 9) (xBin .eql false (s.τ 8) (.int .i64 0) s.H) s ⟨K⟩⟩ ⟨W75_c8 P Φ⟩
def W75_c10 (P : Program) (Φ : Exit → St → Prop) (s : St) : Prop :=
  @sGrd (guardOf (s.τ 6) true) (some 8) s ⟨fun s K => @sOp (some 8) (xLoad 1 false (s.τ 7) s.H) s ⟨K⟩⟩ ⟨W75_c9 P Φ⟩
def W75 (P : Program) (Φ : Exit → St → Prop) (s : St) : Prop :=
  @sOp (some 1) (xBox 1 31 (s.τ 0) s.H) s <| .mk fun s =>
  @sOp (some 2) (xMov (.bool false) s.H) s <| .mk fun s =>
  @sOp (some 3) (xFld 0 (s.τ 1) s.H) s <| .mk fun s =>
  @sOp (some 4) (xLoad 1 false (s.τ 3) s.H) s <| .mk fun s =>
  @sOp (some 5) (xBin .eql false (s.τ 4) (.int .i64 0) s.H) s <| .mk fun s =>
  @sOp (some 6) (xMov (s.τ 5) s.H) s <| .mk fun s =>
  @sGrd (guardOf (s.τ 6) true) (some 7) s ⟨fun s K => @sOp (some 7) (xFld 1 (s.τ 1) s.H) s ⟨K⟩⟩ ⟨W75_c10 P Φ⟩
theorem W75_rs (τ : Nat → AV) (H : Heap) : resV Try.prog τ H [.tmp 2] = some (τ 2) := by kernel_rfl
theorem W75_eq (Φ : Exit → St → Prop) (s : St) : awp Try.prog (Try.f75.body.getD .skip) Φ s = W75 Try.prog Φ s := by kernel_rfl

-- 76 "penance/lex.Name"
def W76_b1 (P : Program) (Φ : Exit → St → Prop) (s : St) : Prop :=
  @sOp (some 2) (xMov (.bool false) s.H) s <| .mk fun s =>
  Φ .ret s
def W76_k2 (P : Program) (Φ : Exit → St → Prop) (s : St) : Prop :=
  @sOp (some 2) (xMov (.bool true) s.H) s <| .mk fun s =>
  Φ .ret s
def W76_b3 (P : Program) (Φ : Exit → St → Prop) (L0 : St → Prop) (s : St) : Prop :=
  @sOp (some 2) (xMov (.bool false) s.H) s <| .mk fun s =>
  Φ .ret s
def W76_c4 (P : Program) (Φ : Exit → St → Prop) (L0 : St → Prop) (s : St) : Prop :=
  @sOp (some 40) (xPick (s.τ 35) (.bool true) (s.τ 39) s.H) s <| .mk fun s =>
  @sIf (s.τ 40) ⟨W76_b3 P Φ L0 s⟩ ⟨L0 s⟩
def W76_c5 (P : Program) (Φ : Exit → St → Prop) (L0 : St → Prop) (s : St) : Prop :=
  @sGrd (guardOf (s.τ 35) false) (some 39) s ⟨fun s K => @sOp (some 39) (xNot (s.τ 38) s.H) s ⟨K⟩⟩ ⟨W76_c4 P Φ L0⟩
def W76_c6 (P : Program) (Φ : Exit → St → Prop) (L0 : St → Prop) (s : St) : Prop :=
  @sGrd (guardOf (s.τ 35) false) (some 38) s ⟨fun s K => @sCall P (.func 97 []) [(s.τ 37)] (some 38) s ⟨K⟩⟩ ⟨W76_c5 P Φ L0⟩
def W76_c7 (P : Program) (Φ : Exit → St → Prop) (L0 : St → Prop) (s : St) : Prop :=
  @sGrd (guardOf (s.τ 35) false) (some 37) s ⟨fun s K => @sOp (some 37) (xConv .u8 (s.τ 36) s.H) s ⟨K⟩⟩ ⟨W76_c6 P Φ L0⟩
def W76_c8 (P : Program) (Φ : Exit → St → Prop) (L0 : St → Prop) (s : St) : Prop :=
  @sOp (some 34) (xPick (s.τ 25) (.bool true) (s.τ 33) s.H) s <| .mk fun s =>
  @sOp (some 35) (xMov (s.τ 34) s.H) s <| .mk fun s =>
  @sGrd (guardOf (s.τ 35) false) (some 36) s ⟨fun s K => @sOp (some 36) (xMov (s.τ 4) s.H) s ⟨K⟩⟩ ⟨W76_c7 P Φ L0⟩
def W76_c9 (P : Program) (Φ : Exit → St → Prop) (L0 : St → Prop) (s : St) : Prop :=
  @sGrd (guardOf (s.τ 25) false) (some 33) s ⟨fun s K => @sOp (some 33) (xPick (s.τ 28) (s.τ 32) (.bool false) s.H) s ⟨K⟩⟩ ⟨W76_c8 P Φ L0⟩
def W76_c10 (P : Program) (Φ : Exit → St → Prop) (L0 : St → Prop) (s : St) : Prop :=
  @sGrd (guardOf (s.τ 28) true) (some 32) s ⟨fun s K => @sOp (some 32) (xNot (s.τ 31) s.H) s ⟨K⟩⟩ ⟨W76_c9 P Φ L0⟩
def W76_c11 (P : Program) (Φ : Exit → St → Prop) (L0 : St → Prop) (s : St) : Prop :=
  @sGrd (guardOf (s.τ 28) true) (some 31) s ⟨fun s K => @sCall P (.func 96 []) [(s.τ 30)] (some 31) s ⟨K⟩⟩ ⟨W76_c10 P Φ L0⟩
def W76_c12 (P : Program) (Φ : Exit → St → Prop) (L0 : St → Prop) (s : St) : Prop :=
  @sGrd (guardOf (s.τ 28) true) (some 30) s ⟨fun s K => @sOp (some 30) (xConv .u8 (s.τ 29) s.H) s ⟨K⟩⟩ ⟨W76_c11 P Φ L0⟩
def W76_c13 (P : Program) (Φ : Exit → St → Prop) (L0 : St → Prop) (s : St) : Prop :=
  @sGrd (guardOf (s.τ 28) true) (some 29) s ⟨fun s K => @sOp (some 29) (xMov (s.τ 4) s.H) s ⟨K⟩⟩ ⟨W76_c12 P Φ L0⟩
def W76_c14 (P : Program) (Φ : Exit → St → Prop) (L0 : St → Prop) (s : St) : Prop :=
  @sGrd (guardOf (s.τ 25) false) (some 28) s ⟨fun s K => @sOp (some 28) (xMov (s.τ 27) s.H) s ⟨K⟩⟩ ⟨W76_c13 P Φ L0⟩
def W76_c15 (P : Program) (Φ : Exit → St → Prop) (L0 : St → Prop) (s : St) : Prop :=
  @sGrd (guardOf (s.τ 25) false) (some 27) s ⟨fun s K => @sOp (some 27) (xBin .eql false (s.τ 26) (.int .i64 0) s.H) s ⟨K⟩⟩ ⟨W76_c14 P Φ L0⟩
def W76_b16 (P : Program) (Φ : Exit → St → Prop) (L0 : St → Prop) (s : St) : Prop :=
  @sOp (some 21) (xExt (s.τ 19) 1 s.H) s <| .mk fun s =>
  @sOp (some 22) (xExt (s.τ 19) 2 s.H) s <| .mk fun s =>
  @sOp (some 3) (xMov (s.τ 21) s.H) s <| .mk fun s =>
  @sOp (some 4) (xMov (s.τ 22) s.H) s <| .mk fun s =>
  @sOp (some 23) (xMov (s.τ 4) s.H) s <| .mk fun s =>
  @sOp (some 24) (xBin .gtr false (s.τ 23) (.int .i32 127) s.H) s <| .mk fun s =>
  @sOp (some 25) (xMov (s.τ 24) s.H) s <| .mk fun s =>
  @sGrd (guardOf (s.τ 25) false) (some 26) s ⟨fun s K => @sOp (some 26) (xMov (s.τ 3) s.H) s ⟨K⟩⟩ ⟨W76_c15 P Φ L0⟩
def W76_l17 (P : Program) (Φ : Exit → St → Prop) (L0 : St → Prop) (s : St) : Prop :=
  @sOp (some 19) (xNxt (s.τ 18) s.H) s <| .mk fun s =>
  @sOp (some 20) (xExt (s.τ 19) 0 s.H) s <| .mk fun s =>
  @sIf (s.τ 20) ⟨W76_b16 P Φ L0 s⟩ ⟨W76_k2 P Φ s⟩
def W76_b18 (P : Program) (Φ : Exit → St → Prop) (s : St) : Prop :=
  @sOp (some 17) (xMov (s.τ 0) s.H) s <| .mk fun s =>
  @sOp (some 18) (xRng 18 (s.τ 17) s.H) s <| .mk fun s =>
  @sLoop s ⟨fun L0 s => W76_l17 P Φ L0 s⟩
def W76_c19 (P : Program) (Φ : Exit → St → Prop) (s : St) : Prop :=
  @sOp (some 16) (xPick (s.τ 13) (.bool true) (s.τ 15) s.H) s <| .mk fun s =>
  @sIf (s.τ 16) ⟨W76_b1 P Φ s⟩ ⟨W76_b18 P Φ s⟩
def W76_c20 (P : Program) (Φ : Exit → St → Prop) (s : St) : Prop :=
  @sGrd (guardOf (s.τ 13) false) (some 15) s ⟨fun s K => @sCall P (.func 95 []) [(s.τ 14)] (some 15) s ⟨K⟩⟩ ⟨W76_c19 P Φ⟩
def W76_c21 (P : Program) (Φ : Exit → St → Prop) (s : St) : Prop :=
  @sOp (some 12) (xPick (s.τ 8) (.bool true) (s.τ 11) s.H) s <| .mk fun s =>
  @sOp (some 13) (xMov (s.τ 12) s.H) s <| .mk fun s =>
  @sGrd (guardOf (s.τ 13) false) (some 14) s ⟨fun s K => @sOp (some 14) (xMov (s.τ 0) s.H) s ⟨K⟩⟩ ⟨W76_c20 P Φ⟩
def W76_c22 (P : Program) (Φ : Exit → St → Prop) (s : St) : Prop :=
  @sGrd (guardOf (s.τ 8) false) (some 11) s ⟨fun s K => @sOp (some 11) (xBin .gtr false (s.τ 10) (.int .i64 20) s.H) s ⟨K⟩⟩ ⟨W76_c21 P Φ⟩
def W76_c23 (P : Program) (Φ : Exit → St → Prop) (s : St) : Prop :=
  @sGrd (guardOf (s.τ 8) false) (some 10) s ⟨fun s K => @sOp (some 10) (xSlen (s.τ 9) s.H) s ⟨K⟩⟩ ⟨W76_c22 P Φ⟩
def W76 (P : Program) (Φ : Exit → St → Prop) (s : St) : Prop :=
  @sOp (some 2) (xMov (.bool false) s.H) s <| .mk fun s =>
  @sOp (some 5) (xMov (s.τ 0) s.H) s <| .mk fun s =>
  @sOp (some 6) (xSlen (s.τ 5) s.H) s <| .mk fun s =>
  @sOp (some 7) (xBin .lss false (s.τ 6) (.int .i64 1) s.H) s <| .mk fun s =>
  @sOp (some 8) (xMov (s.τ 7) s.H) s <| .mk fun s =>
  @sGrd (guardOf (s.τ 8) false) (some 9) s ⟨fun s K => @sOp (some 9) (xMov (s.τ 0) s.H) s ⟨K⟩⟩ ⟨W76_c23 P Φ⟩
theorem W76_rs (τ : Nat → AV) (H : Heap) : resV Try.prog τ H [.tmp 2] = some (τ 2) := by kernel_rfl
theorem W76_eq (Φ : Exit → St → Prop) (s : St) : awp Try.prog (Try.f76.body.getD .skip) Φ s = W76 Try.prog Φ s := by kernel_rfl


end Go.Proofs.Ytkagfenchknjjaa
set_option linter.unusedVariables false
namespace Go.Proofs.Ytkagfenchknjjaa
open Go Go.Am
-- 81 "slices.EqualFunc[[]penance/api.Expr,[]penance/api.Expr,penance/api.Expr,penance/api.Expr]"
def W81_b1 (P : Program) (Φ : Exit → St → Prop) (s : St) : Prop :=
  @sOp (some 6) (xMov (.bool false) s.H) s <| .mk fun s =>
  Φ .ret s
def W81_k2 (P : Program) (Φ : Exit → St → Prop) (s : St) : Prop :=
  @sOp (some 6) (xMov (.bool true) s.H) s <| .mk fun s =>
  Φ .ret s
def W81_b3 (P : Program) (Φ : Exit → St → Prop) (L0 : St → Prop) (s : St) : Prop :=
  @sOp (some 6) (xMov (.bool false) s.H) s <| .mk fun s =>
  Φ .ret s
def W81_b4 (P : Program) (Φ : Exit → St → Prop) (L0 : St → Prop) (s : St) : Prop :=
  @sOp (some 31) (xBin .add false (s.τ 17) (.int .i64 1) s.H) s <| .mk fun s =>
  @sOp (some 17) (xMov (s.τ 31) s.H) s <| .mk fun s =>
  L0 s
def W81_c5 (P : Program) (Φ : Exit → St → Prop) (L0 : St → Prop) (s : St) : Prop :=
  @sOp (some 30) (xNot (s.τ 29) s.H) s <| .mk fun s =>
  @sIf (s.τ 30) ⟨W81_b3 P Φ L0 s⟩ ⟨W81_b4 P Φ L0 s⟩
def W81_b6 (P : Program) (Φ : Exit → St → Prop) (L0 : St → Prop) (s : St) : Prop :=
  @sOp (some 19) (xMov (s.τ 17) s.H) s <| .mk fun s =>
  @sOp (some 20) (xIx 4 (s.τ 15) (s.τ 17) s.H) s <| .mk fun s =>
  @sOp (some 21) (xLoad 4 true (s.τ 20) s.H) s <| .mk fun s =>
  @sOp (some 8) (xAlloc 8 31 [.int .i64 0, .int .i64 0, .str ⟨#[]⟩, .nils] s.H) s <| .mk fun s =>
  @sOp (some 7) (xMov (s.τ 19) s.H) s <| .mk fun s =>
  @sOp none (xStore 4 (s.τ 8) (s.τ 21) s.H) s <| .mk fun s =>
  @sOp (some 22) (xMov (s.τ 1) s.H) s <| .mk fun s =>
  @sOp (some 23) (xMov (s.τ 7) s.H) s <| .mk fun s =>
  @sOp (some 24) (xIx 4 (s.τ 22) (s.τ 23) s.H) s <| .mk fun s =>
  @sOp (some 25) (xLoad 4 true (s.τ 24) s.H) s <| .mk fun s =>
  @sOp (some 9) (xAlloc 9 31 [.int .i64 0, .int .i64 0, .str ⟨#[]⟩, .nils] s.H) s <| .mk fun s =>
  @sOp none (xStore 4 (s.τ 9) (s.τ 25) s.H) s <| .mk fun s =>
  @sOp (some 26) (xMov (s.τ 2) s.H) s <| .mk fun s =>
  @sOp (some 27) (xLoad 4 true (s.τ 8) s.H) s <| .mk fun s =>
  @sOp (some 28) (xLoad 4 true (s.τ 9) s.H) s <| .mk fun s =>
  @sCall P (s.τ 26) [(s.τ 27), (s.τ 28)] (some 29) s ⟨W81_c5 P Φ L0⟩
def W81_l7 (P : Program) (Φ : Exit → St → Prop) (L0 : St → Prop) (s : St) : Prop :=
  @sOp (some 18) (xBin .lss false (s.τ 17) (s.τ 16) s.H) s <| .mk fun s =>
  @sIf (s.τ 18) ⟨W81_b6 P Φ L0 s⟩ ⟨W81_k2 P Φ s⟩
def W81_b8 (P : Program) (Φ : Exit → St → Prop) (s : St) : Prop :=
  @sOp (some 15) (xMov (s.τ 0) s.H) s <| .mk fun s =>
  @sOp (some 16) (xLen (s.τ 15) s.H) s <| .mk fun s =>
  @sOp (some 17) (xMov (.int .i64 0) s.H) s <| .mk fun s =>
  @sLoop s ⟨fun L0 s => W81_l7 P Φ L0 s⟩
def W81 (P : Program) (Φ : Exit → St → Prop) (s : St) : Prop :=
  @sOp (some 6) (xMov (.bool false) s.H) s <| .mk fun s =>
  @sOp (some 10) (xMov (s.τ 0) s.H) s <| .mk fun s =>
  @sOp (some 11) (xLen (s.τ 10) s.H) s <| .mk fun s =>
  @sOp (some 12) (xMov (s.τ 1) s.H) s <| .mk fun s =>
  @sOp (some 13) (xLen (s.τ 12) s.H) s <| .mk fun s =>
  @sOp (some 14) (xBin .neq false (s.τ 11) (s.τ 13) s.H) s <| .mk fun s =>
  @sIf (s.τ 14) ⟨W81_b1 P Φ s⟩ ⟨W81_b8 P Φ s⟩
theorem W81_rs (τ : Nat → AV) (H : Heap) : resV Try.prog τ H [.tmp 6] = some (τ 6) := by kernel_rfl
theorem W81_eq (Φ : Exit → St → Prop) (s : St) : awp Try.prog (Try.f81.body.getD .skip) Φ s = W81 Try.prog Φ s := by kernel_rfl

-- 82 "slices.Clone[[]penance/api.Term,penance/api.Term]"
def W82_b1 (P : Program) (Φ : Exit → St → Prop) (s : St) : Prop :=
  @sOp (some 2) (xMov (.nils) s.H) s <| .mk fun s =>
  Φ .ret s
def W82_b2 (P : Program) (Φ : Exit → St → Prop) (s : St) : Prop :=
  @sOp (some 5) (xRow 5 34 9 0 [.int .i64 0, .int .i64 0, .int .i64 0, .str ⟨#[]⟩, .int .i64 0, .int .i64 0, .str ⟨#[]⟩, .nils, .nils] [] s.H) s <| .mk fun s =>
  @sOp (some 6) (xMov (s.τ 0) s.H) s <| .mk fun s =>
  @sOp (some 7) (xApp P 34 9 120 (some 7) (s.τ 5) (s.τ 6) s.H) s <| .mk fun s =>
  @sOp (some 2) (xMov (s.τ 7) s.H) s <| .mk fun s =>
  Φ .ret s
def W82_c3 (P : Program) (Φ : Exit → St → Prop) (s : St) : Prop :=
  @sIf (s.τ 4) ⟨W82_b1 P Φ s⟩ ⟨W82_b2 P Φ s⟩
def W82 (P : Program) (Φ : Exit → St → Prop) (s : St) : Prop :=
  @sOp (some 2) (xMov (.nils) s.H) s <| .mk fun s =>
  @sOp (some 3) (xMov (s.τ 0) s.H) s <| .mk fun s =>
  @sNil false (s.τ 3) (some 4) s ⟨W82_c3 P Φ⟩
theorem W82_rs (τ : Nat → AV) (H : Heap) : resV Try.prog τ H [.tmp 2] = some (τ 2) := by kernel_rfl
theorem W82_eq (Φ : Exit → St → Prop) (s : St) : awp Try.prog (Try.f82.body.getD .skip) Φ s = W82 Try.prog Φ s := by kernel_rfl

-- 83 "penance/term.ownExpr"
def W83_c1 (P : Program) (Φ : Exit → St → Prop) (s : St) : Prop :=
  @sOp (some 25) (xFld 3 (s.τ 1) s.H) s <| .mk fun s =>
  @sOp none (xStore 1 (s.τ 25) (s.τ 24) s.H) s <| .mk fun s =>
  @sOp (some 26) (xLoad 4 true (s.τ 1) s.H) s <| .mk fun s =>
  @sOp none (xStore 4 (s.τ 2) (s.τ 26) s.H) s <| .mk fun s =>
  Φ .ret s
def W83_k2 (P : Program) (Φ : Exit → St → Prop) (s : St) : Prop :=
  @sOp (some 23) (xMov (s.τ 3) s.H) s <| .mk fun s =>
  @sCall P (.func 100 []) [(s.τ 23)] (some 24) s ⟨W83_c1 P Φ⟩
def W83_c3 (P : Program) (Φ : Exit → St → Prop) (L0 : St → Prop) (s : St) : Prop :=
  @sOp (some 20) (xLit 4 1 [.int .i64 0, .int .i64 0, .str ⟨#[]⟩, .nils] [(0, (s.τ 19))] s.H) s <| .mk fun s =>
  @sOp (some 21) (xApp P 31 4 56 (some 21) (s.τ 17) (s.τ 20) s.H) s <| .mk fun s =>
  @sOp (some 3) (xMov (s.τ 21) s.H) s <| .mk fun s =>
  @sOp (some 22) (xBin .add false (s.τ 13) (.int .i64 1) s.H) s <| .mk fun s =>
  @sOp (some 13) (xMov (s.τ 22) s.H) s <| .mk fun s =>
  L0 s
def W83_b4 (P : Program) (Φ : Exit → St → Prop) (L0 : St → Prop) (s : St) : Prop :=
  @sOp (some 15) (xIx 4 (s.τ 11) (s.τ 13) s.H) s <| .mk fun s =>
  @sOp (some 16) (xLoad 4 true (s.τ 15) s.H) s <| .mk fun s =>
  @sOp (some 5) (xAlloc 5 31 [.int .i64 0, .int .i64 0, .str ⟨#[]⟩, .nils] s.H) s <| .mk fun s =>
  @sOp none (xStore 4 (s.τ 5) (s.τ 16) s.H) s <| .mk fun s =>
  @sOp (some 17) (xMov (s.τ 3) s.H) s <| .mk fun s =>
  @sOp (some 18) (xLoad 4 true (s.τ 5) s.H) s <| .mk fun s =>
  @sCall P (.func 83 []) [(s.τ 18)] (some 19) s ⟨W83_c3 P Φ L0⟩
def W83_l5 (P : Program) (Φ : Exit → St → Prop) (L0 : St → Prop) (s : St) : Prop :=
  @sOp (some 14) (xBin .lss false (s.τ 13) (s.τ 12) s.H) s <| .mk fun s =>
  @sIf (s.τ 14) ⟨W83_b4 P Φ L0 s⟩ ⟨W83_k2 P Φ s⟩
def W83 (P : Program) (Φ : Exit → St → Prop) (s : St) : Prop :=
  @sOp (some 1) (xBox 1 31 (s.τ 0) s.H) s <| .mk fun s =>
  @sOp (some 2) (xAlloc 2 31 [.int .i64 0, .int .i64 0, .str ⟨#[]⟩, .nils] s.H) s <| .mk fun s =>
  @sOp (some 6) (xFld 3 (s.τ 1) s.H) s <| .mk fun s =>
  @sOp (some 7) (xLoad 1 false (s.τ 6) s.H) s <| .mk fun s =>
  @sOp (some 8) (xLen (s.τ 7) s.H) s <| .mk fun s =>
  @sOp (some 9) (xMks 9 31 4 56 [.int .i64 0, .int .i64 0, .str ⟨#[]⟩, .nils] (.int .i64 0) (s.τ 8) s.H) s <| .mk fun s =>
  @sOp (some 3) (xMov (s.τ 9) s.H) s <| .mk fun s =>
  @sOp (some 10) (xFld 3 (s.τ 1) s.H) s <| .mk fun s =>
  @sOp (some 11) (xLoad 1 false (s.τ 10) s.H) s <| .mk fun s =>
  @sOp (some 12) (xLen (s.τ 11) s.H) s <| .mk fun s =>
  @sOp (some 13) (xMov (.int .i64 0) s.H) s <| .mk fun s =>
  @sLoop s ⟨fun L0 s => W83_l5 P Φ L0 s⟩
theorem W83_rs (τ : Nat → AV) (H : Heap) : resV Try.prog τ H [.cell 2 31] = rdV H 4 true (τ 2) := by kernel_rfl
theorem W83_eq (Φ : Exit → St → Prop) (s : St) : awp Try.prog (Try.f83.body.getD .skip) Φ s = W83 Try.prog Φ s := by kernel_rfl

-- 84 "penance/term.active$1"
def W84_c1 (P : Program) (Φ : Exit → St → Prop) (s : St) : Prop :=
  Φ .normal s
def W84 (P : Program) (Φ : Exit → St → Prop) (s : St) : Prop :=
  @sOp (some 3) (xLoad 9 true (s.τ 1) s.H) s <| .mk fun s =>
  @sOp (some 4) (xMov (s.τ 0) s.H) s <| .mk fun s =>
  @sCall P (.func 85 []) [(s.τ 3), (s.τ 4)] (some 5) s ⟨W84_c1 P Φ⟩
theorem W84_rs (τ : Nat → AV) (H : Heap) : resV Try.prog τ H [] = ob (some []) fun vs => some (.tup vs) := by kernel_rfl
theorem W84_eq (Φ : Exit → St → Prop) (s : St) : awp Try.prog (Try.f84.body.getD .skip) Φ s = W84 Try.prog Φ s := by kernel_rfl

-- 85 "penance/term.walk"
def W85_b1 (P : Program) (Φ : Exit → St → Prop) (s : St) : Prop :=
  @sOp (some 4) (xMov (.bool false) s.H) s <| .mk fun s =>
  Φ .ret s
def W85_k2 (P : Program) (Φ : Exit → St → Prop) (s : St) : Prop :=
  @sOp (some 4) (xMov (.bool true) s.H) s <| .mk fun s =>
  Φ .ret s
def W85_b3 (P : Program) (Φ : Exit → St → Prop) (L0 : St → Prop) (s : St) : Prop :=
  @sOp (some 4) (xMov (.bool false) s.H) s <| .mk fun s =>
  Φ .ret s
def W85_b4 (P : Program) (Φ : Exit → St → Prop) (L0 : St → Prop) (s : St) : Prop :=
  @sOp (some 36) (xBin .add false (s.τ 28) (.int .i64 1) s.H) s <| .mk fun s =>
  @sOp (some 28) (xMov (s.τ 36) s.H) s <| .mk fun s =>
  L0 s
def W85_c5 (P : Program) (Φ : Exit → St → Prop) (L0 : St → Prop) (s : St) : Prop :=
  @sOp (some 35) (xNot (s.τ 34) s.H) s <| .mk fun s =>
  @sIf (s.τ 35) ⟨W85_b3 P Φ L0 s⟩ ⟨W85_b4 P Φ L0 s⟩
def W85_b6 (P : Program) (Φ : Exit → St → Prop) (L0 : St → Prop) (s : St) : Prop :=
  @sOp (some 30) (xIx 9 (s.τ 26) (s.τ 28) s.H) s <| .mk fun s =>
  @sOp (some 31) (xLoad 9 true (s.τ 30) s.H) s <| .mk fun s =>
  @sOp (some 7) (xAlloc 7 34 [.int .i64 0, .int .i64 0, .int .i64 0, .str ⟨#[]⟩, .int .i64 0, .int .i64 0, .str ⟨#[]⟩, .nils, .nils] s.H) s <| .mk fun s =>
  @sOp none (xStore 9 (s.τ 7) (s.τ 31) s.H) s <| .mk fun s =>
  @sOp (some 32) (xLoad 9 true (s.τ 7) s.H) s <| .mk fun s =>
  @sOp (some 33) (xMov (s.τ 1) s.H) s <| .mk fun s =>
  @sCall P (.func 85 []) [(s.τ 32), (s.τ 33)] (some 34) s ⟨W85_c5 P Φ L0⟩
def W85_l7 (P : Program) (Φ : Exit → St → Prop) (L0 : St → Prop) (s : St) : Prop :=
  @sOp (some 29) (xBin .lss false (s.τ 28) (s.τ 27) s.H) s <| .mk fun s =>
  @sIf (s.τ 29) ⟨W85_b6 P Φ L0 s⟩ ⟨W85_k2 P Φ s⟩
def W85_k8 (P : Program) (Φ : Exit → St → Prop) (s : St) : Prop :=
  @sOp (some 26) (xMov (s.τ 5) s.H) s <| .mk fun s =>
  @sOp (some 27) (xLen (s.τ 26) s.H) s <| .mk fun s =>
  @sOp (some 28) (xMov (.int .i64 0) s.H) s <| .mk fun s =>
  @sLoop s ⟨fun L0 s => W85_l7 P Φ L0 s⟩
def W85_b9 (P : Program) (Φ : Exit → St → Prop) (s : St) : Prop :=
  @sOp (some 18) (xMov (s.τ 5) s.H) s <| .mk fun s =>
  @sOp (some 19) (xMov (s.τ 5) s.H) s <| .mk fun s =>
  @sOp (some 20) (xLen (s.τ 19) s.H) s <| .mk fun s =>
  @sOp (some 21) (xMin (s.τ 20) (.int .i64 1) s.H) s <| .mk fun s =>
  @sOp (some 22) (xSlc 9 (s.τ 18) none (some (s.τ 21)) s.H) s <| .mk fun s =>
  @sOp (some 5) (xMov (s.τ 22) s.H) s <| .mk fun s =>
  W85_k8 P Φ s
def W85_b10 (P : Program) (Φ : Exit → St → Prop) (s : St) : Prop :=
  @sOp (some 4) (xMov (.bool true) s.H) s <| .mk fun s =>
  Φ .ret s
def W85_k11 (P : Program) (Φ : Exit → St → Prop) (s : St) : Prop :=
  @sIf (s.τ 23) ⟨W85_k8 P Φ s⟩ ⟨W85_b10 P Φ s⟩
def W85_b12 (P : Program) (Φ : Exit → St → Prop) (s : St) : Prop :=
  @sOp (some 25) (xBin .eql false (s.τ 15) (.int .i64 7) s.H) s <| .mk fun s =>
  @sOp (some 23) (xMov (s.τ 25) s.H) s <| .mk fun s =>
  W85_k11 P Φ s
def W85_b13 (P : Program) (Φ : Exit → St → Prop) (s : St) : Prop :=
  @sOp (some 24) (xBin .eql false (s.τ 15) (.int .i64 11) s.H) s <| .mk fun s =>
  @sOp (some 23) (xMov (s.τ 24) s.H) s <| .mk fun s =>
  @sIf (s.τ 23) ⟨W85_k11 P Φ s⟩ ⟨W85_b12 P Φ s⟩
def W85_b14 (P : Program) (Φ : Exit → St → Prop) (s : St) : Prop :=
  @sOp (some 12) (xFld 8 (s.τ 2) s.H) s <| .mk fun s =>
  @sOp (some 13) (xLoad 1 false (s.τ 12) s.H) s <| .mk fun s =>
  @sOp (some 5) (xMov (s.τ 13) s.H) s <| .mk fun s =>
  @sOp (some 14) (xFld 0 (s.τ 2) s.H) s <| .mk fun s =>
  @sOp (some 15) (xLoad 1 false (s.τ 14) s.H) s <| .mk fun s =>
  @sOp (some 17) (xBin .eql false (s.τ 15) (.int .i64 12) s.H) s <| .mk fun s =>
  @sOp (some 16) (xMov (s.τ 17) s.H) s <| .mk fun s =>
  @sIf (s.τ 16) ⟨W85_b9 P Φ s⟩ ⟨W85_b13 P Φ s⟩
def W85_c15 (P : Program) (Φ : Exit → St → Prop) (s : St) : Prop :=
  @sOp (some 11) (xNot (s.τ 10) s.H) s <| .mk fun s =>
  @sIf (s.τ 11) ⟨W85_b1 P Φ s⟩ ⟨W85_b14 P Φ s⟩
def W85 (P : Program) (Φ : Exit → St → Prop) (s : St) : Prop :=
  @sOp (some 2) (xBox 2 34 (s.τ 0) s.H) s <| .mk fun s =>
  @sOp (some 4) (xMov (.bool false) s.H) s <| .mk fun s =>
  @sOp (some 8) (xMov (s.τ 1) s.H) s <| .mk fun s =>
  @sOp (some 9) (xLoad 9 true (s.τ 2) s.H) s <| .mk fun s =>
  @sCall P (s.τ 8) [(s.τ 9)] (some 10) s ⟨W85_c15 P Φ⟩
theorem W85_rs (τ : Nat → AV) (H : Heap) : resV Try.prog τ H [.tmp 4] = some (τ 4) := by kernel_rfl
theorem W85_eq (Φ : Exit → St → Prop) (s : St) : awp Try.prog (Try.f85.body.getD .skip) Φ s = W85 Try.prog Φ s := by kernel_rfl

-- 86 "penance/penancelaw2.size"
def W86_b1 (P : Program) (Φ : Exit → St → Prop) (s : St) : Prop :=
  @sOp (some 4) (xMov (.int .i64 1000) s.H) s <| .mk fun s =>
  Φ .ret s
def W86_k2 (P : Program) (Φ : Exit → St → Prop) (s : St) : Prop :=
  @sOp (some 30) (xMov (s.τ 5) s.H) s <| .mk fun s =>
  @sOp (some 4) (xMov (s.τ 30) s.H) s <| .mk fun s =>
  Φ .ret s
def W86_c3 (P : Program) (Φ : Exit → St → Prop) (L0 : St → Prop) (s : St) : Prop :=
  @sOp (some 29) (xBin .add false (s.τ 20) (s.τ 28) s.H) s <| .mk fun s =>
  @sOp (some 5) (xMov (s.τ 29) s.H) s <| .mk fun s =>
  @sOp (some 17) (xMov (s.τ 6) s.H) s <| .mk fun s =>
  @sOp (some 18) (xBin .add false (s.τ 17) (.int .i64 1) s.H) s <| .mk fun s =>
  @sOp (some 6) (xMov (s.τ 18) s.H) s <| .mk fun s =>
  L0 s
def W86_b4 (P : Program) (Φ : Exit → St → Prop) (L0 : St → Prop) (s : St) : Prop :=
  @sOp (some 19) (xMov (s.τ 5) s.H) s <| .mk fun s =>
  @sOp (some 20) (xBin .add false (s.τ 19) (.int .i64 1) s.H) s <| .mk fun s =>
  @sOp (some 21) (xMov (s.τ 0) s.H) s <| .mk fun s =>
  @sOp (some 22) (xMov (s.τ 6) s.H) s <| .mk fun s =>
  @sOp (some 23) (xIx 3 (s.τ 21) (s.τ 22) s.H) s <| .mk fun s =>
  @sOp (some 24) (xFld 2 (s.τ 23) s.H) s <| .mk fun s =>
  @sOp (some 25) (xLoad 1 false (s.τ 24) s.H) s <| .mk fun s =>
  @sOp (some 26) (xMov (s.τ 1) s.H) s <| .mk fun s =>
  @sOp (some 27) (xBin .add false (s.τ 26) (.int .i64 1) s.H) s <| .mk fun s =>
  @sCall P (.func 86 []) [(s.τ 25), (s.τ 27)] (some 28) s ⟨W86_c3 P Φ L0⟩
def W86_c5 (P : Program) (Φ : Exit → St → Prop) (L0 : St → Prop) (s : St) : Prop :=
  @sOp (some 16) (xPick (s.τ 13) (s.τ 15) (.bool false) s.H) s <| .mk fun s =>
  @sIf (s.τ 16) ⟨W86_b4 P Φ L0 s⟩ ⟨W86_k2 P Φ s⟩
def W86_c6 (P : Program) (Φ : Exit → St → Prop) (L0 : St → Prop) (s : St) : Prop :=
  @sGrd (guardOf (s.τ 13) true) (some 15) s ⟨fun s K => @sOp (some 15) (xBin .leq false (s.τ 14) (.int .i64 20) s.H) s ⟨K⟩⟩ ⟨W86_c5 P Φ L0⟩
def W86_l7 (P : Program) (Φ : Exit → St → Prop) (L0 : St → Prop) (s : St) : Prop :=
  @sOp (some 9) (xMov (s.τ 6) s.H) s <| .mk fun s =>
  @sOp (some 10) (xMov (s.τ 0) s.H) s <| .mk fun s =>
  @sOp (some 11) (xLen (s.τ 10) s.H) s <| .mk fun s =>
  @sOp (some 12) (xBin .lss false (s.τ 9) (s.τ 11) s.H) s <| .mk fun s =>
  @sOp (some 13) (xMov (s.τ 12) s.H) s <| .mk fun s =>
  @sGrd (guardOf (s.τ 13) true) (some 14) s ⟨fun s K => @sOp (some 14) (xMov (s.τ 5) s.H) s ⟨K⟩⟩ ⟨W86_c6 P Φ L0⟩
def W86_b8 (P : Program) (Φ : Exit → St → Prop) (s : St) : Prop :=
  @sOp (some 5) (xMov (.int .i64 0) s.H) s <| .mk fun s =>
  @sOp (some 6) (xMov (.int .i64 0) s.H) s <| .mk fun s =>
  @sLoop s ⟨fun L0 s => W86_l7 P Φ L0 s⟩
def W86 (P : Program) (Φ : Exit → St → Prop) (s : St) : Prop :=
  @sOp (some 4) (xMov (.int .i64 0) s.H) s <| .mk fun s =>
  @sOp (some 7) (xMov (s.τ 1) s.H) s <| .mk fun s =>
  @sOp (some 8) (xBin .gtr false (s.τ 7) (.int .i64 8) s.H) s <| .mk fun s =>
  @sIf (s.τ 8) ⟨W86_b1 P Φ s⟩ ⟨W86_b8 P Φ s⟩
theorem W86_rs (τ : Nat → AV) (H : Heap) : resV Try.prog τ H [.tmp 4] = some (τ 4) := by kernel_rfl
theorem W86_eq (Φ : Exit → St → Prop) (s : St) : awp Try.prog (Try.f86.body.getD .skip) Φ s = W86 Try.prog Φ s := by kernel_rfl

-- 87 "(penance/penancelaw3.Raw).part"
def W87_c1 (P : Program) (Φ : Exit → St → Prop) (s : St) : Prop :=
  @sOp none (xStore 8 (s.τ 6) (s.τ 23) s.H) s <| .mk fun s =>
  Φ .ret s
def W87_b2 (P : Program) (Φ : Exit → St → Prop) (s : St) : Prop :=
  @sOp (some 16) (xFld 4 (s.τ 3) s.H) s <| .mk fun s =>
  @sOp (some 17) (xLoad 1 false (s.τ 16) s.H) s <| .mk fun s =>
  @sOp (some 18) (xMov (s.τ 1) s.H) s <| .mk fun s =>
  @sOp (some 19) (xIx 5 (s.τ 17) (s.τ 18) s.H) s <| .mk fun s =>
  @sOp (some 20) (xLoad 5 true (s.τ 19) s.H) s <| .mk fun s =>
  @sOp (some 21) (xMov (s.τ 2) s.H) s <| .mk fun s =>
  @sOp (some 22) (xBin .add false (s.τ 21) (.int .i64 1) s.H) s <| .mk fun s =>
  @sCall P (.func 69 []) [(s.τ 20), (s.τ 22)] (some 23) s ⟨W87_c1 P Φ⟩
def W87_b3 (P : Program) (Φ : Exit → St → Prop) (s : St) : Prop :=
  @sOp (some 24) (xBuild [.int .i64 0, .str ⟨#[]⟩, .str ⟨#[]⟩, .int .i64 0, .int .i64 0, .str ⟨#[]⟩, .nils, .nils] [(0, 1, (.int .i64 0))] s.H) s <| .mk fun s =>
  @sOp none (xStore 8 (s.τ 6) (s.τ 24) s.H) s <| .mk fun s =>
  Φ .ret s
def W87_c4 (P : Program) (Φ : Exit → St → Prop) (s : St) : Prop :=
  @sOp (some 15) (xPick (s.τ 12) (s.τ 14) (.bool false) s.H) s <| .mk fun s =>
  @sIf (s.τ 15) ⟨W87_b2 P Φ s⟩ ⟨W87_b3 P Φ s⟩
def W87_c5 (P : Program) (Φ : Exit → St → Prop) (s : St) : Prop :=
  @sGrd (guardOf (s.τ 12) true) (some 14) s ⟨fun s K => @sOp (some 14) (xBin .lss false (s.τ 13) (.int .i64 6) s.H) s ⟨K⟩⟩ ⟨W87_c4 P Φ⟩
def W87 (P : Program) (Φ : Exit → St → Prop) (s : St) : Prop :=
  @sOp (some 3) (xBox 3 25 (s.τ 0) s.H) s <| .mk fun s =>
  @sOp (some 6) (xAlloc 6 73 [.int .i64 0, .str ⟨#[]⟩, .str ⟨#[]⟩, .int .i64 0, .int .i64 0, .str ⟨#[]⟩, .nils, .nils] s.H) s <| .mk fun s =>
  @sOp (some 7) (xMov (s.τ 1) s.H) s <| .mk fun s =>
  @sOp (some 8) (xFld 4 (s.τ 3) s.H) s <| .mk fun s =>
  @sOp (some 9) (xLoad 1 false (s.τ 8) s.H) s <| .mk fun s =>
  @sOp (some 10) (xLen (s.τ 9) s.H) s <| .mk fun s =>
  @sOp (some 11) (xBin .lss false (s.τ 7) (s.τ 10) s.H) s <| .mk fun s =>
  @sOp (some 12) (xMov (s.τ 11) s.H) s <| .mk fun s =>
  @sGrd (guardOf (s.τ 12) true) (some 13) s ⟨fun s K => @sOp (some 13) (xMov (s.τ 2) s.H) s ⟨K⟩⟩ ⟨W87_c5 P Φ⟩
theorem W87_rs (τ : Nat → AV) (H : Heap) : resV Try.prog τ H [.cell 6 73] = rdV H 8 true (τ 6) := by kernel_rfl
theorem W87_eq (Φ : Exit → St → Prop) (s : St) : awp Try.prog (Try.f87.body.getD .skip) Φ s = W87 Try.prog Φ s := by kernel_rfl

-- 88 "penance/penancelaw2.One"
def W88_b1 (P : Program) (Φ : Exit → St → Prop) (s : St) : Prop :=
  @sOp (some 8) (xBuild [.int .i64 0, .int .i64 0, .str ⟨#[]⟩, .nils] [(0, 1, (.int .i64 1)), (1, 1, (.int .i64 1))] s.H) s <| .mk fun s =>
  @sOp none (xStore 4 (s.τ 4) (s.τ 8) s.H) s <| .mk fun s =>
  Φ .ret s
def W88_c2 (P : Program) (Φ : Exit → St → Prop) (s : St) : Prop :=
  @sOp none (xStore 4 (s.τ 4) (s.τ 13) s.H) s <| .mk fun s =>
  Φ .ret s
def W88_b3 (P : Program) (Φ : Exit → St → Prop) (s : St) : Prop :=
  @sOp (some 9) (xMov (s.τ 0) s.H) s <| .mk fun s =>
  @sOp (some 10) (xIx 3 (s.τ 9) (.int .i64 0) s.H) s <| .mk fun s =>
  @sOp (some 11) (xLoad 3 true (s.τ 10) s.H) s <| .mk fun s =>
  @sOp (some 12) (xMov (s.τ 1) s.H) s <| .mk fun s =>
  @sCall P (.func 101 []) [(s.τ 11), (s.τ 12)] (some 13) s ⟨W88_c2 P Φ⟩
def W88 (P : Program) (Φ : Exit → St → Prop) (s : St) : Prop :=
  @sOp (some 4) (xAlloc 4 31 [.int .i64 0, .int .i64 0, .str ⟨#[]⟩, .nils] s.H) s <| .mk fun s =>
  @sOp (some 5) (xMov (s.τ 0) s.H) s <| .mk fun s =>
  @sOp (some 6) (xLen (s.τ 5) s.H) s <| .mk fun s =>
  @sOp (some 7) (xBin .eql false (s.τ 6) (.int .i64 0) s.H) s <| .mk fun s =>
  @sIf (s.τ 7) ⟨W88_b1 P Φ s⟩ ⟨W88_b3 P Φ s⟩
theorem W88_rs (τ : Nat → AV) (H : Heap) : resV Try.prog τ H [.cell 4 31] = rdV H 4 true (τ 4) := by kernel_rfl
theorem W88_eq (Φ : Exit → St → Prop) (s : St) : awp Try.prog (Try.f88.body.getD .skip) Φ s = W88 Try.prog Φ s := by kernel_rfl

-- 89 "penance/penanceref4.names"
def W89_k1 (P : Program) (Φ : Exit → St → Prop) (s : St) : Prop :=
  @sOp (some 40) (xMov (s.τ 4) s.H) s <| .mk fun s =>
  @sOp (some 41) (xMov (s.τ 5) s.H) s <| .mk fun s =>
  @sOp (some 2) (xMov (s.τ 40) s.H) s <| .mk fun s =>
  @sOp (some 3) (xMov (s.τ 41) s.H) s <| .mk fun s =>
  Φ .ret s
def W89_b2 (P : Program) (Φ : Exit → St → Prop) (L0 : St → Prop) (s : St) : Prop :=
  @sOp (some 31) (xMov (s.τ 5) s.H) s <| .mk fun s =>
  @sOp (some 32) (xFld 2 (s.τ 1) s.H) s <| .mk fun s =>
  @sOp (some 33) (xLoad 1 false (s.τ 32) s.H) s <| .mk fun s =>
  @sOp (some 34) (xMov (s.τ 7) s.H) s <| .mk fun s =>
  @sOp (some 35) (xIx 9 (s.τ 33) (s.τ 34) s.H) s <| .mk fun s =>
  @sOp (some 36) (xFld 0 (s.τ 35) s.H) s <| .mk fun s =>
  @sOp (some 37) (xLoad 1 false (s.τ 36) s.H) s <| .mk fun s =>
  @sOp (some 38) (xLit 1 1 [.str ⟨#[]⟩] [(0, (s.τ 37))] s.H) s <| .mk fun s =>
  @sOp (some 39) (xApp P 9 1 16 (some 39) (s.τ 31) (s.τ 38) s.H) s <| .mk fun s =>
  @sOp (some 5) (xMov (s.τ 39) s.H) s <| .mk fun s =>
  @sOp (some 29) (xMov (s.τ 7) s.H) s <| .mk fun s =>
  @sOp (some 30) (xBin .add false (s.τ 29) (.int .i64 1) s.H) s <| .mk fun s =>
  @sOp (some 7) (xMov (s.τ 30) s.H) s <| .mk fun s =>
  L0 s
def W89_l3 (P : Program) (Φ : Exit → St → Prop) (L0 : St → Prop) (s : St) : Prop :=
  @sOp (some 24) (xMov (s.τ 7) s.H) s <| .mk fun s =>
  @sOp (some 25) (xFld 2 (s.τ 1) s.H) s <| .mk fun s =>
  @sOp (some 26) (xLoad 1 false (s.τ 25) s.H) s <| .mk fun s =>
  @sOp (some 27) (xLen (s.τ 26) s.H) s <| .mk fun s =>
  @sOp (some 28) (xBin .lss false (s.τ 24) (s.τ 27) s.H) s <| .mk fun s =>
  @sIf (s.τ 28) ⟨W89_b2 P Φ L0 s⟩ ⟨W89_k1 P Φ s⟩
def W89_k4 (P : Program) (Φ : Exit → St → Prop) (s : St) : Prop :=
  @sOp (some 7) (xMov (.int .i64 0) s.H) s <| .mk fun s =>
  @sLoop s ⟨fun L0 s => W89_l3 P Φ L0 s⟩
def W89_b5 (P : Program) (Φ : Exit → St → Prop) (L0 : St → Prop) (s : St) : Prop :=
  @sOp (some 15) (xMov (s.τ 4) s.H) s <| .mk fun s =>
  @sOp (some 16) (xFld 0 (s.τ 1) s.H) s <| .mk fun s =>
  @sOp (some 17) (xLoad 1 false (s.τ 16) s.H) s <| .mk fun s =>
  @sOp (some 18) (xMov (s.τ 6) s.H) s <| .mk fun s =>
  @sOp (some 19) (xIx 2 (s.τ 17) (s.τ 18) s.H) s <| .mk fun s =>
  @sOp (some 20) (xFld 0 (s.τ 19) s.H) s <| .mk fun s =>
  @sOp (some 21) (xLoad 1 false (s.τ 20) s.H) s <| .mk fun s =>
  @sOp (some 22) (xLit 1 1 [.str ⟨#[]⟩] [(0, (s.τ 21))] s.H) s <| .mk fun s =>
  @sOp (some 23) (xApp P 9 1 16 (some 23) (s.τ 15) (s.τ 22) s.H) s <| .mk fun s =>
  @sOp (some 4) (xMov (s.τ 23) s.H) s <| .mk fun s =>
  @sOp (some 13) (xMov (s.τ 6) s.H) s <| .mk fun s =>
  @sOp (some 14) (xBin .add false (s.τ 13) (.int .i64 1) s.H) s <| .mk fun s =>
  @sOp (some 6) (xMov (s.τ 14) s.H) s <| .mk fun s =>
  L0 s
def W89_l6 (P : Program) (Φ : Exit → St → Prop) (L0 : St → Prop) (s : St) : Prop :=
  @sOp (some 8) (xMov (s.τ 6) s.H) s <| .mk fun s =>
  @sOp (some 9) (xFld 0 (s.τ 1) s.H) s <| .mk fun s =>
  @sOp (some 10) (xLoad 1 false (s.τ 9) s.H) s <| .mk fun s =>
  @sOp (some 11) (xLen (s.τ 10) s.H) s <| .mk fun s =>
  @sOp (some 12) (xBin .lss false (s.τ 8) (s.τ 11) s.H) s <| .mk fun s =>
  @sIf (s.τ 12) ⟨W89_b5 P Φ L0 s⟩ ⟨W89_k4 P Φ s⟩
def W89 (P : Program) (Φ : Exit → St → Prop) (s : St) : Prop :=
  @sOp (some 1) (xBox 1 69 (s.τ 0) s.H) s <| .mk fun s =>
  @sOp (some 2) (xMov (.nils) s.H) s <| .mk fun s =>
  @sOp (some 3) (xMov (.nils) s.H) s <| .mk fun s =>
  @sOp (some 4) (xMov (.nils) s.H) s <| .mk fun s =>
  @sOp (some 5) (xMov (.nils) s.H) s <| .mk fun s =>
  @sOp (some 6) (xMov (.int .i64 0) s.H) s <| .mk fun s =>
  @sLoop s ⟨fun L0 s => W89_l6 P Φ L0 s⟩
theorem W89_rs (τ : Nat → AV) (H : Heap) : resV Try.prog τ H [.tmp 2, .tmp 3] = ob (ob (some (τ 2)) fun v => ob (ob (some (τ 3)) fun v => ob (some []) fun vs => some (v :: vs)) fun vs => some (v :: vs)) fun vs => some (.tup vs) := by kernel_rfl
theorem W89_eq (Φ : Exit → St → Prop) (s : St) : awp Try.prog (Try.f89.body.getD .skip) Φ s = W89 Try.prog Φ s := by kernel_rfl

-- 90 "penance/penanceref4.twice"
def W90_k1 (P : Program) (Φ : Exit → St → Prop) (s : St) : Prop :=
  @sOp (some 2) (xMov (.bool false) s.H) s <| .mk fun s =>
  Φ .ret s
def W90_b2 (P : Program) (Φ : Exit → St → Prop) (L0 : St → Prop) (s : St) : Prop :=
  @sOp (some 2) (xMov (.bool true) s.H) s <| .mk fun s =>
  Φ .ret s
def W90_b3 (P : Program) (Φ : Exit → St → Prop) (L0 : St → Prop) (s : St) : Prop :=
  @sOp (some 8) (xMov (s.τ 3) s.H) s <| .mk fun s =>
  @sOp (some 9) (xBin .add false (s.τ 8) (.int .i64 1) s.H) s <| .mk fun s =>
  @sOp (some 3) (xMov (s.τ 9) s.H) s <| .mk fun s =>
  L0 s
def W90_c4 (P : Program) (Φ : Exit → St → Prop) (L0 : St → Prop) (s : St) : Prop :=
  @sOp (some 16) (xMov (s.τ 3) s.H) s <| .mk fun s =>
  @sOp (some 17) (xBin .neq false (s.τ 15) (s.τ 16) s.H) s <| .mk fun s =>
  @sIf (s.τ 17) ⟨W90_b2 P Φ L0 s⟩ ⟨W90_b3 P Φ L0 s⟩
def W90_b5 (P : Program) (Φ : Exit → St → Prop) (L0 : St → Prop) (s : St) : Prop :=
  @sOp (some 10) (xMov (s.τ 0) s.H) s <| .mk fun s =>
  @sOp (some 11) (xMov (s.τ 0) s.H) s <| .mk fun s =>
  @sOp (some 12) (xMov (s.τ 3) s.H) s <| .mk fun s =>
  @sOp (some 13) (xIx 1 (s.τ 11) (s.τ 12) s.H) s <| .mk fun s =>
  @sOp (some 14) (xLoad 1 false (s.τ 13) s.H) s <| .mk fun s =>
  @sCall P (.func 91 []) [(s.τ 10), (s.τ 14)] (some 15) s ⟨W90_c4 P Φ L0⟩
def W90_l6 (P : Program) (Φ : Exit → St → Prop) (L0 : St → Prop) (s : St) : Prop :=
  @sOp (some 4) (xMov (s.τ 3) s.H) s <| .mk fun s =>
  @sOp (some 5) (xMov (s.τ 0) s.H) s <| .mk fun s =>
  @sOp (some 6) (xLen (s.τ 5) s.H) s <| .mk fun s =>
  @sOp (some 7) (xBin .lss false (s.τ 4) (s.τ 6) s.H) s <| .mk fun s =>
  @sIf (s.τ 7) ⟨W90_b5 P Φ L0 s⟩ ⟨W90_k1 P Φ s⟩
def W90 (P : Program) (Φ : Exit → St → Prop) (s : St) : Prop :=
  @sOp (some 2) (xMov (.bool false) s.H) s <| .mk fun s =>
  @sOp (some 3) (xMov (.int .i64 0) s.H) s <| .mk fun s =>
  @sLoop s ⟨fun L0 s => W90_l6 P Φ L0 s⟩
theorem W90_rs (τ : Nat → AV) (H : Heap) : resV Try.prog τ H [.tmp 2] = some (τ 2) := by kernel_rfl
theorem W90_eq (Φ : Exit → St → Prop) (s : St) : awp Try.prog (Try.f90.body.getD .skip) Φ s = W90 Try.prog Φ s := by kernel_rfl

-- 91 "penance/penanceref4.find"
def W91_k1 (P : Program) (Φ : Exit → St → Prop) (s : St) : Prop :=
  @sOp (some 4) (xMov (.int .i64 (-1)) s.H) s <| .mk fun s =>
  Φ .ret s
def W91_b2 (P : Program) (Φ : Exit → St → Prop) (L0 : St → Prop) (s : St) : Prop :=
  @sOp (some 18) (xMov (s.τ 5) s.H) s <| .mk fun s =>
  @sOp (some 4) (xMov (s.τ 18) s.H) s <| .mk fun s =>
  Φ .ret s
def W91_b3 (P : Program) (Φ : Exit → St → Prop) (L0 : St → Prop) (s : St) : Prop :=
  @sOp (some 10) (xMov (s.τ 5) s.H) s <| .mk fun s =>
  @sOp (some 11) (xBin .add false (s.τ 10) (.int .i64 1) s.H) s <| .mk fun s =>
  @sOp (some 5) (xMov (s.τ 11) s.H) s <| .mk fun s =>
  L0 s
def W91_b4 (P : Program) (Φ : Exit → St → Prop) (L0 : St → Prop) (s : St) : Prop :=
  @sOp (some 12) (xMov (s.τ 0) s.H) s <| .mk fun s =>
  @sOp (some 13) (xMov (s.τ 5) s.H) s <| .mk fun s =>
  @sOp (some 14) (xIx 1 (s.τ 12) (s.τ 13) s.H) s <| .mk fun s =>
  @sOp (some 15) (xLoad 1 false (s.τ 14) s.H) s <| .mk fun s =>
  @sOp (some 16) (xMov (s.τ 1) s.H) s <| .mk fun s =>
  @sOp (some 17) (xBin .eql false (s.τ 15) (s.τ 16) s.H) s <| .mk fun s =>
  @sIf (s.τ 17) ⟨W91_b2 P Φ L0 s⟩ ⟨W91_b3 P Φ L0 s⟩
def W91_l5 (P : Program) (Φ : Exit → St → Prop) (L0 : St → Prop) (s : St) : Prop :=
  @sOp (some 6) (xMov (s.τ 5) s.H) s <| .mk fun s =>
  @sOp (some 7) (xMov (s.τ 0) s.H) s <| .mk fun s =>
  @sOp (some 8) (xLen (s.τ 7) s.H) s <| .mk fun s =>
  @sOp (some 9) (xBin .lss false (s.τ 6) (s.τ 8) s.H) s <| .mk fun s =>
  @sIf (s.τ 9) ⟨W91_b4 P Φ L0 s⟩ ⟨W91_k1 P Φ s⟩
def W91 (P : Program) (Φ : Exit → St → Prop) (s : St) : Prop :=
  @sOp (some 4) (xMov (.int .i64 0) s.H) s <| .mk fun s =>
  @sOp (some 5) (xMov (.int .i64 0) s.H) s <| .mk fun s =>
  @sLoop s ⟨fun L0 s => W91_l5 P Φ L0 s⟩
theorem W91_rs (τ : Nat → AV) (H : Heap) : resV Try.prog τ H [.tmp 4] = some (τ 4) := by kernel_rfl
theorem W91_eq (Φ : Exit → St → Prop) (s : St) : awp Try.prog (Try.f91.body.getD .skip) Φ s = W91 Try.prog Φ s := by kernel_rfl

-- 92 "(*penance/penanceref4.lower).proc"
def W92_k1 (P : Program) (Φ : Exit → St → Prop) (s : St) : Prop :=
  @sOp (some 116) (xLoad 9 true (s.τ 5) s.H) s <| .mk fun s =>
  @sOp none (xStore 9 (s.τ 4) (s.τ 116) s.H) s <| .mk fun s =>
  Φ .ret s
def W92_c2 (P : Program) (Φ : Exit → St → Prop) (L0 : St → Prop) (u0 : St) (u1 : St) (s : St) : Prop :=
  @sChk (compat (occ (u0.τ 5), []) ([113] ++ occL [(s.τ 112)], [113] ++ occL [(s.τ 112)])) <| .mk <|
  @sChk (compat (occ (u1.τ 104), []) ([113] ++ occL [(s.τ 112)], [113] ++ occL [(s.τ 112)])) <| .mk <|
  @sOp (some 113) (xLit 9 1 [.int .i64 0, .int .i64 0, .int .i64 0, .str ⟨#[]⟩, .int .i64 0, .int .i64 0, .str ⟨#[]⟩, .nils, .nils] [(0, (s.τ 112))] s.H) s <| .mk fun u10 =>
  @sOp (some 114) (xApp P 34 9 120 (some 114) (u10.τ 105) (u10.τ 113) u10.H) u10 <| .mk fun u11 =>
  @sOp (some 115) (xFld 8 (u11.τ 5) u11.H) u11 <| .mk fun u12 =>
  @sOp none (xStore 1 (u12.τ 115) (u12.τ 114) u12.H) u12 <| .mk fun s =>
  @sOp (some 102) (xMov (s.τ 6) s.H) s <| .mk fun s =>
  @sOp (some 103) (xBin .add false (s.τ 102) (.int .i64 1) s.H) s <| .mk fun s =>
  @sOp (some 6) (xMov (s.τ 103) s.H) s <| .mk fun s =>
  L0 s
def W92_b3 (P : Program) (Φ : Exit → St → Prop) (L0 : St → Prop) (s : St) : Prop :=
  @sOp (some 104) (xFld 8 (s.τ 5) s.H) s <| .mk fun u1 =>
  @sOp (some 105) (xLoad 1 false (u1.τ 104) u1.H) u1 <| .mk fun u2 =>
  @sOp (some 106) (xMov (u2.τ 0) u2.H) u2 <| .mk fun u3 =>
  @sOp (some 107) (xFld 7 (u3.τ 3) u3.H) u3 <| .mk fun u4 =>
  @sOp (some 108) (xLoad 1 false (u4.τ 107) u4.H) u4 <| .mk fun u5 =>
  @sOp (some 109) (xMov (u5.τ 6) u5.H) u5 <| .mk fun u6 =>
  @sOp (some 110) (xIx 8 (u6.τ 108) (u6.τ 109) u6.H) u6 <| .mk fun u7 =>
  @sOp (some 111) (xLoad 8 true (u7.τ 110) u7.H) u7 <| .mk fun u8 =>
  @sChk (compat (occ (s.τ 5), []) ([112] ++ (occ (.func 92 []) ++ occL [(u8.τ 106), (u8.τ 111)]), [112] ++ (occ (.func 92 []) ++ occL [(u8.τ 106), (u8.τ 111)]))) <| .mk <|
  @sChk (compat (occ (u1.τ 104), []) ([112] ++ (occ (.func 92 []) ++ occL [(u8.τ 106), (u8.τ 111)]), [112] ++ (occ (.func 92 []) ++ occL [(u8.τ 106), (u8.τ 111)]))) <| .mk <|
  @sCall0 P (.func 92 []) [(u8.τ 106), (u8.τ 111)] (some 112) u8 ⟨W92_c2 P Φ L0 s u1⟩
def W92_l4 (P : Program) (Φ : Exit → St → Prop) (L0 : St → Prop) (s : St) : Prop :=
  @sOp (some 97) (xMov (s.τ 6) s.H) s <| .mk fun s =>
  @sOp (some 98) (xFld 7 (s.τ 3) s.H) s <| .mk fun s =>
  @sOp (some 99) (xLoad 1 false (s.τ 98) s.H) s <| .mk fun s =>
  @sOp (some 100) (xLen (s.τ 99) s.H) s <| .mk fun s =>
  @sOp (some 101) (xBin .lss false (s.τ 97) (s.τ 100) s.H) s <| .mk fun s =>
  @sIf (s.τ 101) ⟨W92_b3 P Φ L0 s⟩ ⟨W92_k1 P Φ s⟩
def W92_k5 (P : Program) (Φ : Exit → St → Prop) (s : St) : Prop :=
  @sOp (some 6) (xMov (.int .i64 0) s.H) s <| .mk fun s =>
  @sLoop s ⟨fun L0 s => W92_l4 P Φ L0 s⟩
def W92_c6 (P : Program) (Φ : Exit → St → Prop) (s : St) : Prop :=
  @sOp (some 29) (xFld 1 (s.τ 5) s.H) s <| .mk fun s =>
  @sOp none (xStore 1 (s.τ 29) (s.τ 28) s.H) s <| .mk fun s =>
  W92_k5 P Φ s
def W92_b7 (P : Program) (Φ : Exit → St → Prop) (s : St) : Prop :=
  @sOp (some 21) (xMov (s.τ 0) s.H) s <| .mk fun s =>
  @sOp (some 22) (xMov (s.τ 0) s.H) s <| .mk fun s =>
  @sOp (some 23) (xNil (s.τ 22) s.H) s <| .mk fun s =>
  @sOp (some 24) (xFld 0 (s.τ 23) s.H) s <| .mk fun s =>
  @sOp (some 25) (xLoad 1 false (s.τ 24) s.H) s <| .mk fun s =>
  @sOp (some 26) (xFld 2 (s.τ 3) s.H) s <| .mk fun s =>
  @sOp (some 27) (xLoad 1 false (s.τ 26) s.H) s <| .mk fun s =>
  @sCall0 P (.func 102 []) [(s.τ 21), (s.τ 25), (s.τ 27)] (some 28) s ⟨W92_c6 P Φ⟩
def W92_b8 (P : Program) (Φ : Exit → St → Prop) (s : St) : Prop :=
  @sOp (some 14) (xFld 1 (s.τ 3) s.H) s <| .mk fun s =>
  @sOp (some 15) (xLoad 1 false (s.τ 14) s.H) s <| .mk fun s =>
  @sOp (some 16) (xFld 3 (s.τ 5) s.H) s <| .mk fun s =>
  @sOp none (xStore 1 (s.τ 16) (s.τ 15) s.H) s <| .mk fun s =>
  @sOp (some 17) (xFld 1 (s.τ 5) s.H) s <| .mk fun s =>
  @sOp none (xStore 1 (s.τ 17) (.int .i64 (-1)) s.H) s <| .mk fun s =>
  @sOp (some 18) (xFld 2 (s.τ 3) s.H) s <| .mk fun s =>
  @sOp (some 19) (xLoad 1 false (s.τ 18) s.H) s <| .mk fun s =>
  @sOp (some 20) (xBin .neq false (s.τ 19) (.str ⟨#[]⟩) s.H) s <| .mk fun s =>
  @sIf (s.τ 20) ⟨W92_b7 P Φ s⟩ ⟨W92_k5 P Φ s⟩
def W92_c9 (P : Program) (Φ : Exit → St → Prop) (u11 : St) (s : St) : Prop :=
  @sChk (compat ([43] ++ (occ (.func 103 []) ++ occL [(u11.τ 40), (u11.τ 42)]), [43] ++ (occ (.func 103 []) ++ occL [(u11.τ 40), (u11.τ 42)])) (occ (s.τ 5), [])) <| .mk <|
  @sOp (some 44) (xFld 1 (s.τ 5) s.H) s <| .mk fun u13 =>
  @sOp none (xStore 1 (u13.τ 44) (u13.τ 39) u13.H) u13 <| .mk fun u14 =>
  @sOp (some 45) (xFld 4 (u14.τ 5) u14.H) u14 <| .mk fun u15 =>
  @sOp none (xStore 4 (u15.τ 45) (u15.τ 43) u15.H) u15 <| .mk fun s =>
  W92_k5 P Φ s
def W92_c10 (P : Program) (Φ : Exit → St → Prop) (u7 : St) (s : St) : Prop :=
  @sOp (some 40) (xMov (s.τ 0) s.H) s <| .mk fun u9 =>
  @sChk (compat ([39] ++ (occ (.func 102 []) ++ occL [(u7.τ 32), (u7.τ 36), (u7.τ 38)]), [39] ++ (occ (.func 102 []) ++ occL [(u7.τ 32), (u7.τ 36), (u7.τ 38)])) (occ (u9.τ 3), [])) <| .mk <|
  @sOp (some 41) (xFld 3 (u9.τ 3) u9.H) u9 <| .mk fun u10 =>
  @sChk (compat ([39] ++ (occ (.func 102 []) ++ occL [(u7.τ 32), (u7.τ 36), (u7.τ 38)]), [39] ++ (occ (.func 102 []) ++ occL [(u7.τ 32), (u7.τ 36), (u7.τ 38)])) (occ (u10.τ 41), [])) <| .mk <|
  @sOp (some 42) (xLoad 4 true (u10.τ 41) u10.H) u10 <| .mk fun u11 =>
  @sCall0 P (.func 103 []) [(u11.τ 40), (u11.τ 42)] (some 43) u11 ⟨W92_c9 P Φ u11⟩
def W92_b11 (P : Program) (Φ : Exit → St → Prop) (s : St) : Prop :=
  @sOp (some 32) (xMov (s.τ 0) s.H) s <| .mk fun u1 =>
  @sOp (some 33) (xMov (u1.τ 0) u1.H) u1 <| .mk fun u2 =>
  @sOp (some 34) (xNil (u2.τ 33) u2.H) u2 <| .mk fun u3 =>
  @sOp (some 35) (xFld 0 (u3.τ 34) u3.H) u3 <| .mk fun u4 =>
  @sOp (some 36) (xLoad 1 false (u4.τ 35) u4.H) u4 <| .mk fun u5 =>
  @sOp (some 37) (xFld 2 (u5.τ 3) u5.H) u5 <| .mk fun u6 =>
  @sOp (some 38) (xLoad 1 false (u6.τ 37) u6.H) u6 <| .mk fun u7 =>
  @sCall0 P (.func 102 []) [(u7.τ 32), (u7.τ 36), (u7.τ 38)] (some 39) u7 ⟨W92_c10 P Φ u7⟩
def W92_c12 (P : Program) (Φ : Exit → St → Prop) (s : St) : Prop :=
  @sOp (some 58) (xFld 1 (s.τ 5) s.H) s <| .mk fun s =>
  @sOp none (xStore 1 (s.τ 58) (s.τ 57) s.H) s <| .mk fun s =>
  W92_k5 P Φ s
def W92_b13 (P : Program) (Φ : Exit → St → Prop) (s : St) : Prop :=
  @sOp (some 50) (xMov (s.τ 0) s.H) s <| .mk fun s =>
  @sOp (some 51) (xMov (s.τ 0) s.H) s <| .mk fun s =>
  @sOp (some 52) (xNil (s.τ 51) s.H) s <| .mk fun s =>
  @sOp (some 53) (xFld 1 (s.τ 52) s.H) s <| .mk fun s =>
  @sOp (some 54) (xLoad 1 false (s.τ 53) s.H) s <| .mk fun s =>
  @sOp (some 55) (xFld 1 (s.τ 3) s.H) s <| .mk fun s =>
  @sOp (some 56) (xLoad 1 false (s.τ 55) s.H) s <| .mk fun s =>
  @sCall0 P (.func 102 []) [(s.τ 50), (s.τ 54), (s.τ 56)] (some 57) s ⟨W92_c12 P Φ⟩
def W92_c14 (P : Program) (Φ : Exit → St → Prop) (u15 : St) (s : St) : Prop :=
  @sChk (compat ([76] ++ (occ (.func 102 []) ++ occL [(u15.τ 69), (u15.τ 73), (u15.τ 75)]), [76] ++ (occ (.func 102 []) ++ occL [(u15.τ 69), (u15.τ 73), (u15.τ 75)])) (occ (s.τ 5), [])) <| .mk <|
  @sOp (some 77) (xFld 1 (s.τ 5) s.H) s <| .mk fun u17 =>
  @sOp none (xStore 1 (u17.τ 77) (u17.τ 68) u17.H) u17 <| .mk fun u18 =>
  @sOp (some 78) (xFld 2 (u18.τ 5) u18.H) u18 <| .mk fun u19 =>
  @sOp none (xStore 1 (u19.τ 78) (u19.τ 76) u19.H) u19 <| .mk fun s =>
  W92_k5 P Φ s
def W92_c15 (P : Program) (Φ : Exit → St → Prop) (u7 : St) (s : St) : Prop :=
  @sOp (some 69) (xMov (s.τ 0) s.H) s <| .mk fun u9 =>
  @sOp (some 70) (xMov (u9.τ 0) u9.H) u9 <| .mk fun u10 =>
  @sChk (compat ([68] ++ (occ (.func 102 []) ++ occL [(u7.τ 61), (u7.τ 65), (u7.τ 67)]), [68] ++ (occ (.func 102 []) ++ occL [(u7.τ 61), (u7.τ 65), (u7.τ 67)])) (occ (u10.τ 70), [])) <| .mk <|
  @sOp (some 71) (xNil (u10.τ 70) u10.H) u10 <| .mk fun u11 =>
  @sChk (compat ([68] ++ (occ (.func 102 []) ++ occL [(u7.τ 61), (u7.τ 65), (u7.τ 67)]), [68] ++ (occ (.func 102 []) ++ occL [(u7.τ 61), (u7.τ 65), (u7.τ 67)])) (occ (u11.τ 71), [])) <| .mk <|
  @sOp (some 72) (xFld 1 (u11.τ 71) u11.H) u11 <| .mk fun u12 =>
  @sChk (compat ([68] ++ (occ (.func 102 []) ++ occL [(u7.τ 61), (u7.τ 65), (u7.τ 67)]), [68] ++ (occ (.func 102 []) ++ occL [(u7.τ 61), (u7.τ 65), (u7.τ 67)])) (occ (u12.τ 72), [])) <| .mk <|
  @sOp (some 73) (xLoad 1 false (u12.τ 72) u12.H) u12 <| .mk fun u13 =>
  @sChk (compat ([68] ++ (occ (.func 102 []) ++ occL [(u7.τ 61), (u7.τ 65), (u7.τ 67)]), [68] ++ (occ (.func 102 []) ++ occL [(u7.τ 61), (u7.τ 65), (u7.τ 67)])) (occ (u13.τ 3), [])) <| .mk <|
  @sOp (some 74) (xFld 2 (u13.τ 3) u13.H) u13 <| .mk fun u14 =>
  @sChk (compat ([68] ++ (occ (.func 102 []) ++ occL [(u7.τ 61), (u7.τ 65), (u7.τ 67)]), [68] ++ (occ (.func 102 []) ++ occL [(u7.τ 61), (u7.τ 65), (u7.τ 67)])) (occ (u14.τ 74), [])) <| .mk <|
  @sOp (some 75) (xLoad 1 false (u14.τ 74) u14.H) u14 <| .mk fun u15 =>
  @sCall0 P (.func 102 []) [(u15.τ 69), (u15.τ 73), (u15.τ 75)] (some 76) u15 ⟨W92_c14 P Φ u15⟩
def W92_b16 (P : Program) (Φ : Exit → St → Prop) (s : St) : Prop :=
  @sOp (some 61) (xMov (s.τ 0) s.H) s <| .mk fun u1 =>
  @sOp (some 62) (xMov (u1.τ 0) u1.H) u1 <| .mk fun u2 =>
  @sOp (some 63) (xNil (u2.τ 62) u2.H) u2 <| .mk fun u3 =>
  @sOp (some 64) (xFld 1 (u3.τ 63) u3.H) u3 <| .mk fun u4 =>
  @sOp (some 65) (xLoad 1 false (u4.τ 64) u4.H) u4 <| .mk fun u5 =>
  @sOp (some 66) (xFld 1 (u5.τ 3) u5.H) u5 <| .mk fun u6 =>
  @sOp (some 67) (xLoad 1 false (u6.τ 66) u6.H) u6 <| .mk fun u7 =>
  @sCall0 P (.func 102 []) [(u7.τ 61), (u7.τ 65), (u7.τ 67)] (some 68) u7 ⟨W92_c15 P Φ u7⟩
def W92_c17 (P : Program) (Φ : Exit → St → Prop) (s : St) : Prop :=
  @sOp (some 85) (xFld 4 (s.τ 5) s.H) s <| .mk fun s =>
  @sOp none (xStore 4 (s.τ 85) (s.τ 84) s.H) s <| .mk fun s =>
  W92_k5 P Φ s
def W92_b18 (P : Program) (Φ : Exit → St → Prop) (s : St) : Prop :=
  @sOp (some 81) (xMov (s.τ 0) s.H) s <| .mk fun s =>
  @sOp (some 82) (xFld 3 (s.τ 3) s.H) s <| .mk fun s =>
  @sOp (some 83) (xLoad 4 true (s.τ 82) s.H) s <| .mk fun s =>
  @sCall P (.func 103 []) [(s.τ 81), (s.τ 83)] (some 84) s ⟨W92_c17 P Φ⟩
def W92_c19 (P : Program) (Φ : Exit → St → Prop) (s : St) : Prop :=
  @sOp (some 96) (xFld 1 (s.τ 5) s.H) s <| .mk fun s =>
  @sOp none (xStore 1 (s.τ 96) (s.τ 95) s.H) s <| .mk fun s =>
  W92_k5 P Φ s
def W92_b20 (P : Program) (Φ : Exit → St → Prop) (s : St) : Prop :=
  @sOp (some 88) (xMov (s.τ 0) s.H) s <| .mk fun s =>
  @sOp (some 89) (xMov (s.τ 0) s.H) s <| .mk fun s =>
  @sOp (some 90) (xNil (s.τ 89) s.H) s <| .mk fun s =>
  @sOp (some 91) (xFld 2 (s.τ 90) s.H) s <| .mk fun s =>
  @sOp (some 92) (xLoad 1 false (s.τ 91) s.H) s <| .mk fun s =>
  @sOp (some 93) (xFld 1 (s.τ 3) s.H) s <| .mk fun s =>
  @sOp (some 94) (xLoad 1 false (s.τ 93) s.H) s <| .mk fun s =>
  @sCall0 P (.func 102 []) [(s.τ 88), (s.τ 92), (s.τ 94)] (some 95) s ⟨W92_c19 P Φ⟩
def W92_b21 (P : Program) (Φ : Exit → St → Prop) (s : St) : Prop :=
  @sOp (some 87) (xBin .eql false (s.τ 11) (.int .i64 13) s.H) s <| .mk fun s =>
  @sOp (some 86) (xMov (s.τ 87) s.H) s <| .mk fun s =>
  @sIf (s.τ 86) ⟨W92_b20 P Φ s⟩ ⟨W92_k5 P Φ s⟩
def W92_b22 (P : Program) (Φ : Exit → St → Prop) (s : St) : Prop :=
  @sOp (some 80) (xBin .eql false (s.τ 11) (.int .i64 9) s.H) s <| .mk fun s =>
  @sOp (some 79) (xMov (s.τ 80) s.H) s <| .mk fun s =>
  @sIf (s.τ 79) ⟨W92_b18 P Φ s⟩ ⟨W92_b21 P Φ s⟩
def W92_b23 (P : Program) (Φ : Exit → St → Prop) (s : St) : Prop :=
  @sOp (some 60) (xBin .eql false (s.τ 11) (.int .i64 6) s.H) s <| .mk fun s =>
  @sOp (some 59) (xMov (s.τ 60) s.H) s <| .mk fun s =>
  @sIf (s.τ 59) ⟨W92_b16 P Φ s⟩ ⟨W92_b22 P Φ s⟩
def W92_k24 (P : Program) (Φ : Exit → St → Prop) (s : St) : Prop :=
  @sIf (s.τ 46) ⟨W92_b13 P Φ s⟩ ⟨W92_b23 P Φ s⟩
def W92_b25 (P : Program) (Φ : Exit → St → Prop) (s : St) : Prop :=
  @sOp (some 49) (xBin .eql false (s.τ 11) (.int .i64 5) s.H) s <| .mk fun s =>
  @sOp (some 46) (xMov (s.τ 49) s.H) s <| .mk fun s =>
  W92_k24 P Φ s
def W92_b26 (P : Program) (Φ : Exit → St → Prop) (s : St) : Prop :=
  @sOp (some 48) (xBin .eql false (s.τ 11) (.int .i64 4) s.H) s <| .mk fun s =>
  @sOp (some 46) (xMov (s.τ 48) s.H) s <| .mk fun s =>
  @sIf (s.τ 46) ⟨W92_k24 P Φ s⟩ ⟨W92_b25 P Φ s⟩
def W92_b27 (P : Program) (Φ : Exit → St → Prop) (s : St) : Prop :=
  @sOp (some 47) (xBin .eql false (s.τ 11) (.int .i64 3) s.H) s <| .mk fun s =>
  @sOp (some 46) (xMov (s.τ 47) s.H) s <| .mk fun s =>
  @sIf (s.τ 46) ⟨W92_k24 P Φ s⟩ ⟨W92_b26 P Φ s⟩
def W92_b28 (P : Program) (Φ : Exit → St → Prop) (s : St) : Prop :=
  @sOp (some 31) (xBin .eql false (s.τ 11) (.int .i64 2) s.H) s <| .mk fun s =>
  @sOp (some 30) (xMov (s.τ 31) s.H) s <| .mk fun s =>
  @sIf (s.τ 30) ⟨W92_b11 P Φ s⟩ ⟨W92_b27 P Φ s⟩
def W92 (P : Program) (Φ : Exit → St → Prop) (s : St) : Prop :=
  @sOp (some 3) (xBox 3 73 (s.τ 1) s.H) s <| .mk fun s =>
  @sOp (some 4) (xAlloc 4 34 [.int .i64 0, .int .i64 0, .int .i64 0, .str ⟨#[]⟩, .int .i64 0, .int .i64 0, .str ⟨#[]⟩, .nils, .nils] s.H) s <| .mk fun s =>
  @sOp (some 7) (xFld 0 (s.τ 3) s.H) s <| .mk fun s =>
  @sOp (some 8) (xLoad 1 false (s.τ 7) s.H) s <| .mk fun s =>
  @sOp (some 9) (xBuild [.int .i64 0, .int .i64 0, .int .i64 0, .str ⟨#[]⟩, .int .i64 0, .int .i64 0, .str ⟨#[]⟩, .nils, .nils] [(0, 1, (s.τ 8))] s.H) s <| .mk fun s =>
  @sOp (some 5) (xAlloc 5 34 [.int .i64 0, .int .i64 0, .int .i64 0, .str ⟨#[]⟩, .int .i64 0, .int .i64 0, .str ⟨#[]⟩, .nils, .nils] s.H) s <| .mk fun s =>
  @sOp none (xStore 9 (s.τ 5) (s.τ 9) s.H) s <| .mk fun s =>
  @sOp (some 10) (xFld 0 (s.τ 3) s.H) s <| .mk fun s =>
  @sOp (some 11) (xLoad 1 false (s.τ 10) s.H) s <| .mk fun s =>
  @sOp (some 13) (xBin .eql false (s.τ 11) (.int .i64 1) s.H) s <| .mk fun s =>
  @sOp (some 12) (xMov (s.τ 13) s.H) s <| .mk fun s =>
  @sIf (s.τ 12) ⟨W92_b8 P Φ s⟩ ⟨W92_b28 P Φ s⟩
theorem W92_rs (τ : Nat → AV) (H : Heap) : resV Try.prog τ H [.cell 4 34] = rdV H 9 true (τ 4) := by kernel_rfl
theorem W92_eq (Φ : Exit → St → Prop) (s : St) : awp Try.prog (Try.f92.body.getD .skip) Φ s = W92 Try.prog Φ s := by kernel_rfl

-- 93 "penance/penanceref4.round"
def W93_k1 (P : Program) (Φ : Exit → St → Prop) (s : St) : Prop :=
  @sOp (some 2) (xMov (.bool false) s.H) s <| .mk fun s =>
  Φ .ret s
def W93_b2 (P : Program) (Φ : Exit → St → Prop) (L0 : St → Prop) (s : St) : Prop :=
  @sOp (some 2) (xMov (.bool true) s.H) s <| .mk fun s =>
  Φ .ret s
def W93_b3 (P : Program) (Φ : Exit → St → Prop) (L0 : St → Prop) (s : St) : Prop :=
  @sOp (some 62) (xMov (s.τ 8) s.H) s <| .mk fun s =>
  @sOp (some 63) (xBin .add false (s.τ 62) (.int .i64 1) s.H) s <| .mk fun s =>
  @sOp (some 8) (xMov (s.τ 63) s.H) s <| .mk fun s =>
  L0 s
def W93_b4 (P : Program) (Φ : Exit → St → Prop) (L0 : St → Prop) (s : St) : Prop :=
  @sOp (some 64) (xMov (s.τ 3) s.H) s <| .mk fun s =>
  @sOp (some 65) (xMov (s.τ 8) s.H) s <| .mk fun s =>
  @sOp (some 66) (xIx 1 (s.τ 64) (s.τ 65) s.H) s <| .mk fun s =>
  @sOp (some 67) (xLoad 1 false (s.τ 66) s.H) s <| .mk fun s =>
  @sOp (some 68) (xMov (s.τ 8) s.H) s <| .mk fun s =>
  @sOp (some 69) (xIx 1 (s.τ 67) (s.τ 68) s.H) s <| .mk fun s =>
  @sOp (some 70) (xLoad 1 false (s.τ 69) s.H) s <| .mk fun s =>
  @sIf (s.τ 70) ⟨W93_b2 P Φ L0 s⟩ ⟨W93_b3 P Φ L0 s⟩
def W93_l5 (P : Program) (Φ : Exit → St → Prop) (L0 : St → Prop) (s : St) : Prop :=
  @sOp (some 59) (xMov (s.τ 8) s.H) s <| .mk fun s =>
  @sOp (some 60) (xMov (s.τ 4) s.H) s <| .mk fun s =>
  @sOp (some 61) (xBin .lss false (s.τ 59) (s.τ 60) s.H) s <| .mk fun s =>
  @sIf (s.τ 61) ⟨W93_b4 P Φ L0 s⟩ ⟨W93_k1 P Φ s⟩
def W93_k6 (P : Program) (Φ : Exit → St → Prop) (s : St) : Prop :=
  @sOp (some 8) (xMov (.int .i64 0) s.H) s <| .mk fun s =>
  @sLoop s ⟨fun L0 s => W93_l5 P Φ L0 s⟩
def W93_k7 (P : Program) (Φ : Exit → St → Prop) (L0 : St → Prop) (s : St) : Prop :=
  @sOp (some 16) (xMov (s.τ 5) s.H) s <| .mk fun s =>
  @sOp (some 17) (xBin .add false (s.τ 16) (.int .i64 1) s.H) s <| .mk fun s =>
  @sOp (some 5) (xMov (s.τ 17) s.H) s <| .mk fun s =>
  L0 s
def W93_k8 (P : Program) (Φ : Exit → St → Prop) (L0 : St → Prop) (L1 : St → Prop) (s : St) : Prop :=
  @sOp (some 21) (xMov (s.τ 6) s.H) s <| .mk fun s =>
  @sOp (some 22) (xBin .add false (s.τ 21) (.int .i64 1) s.H) s <| .mk fun s =>
  @sOp (some 6) (xMov (s.τ 22) s.H) s <| .mk fun s =>
  L1 s
def W93_c9 (P : Program) (Φ : Exit → St → Prop) (L0 : St → Prop) (L1 : St → Prop) (L2 : St → Prop) (s : St) : Prop :=
  @sOp (some 57) (xPick (s.τ 40) (.bool true) (s.τ 56) s.H) s <| .mk fun s =>
  @sOp (some 58) (xIx 1 (s.τ 31) (s.τ 32) s.H) s <| .mk fun s =>
  @sOp none (xStore 1 (s.τ 58) (s.τ 57) s.H) s <| .mk fun s =>
  @sOp (some 26) (xMov (s.τ 7) s.H) s <| .mk fun s =>
  @sOp (some 27) (xBin .add false (s.τ 26) (.int .i64 1) s.H) s <| .mk fun s =>
  @sOp (some 7) (xMov (s.τ 27) s.H) s <| .mk fun s =>
  L2 s
def W93_c10 (P : Program) (Φ : Exit → St → Prop) (L0 : St → Prop) (L1 : St → Prop) (L2 : St → Prop) (s : St) : Prop :=
  @sGrd (guardOf (s.τ 40) false) (some 56) s ⟨fun s K => @sOp (some 56) (xPick (s.τ 48) (s.τ 55) (.bool false) s.H) s ⟨K⟩⟩ ⟨W93_c9 P Φ L0 L1 L2⟩
def W93_c11 (P : Program) (Φ : Exit → St → Prop) (L0 : St → Prop) (L1 : St → Prop) (L2 : St → Prop) (s : St) : Prop :=
  @sGrd (guardOf (s.τ 48) true) (some 55) s ⟨fun s K => @sOp (some 55) (xLoad 1 false (s.τ 54) s.H) s ⟨K⟩⟩ ⟨W93_c10 P Φ L0 L1 L2⟩
def W93_c12 (P : Program) (Φ : Exit → St → Prop) (L0 : St → Prop) (L1 : St → Prop) (L2 : St → Prop) (s : St) : Prop :=
  @sGrd (guardOf (s.τ 48) true) (some 54) s ⟨fun s K => @sOp (some 54) (xIx 1 (s.τ 52) (s.τ 53) s.H) s ⟨K⟩⟩ ⟨W93_c11 P Φ L0 L1 L2⟩
def W93_c13 (P : Program) (Φ : Exit → St → Prop) (L0 : St → Prop) (L1 : St → Prop) (L2 : St → Prop) (s : St) : Prop :=
  @sGrd (guardOf (s.τ 48) true) (some 53) s ⟨fun s K => @sOp (some 53) (xMov (s.τ 7) s.H) s ⟨K⟩⟩ ⟨W93_c12 P Φ L0 L1 L2⟩
def W93_c14 (P : Program) (Φ : Exit → St → Prop) (L0 : St → Prop) (L1 : St → Prop) (L2 : St → Prop) (s : St) : Prop :=
  @sGrd (guardOf (s.τ 48) true) (some 52) s ⟨fun s K => @sOp (some 52) (xLoad 1 false (s.τ 51) s.H) s ⟨K⟩⟩ ⟨W93_c13 P Φ L0 L1 L2⟩
def W93_c15 (P : Program) (Φ : Exit → St → Prop) (L0 : St → Prop) (L1 : St → Prop) (L2 : St → Prop) (s : St) : Prop :=
  @sGrd (guardOf (s.τ 48) true) (some 51) s ⟨fun s K => @sOp (some 51) (xIx 1 (s.τ 49) (s.τ 50) s.H) s ⟨K⟩⟩ ⟨W93_c14 P Φ L0 L1 L2⟩
def W93_c16 (P : Program) (Φ : Exit → St → Prop) (L0 : St → Prop) (L1 : St → Prop) (L2 : St → Prop) (s : St) : Prop :=
  @sGrd (guardOf (s.τ 48) true) (some 50) s ⟨fun s K => @sOp (some 50) (xMov (s.τ 5) s.H) s ⟨K⟩⟩ ⟨W93_c15 P Φ L0 L1 L2⟩
def W93_c17 (P : Program) (Φ : Exit → St → Prop) (L0 : St → Prop) (L1 : St → Prop) (L2 : St → Prop) (s : St) : Prop :=
  @sGrd (guardOf (s.τ 48) true) (some 49) s ⟨fun s K => @sOp (some 49) (xMov (s.τ 3) s.H) s ⟨K⟩⟩ ⟨W93_c16 P Φ L0 L1 L2⟩
def W93_c18 (P : Program) (Φ : Exit → St → Prop) (L0 : St → Prop) (L1 : St → Prop) (L2 : St → Prop) (s : St) : Prop :=
  @sGrd (guardOf (s.τ 40) false) (some 48) s ⟨fun s K => @sOp (some 48) (xMov (s.τ 47) s.H) s ⟨K⟩⟩ ⟨W93_c17 P Φ L0 L1 L2⟩
def W93_c19 (P : Program) (Φ : Exit → St → Prop) (L0 : St → Prop) (L1 : St → Prop) (L2 : St → Prop) (s : St) : Prop :=
  @sGrd (guardOf (s.τ 40) false) (some 47) s ⟨fun s K => @sOp (some 47) (xLoad 1 false (s.τ 46) s.H) s ⟨K⟩⟩ ⟨W93_c18 P Φ L0 L1 L2⟩
def W93_c20 (P : Program) (Φ : Exit → St → Prop) (L0 : St → Prop) (L1 : St → Prop) (L2 : St → Prop) (s : St) : Prop :=
  @sGrd (guardOf (s.τ 40) false) (some 46) s ⟨fun s K => @sOp (some 46) (xIx 1 (s.τ 44) (s.τ 45) s.H) s ⟨K⟩⟩ ⟨W93_c19 P Φ L0 L1 L2⟩
def W93_c21 (P : Program) (Φ : Exit → St → Prop) (L0 : St → Prop) (L1 : St → Prop) (L2 : St → Prop) (s : St) : Prop :=
  @sGrd (guardOf (s.τ 40) false) (some 45) s ⟨fun s K => @sOp (some 45) (xMov (s.τ 5) s.H) s ⟨K⟩⟩ ⟨W93_c20 P Φ L0 L1 L2⟩
def W93_c22 (P : Program) (Φ : Exit → St → Prop) (L0 : St → Prop) (L1 : St → Prop) (L2 : St → Prop) (s : St) : Prop :=
  @sGrd (guardOf (s.τ 40) false) (some 44) s ⟨fun s K => @sOp (some 44) (xLoad 1 false (s.τ 43) s.H) s ⟨K⟩⟩ ⟨W93_c21 P Φ L0 L1 L2⟩
def W93_c23 (P : Program) (Φ : Exit → St → Prop) (L0 : St → Prop) (L1 : St → Prop) (L2 : St → Prop) (s : St) : Prop :=
  @sGrd (guardOf (s.τ 40) false) (some 43) s ⟨fun s K => @sOp (some 43) (xIx 1 (s.τ 41) (s.τ 42) s.H) s ⟨K⟩⟩ ⟨W93_c22 P Φ L0 L1 L2⟩
def W93_c24 (P : Program) (Φ : Exit → St → Prop) (L0 : St → Prop) (L1 : St → Prop) (L2 : St → Prop) (s : St) : Prop :=
  @sGrd (guardOf (s.τ 40) false) (some 42) s ⟨fun s K => @sOp (some 42) (xMov (s.τ 6) s.H) s ⟨K⟩⟩ ⟨W93_c23 P Φ L0 L1 L2⟩
def W93_b25 (P : Program) (Φ : Exit → St → Prop) (L0 : St → Prop) (L1 : St → Prop) (L2 : St → Prop) (s : St) : Prop :=
  @sOp (some 28) (xMov (s.τ 3) s.H) s <| .mk fun s =>
  @sOp (some 29) (xMov (s.τ 6) s.H) s <| .mk fun s =>
  @sOp (some 30) (xIx 1 (s.τ 28) (s.τ 29) s.H) s <| .mk fun s =>
  @sOp (some 31) (xLoad 1 false (s.τ 30) s.H) s <| .mk fun s =>
  @sOp (some 32) (xMov (s.τ 7) s.H) s <| .mk fun s =>
  @sOp (some 33) (xMov (s.τ 3) s.H) s <| .mk fun s =>
  @sOp (some 34) (xMov (s.τ 6) s.H) s <| .mk fun s =>
  @sOp (some 35) (xIx 1 (s.τ 33) (s.τ 34) s.H) s <| .mk fun s =>
  @sOp (some 36) (xLoad 1 false (s.τ 35) s.H) s <| .mk fun s =>
  @sOp (some 37) (xMov (s.τ 7) s.H) s <| .mk fun s =>
  @sOp (some 38) (xIx 1 (s.τ 36) (s.τ 37) s.H) s <| .mk fun s =>
  @sOp (some 39) (xLoad 1 false (s.τ 38) s.H) s <| .mk fun s =>
  @sOp (some 40) (xMov (s.τ 39) s.H) s <| .mk fun s =>
  @sGrd (guardOf (s.τ 40) false) (some 41) s ⟨fun s K => @sOp (some 41) (xMov (s.τ 3) s.H) s ⟨K⟩⟩ ⟨W93_c24 P Φ L0 L1 L2⟩
def W93_l26 (P : Program) (Φ : Exit → St → Prop) (L0 : St → Prop) (L1 : St → Prop) (L2 : St → Prop) (s : St) : Prop :=
  @sOp (some 23) (xMov (s.τ 7) s.H) s <| .mk fun s =>
  @sOp (some 24) (xMov (s.τ 4) s.H) s <| .mk fun s =>
  @sOp (some 25) (xBin .lss false (s.τ 23) (s.τ 24) s.H) s <| .mk fun s =>
  @sIf (s.τ 25) ⟨W93_b25 P Φ L0 L1 L2 s⟩ ⟨W93_k8 P Φ L0 L1 s⟩
def W93_b27 (P : Program) (Φ : Exit → St → Prop) (L0 : St → Prop) (L1 : St → Prop) (s : St) : Prop :=
  @sOp (some 7) (xMov (.int .i64 0) s.H) s <| .mk fun s =>
  @sLoop s ⟨fun L2 s => W93_l26 P Φ L0 L1 L2 s⟩
def W93_l28 (P : Program) (Φ : Exit → St → Prop) (L0 : St → Prop) (L1 : St → Prop) (s : St) : Prop :=
  @sOp (some 18) (xMov (s.τ 6) s.H) s <| .mk fun s =>
  @sOp (some 19) (xMov (s.τ 4) s.H) s <| .mk fun s =>
  @sOp (some 20) (xBin .lss false (s.τ 18) (s.τ 19) s.H) s <| .mk fun s =>
  @sIf (s.τ 20) ⟨W93_b27 P Φ L0 L1 s⟩ ⟨W93_k7 P Φ L0 s⟩
def W93_b29 (P : Program) (Φ : Exit → St → Prop) (L0 : St → Prop) (s : St) : Prop :=
  @sOp (some 6) (xMov (.int .i64 0) s.H) s <| .mk fun s =>
  @sLoop s ⟨fun L1 s => W93_l28 P Φ L0 L1 s⟩
def W93_l30 (P : Program) (Φ : Exit → St → Prop) (L0 : St → Prop) (s : St) : Prop :=
  @sOp (some 13) (xMov (s.τ 5) s.H) s <| .mk fun s =>
  @sOp (some 14) (xMov (s.τ 4) s.H) s <| .mk fun s =>
  @sOp (some 15) (xBin .lss false (s.τ 13) (s.τ 14) s.H) s <| .mk fun s =>
  @sIf (s.τ 15) ⟨W93_b29 P Φ L0 s⟩ ⟨W93_k6 P Φ s⟩
def W93_c31 (P : Program) (Φ : Exit → St → Prop) (s : St) : Prop :=
  @sOp (some 3) (xMov (s.τ 10) s.H) s <| .mk fun s =>
  @sOp (some 11) (xMov (s.τ 3) s.H) s <| .mk fun s =>
  @sOp (some 12) (xLen (s.τ 11) s.H) s <| .mk fun s =>
  @sOp (some 4) (xMov (s.τ 12) s.H) s <| .mk fun s =>
  @sOp (some 5) (xMov (.int .i64 0) s.H) s <| .mk fun s =>
  @sLoop s ⟨fun L0 s => W93_l30 P Φ L0 s⟩
def W93 (P : Program) (Φ : Exit → St → Prop) (s : St) : Prop :=
  @sOp (some 1) (xBox 1 69 (s.τ 0) s.H) s <| .mk fun s =>
  @sOp (some 2) (xMov (.bool false) s.H) s <| .mk fun s =>
  @sOp (some 9) (xLoad 3 true (s.τ 1) s.H) s <| .mk fun s =>
  @sCall P (.func 104 []) [(s.τ 9)] (some 10) s ⟨W93_c31 P Φ⟩
theorem W93_rs (τ : Nat → AV) (H : Heap) : resV Try.prog τ H [.tmp 2] = some (τ 2) := by kernel_rfl
theorem W93_eq (Φ : Exit → St → Prop) (s : St) : awp Try.prog (Try.f93.body.getD .skip) Φ s = W93 Try.prog Φ s := by kernel_rfl

-- 95 "penance/lex.Key"
def W95_c1 (P : Program) (Φ : Exit → St → Prop) (s : St) : Prop :=
  @sOp (some 2) (xMov (s.τ 5) s.H) s <| .mk fun s =>
  Φ .ret s
def W95_c2 (P : Program) (Φ : Exit → St → Prop) (s : St) : Prop :=
  @sOp (some 4) (xMov (s.τ 0) s.H) s <| .mk fun s =>
  @sCall P (.func 105 []) [(s.τ 3), (s.τ 4)] (some 5) s ⟨W95_c1 P Φ⟩
def W95 (P : Program) (Φ : Exit → St → Prop) (s : St) : Prop :=
  @sOp (some 2) (xMov (.bool false) s.H) s <| .mk fun s =>
  @sCall P (.func 106 []) [] (some 3) s ⟨W95_c2 P Φ⟩
theorem W95_rs (τ : Nat → AV) (H : Heap) : resV Try.prog τ H [.tmp 2] = some (τ 2) := by kernel_rfl
theorem W95_eq (Φ : Exit → St → Prop) (s : St) : awp Try.prog (Try.f95.body.getD .skip) Φ s = W95 Try.prog Φ s := by kernel_rfl

-- 96 "penance/lex.small"
def W96_c1 (P : Program) (Φ : Exit → St → Prop) (s : St) : Prop :=
  @sOp (some 8) (xPick (s.τ 5) (s.τ 7) (.bool false) s.H) s <| .mk fun s =>
  @sOp (some 2) (xMov (s.τ 8) s.H) s <| .mk fun s =>
  Φ .ret s
def W96_c2 (P : Program) (Φ : Exit → St → Prop) (s : St) : Prop :=
  @sGrd (guardOf (s.τ 5) true) (some 7) s ⟨fun s K => @sOp (some 7) (xBin .leq false (s.τ 6) (.int .u8 122) s.H) s ⟨K⟩⟩ ⟨W96_c1 P Φ⟩
def W96 (P : Program) (Φ : Exit → St → Prop) (s : St) : Prop :=
  @sOp (some 2) (xMov (.bool false) s.H) s <| .mk fun s =>
  @sOp (some 3) (xMov (s.τ 0) s.H) s <| .mk fun s =>
  @sOp (some 4) (xBin .geq false (s.τ 3) (.int .u8 97) s.H) s <| .mk fun s =>
  @sOp (some 5) (xMov (s.τ 4) s.H) s <| .mk fun s =>
  @sGrd (guardOf (s.τ 5) true) (some 6) s ⟨fun s K => @sOp (some 6) (xMov (s.τ 0) s.H) s ⟨K⟩⟩ ⟨W96_c2 P Φ⟩
theorem W96_rs (τ : Nat → AV) (H : Heap) : resV Try.prog τ H [.tmp 2] = some (τ 2) := by kernel_rfl
theorem W96_eq (Φ : Exit → St → Prop) (s : St) : awp Try.prog (Try.f96.body.getD .skip) Φ s = W96 Try.prog Φ s := by kernel_rfl

-- 97 "penance/lex.inner"
def W97_c1 (P : Program) (Φ : Exit → St → Prop) (s : St) : Prop :=
  @sOp (some 12) (xPick (s.τ 9) (.bool true) (s.τ 11) s.H) s <| .mk fun s =>
  @sOp (some 2) (xMov (s.τ 12) s.H) s <| .mk fun s =>
  Φ .ret s
def W97_c2 (P : Program) (Φ : Exit → St → Prop) (s : St) : Prop :=
  @sGrd (guardOf (s.τ 9) false) (some 11) s ⟨fun s K => @sOp (some 11) (xBin .eql false (s.τ 10) (.int .u8 95) s.H) s ⟨K⟩⟩ ⟨W97_c1 P Φ⟩
def W97_c3 (P : Program) (Φ : Exit → St → Prop) (s : St) : Prop :=
  @sOp (some 8) (xPick (s.τ 5) (.bool true) (s.τ 7) s.H) s <| .mk fun s =>
  @sOp (some 9) (xMov (s.τ 8) s.H) s <| .mk fun s =>
  @sGrd (guardOf (s.τ 9) false) (some 10) s ⟨fun s K => @sOp (some 10) (xMov (s.τ 0) s.H) s ⟨K⟩⟩ ⟨W97_c2 P Φ⟩
def W97_c4 (P : Program) (Φ : Exit → St → Prop) (s : St) : Prop :=
  @sGrd (guardOf (s.τ 5) false) (some 7) s ⟨fun s K => @sCall P (.func 107 []) [(s.τ 6)] (some 7) s ⟨K⟩⟩ ⟨W97_c3 P Φ⟩
def W97_c5 (P : Program) (Φ : Exit → St → Prop) (s : St) : Prop :=
  @sOp (some 5) (xMov (s.τ 4) s.H) s <| .mk fun s =>
  @sGrd (guardOf (s.τ 5) false) (some 6) s ⟨fun s K => @sOp (some 6) (xMov (s.τ 0) s.H) s ⟨K⟩⟩ ⟨W97_c4 P Φ⟩
def W97 (P : Program) (Φ : Exit → St → Prop) (s : St) : Prop :=
  @sOp (some 2) (xMov (.bool false) s.H) s <| .mk fun s =>
  @sOp (some 3) (xMov (s.τ 0) s.H) s <| .mk fun s =>
  @sCall P (.func 96 []) [(s.τ 3)] (some 4) s ⟨W97_c5 P Φ⟩
theorem W97_rs (τ : Nat → AV) (H : Heap) : resV Try.prog τ H [.tmp 2] = some (τ 2) := by kernel_rfl
theorem W97_eq (Φ : Exit → St → Prop) (s : St) : awp Try.prog (Try.f97.body.getD .skip) Φ s = W97 Try.prog Φ s := by kernel_rfl

-- 100 "slices.Clone[[]penance/api.Expr,penance/api.Expr]"
def W100_b1 (P : Program) (Φ : Exit → St → Prop) (s : St) : Prop :=
  @sOp (some 2) (xMov (.nils) s.H) s <| .mk fun s =>
  Φ .ret s
def W100_b2 (P : Program) (Φ : Exit → St → Prop) (s : St) : Prop :=
  @sOp (some 5) (xRow 5 31 4 0 [.int .i64 0, .int .i64 0, .str ⟨#[]⟩, .nils] [] s.H) s <| .mk fun s =>
  @sOp (some 6) (xMov (s.τ 0) s.H) s <| .mk fun s =>
  @sOp (some 7) (xApp P 31 4 56 (some 7) (s.τ 5) (s.τ 6) s.H) s <| .mk fun s =>
  @sOp (some 2) (xMov (s.τ 7) s.H) s <| .mk fun s =>
  Φ .ret s
def W100_c3 (P : Program) (Φ : Exit → St → Prop) (s : St) : Prop :=
  @sIf (s.τ 4) ⟨W100_b1 P Φ s⟩ ⟨W100_b2 P Φ s⟩
def W100 (P : Program) (Φ : Exit → St → Prop) (s : St) : Prop :=
  @sOp (some 2) (xMov (.nils) s.H) s <| .mk fun s =>
  @sOp (some 3) (xMov (s.τ 0) s.H) s <| .mk fun s =>
  @sNil false (s.τ 3) (some 4) s ⟨W100_c3 P Φ⟩
theorem W100_rs (τ : Nat → AV) (H : Heap) : resV Try.prog τ H [.tmp 2] = some (τ 2) := by kernel_rfl
theorem W100_eq (Φ : Exit → St → Prop) (s : St) : awp Try.prog (Try.f100.body.getD .skip) Φ s = W100 Try.prog Φ s := by kernel_rfl

end Go.Proofs.Ytkagfenchknjjaa
