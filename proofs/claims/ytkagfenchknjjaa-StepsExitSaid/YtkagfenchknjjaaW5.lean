import Derived.Test.YtkagfenchknjjaaAmSimp
import Derived.Test.YtkagfenchknjjaaProg
import Derived.KernelRfl
set_option linter.unusedVariables false
namespace Go.Proofs.Ytkagfenchknjjaa
open Go Go.Am
-- 40 "penance/term.Norm"
def W40_c1 (P : Program) (Φ : Exit → St → Prop) (s : St) : Prop :=
  @sOp none (xStore 9 (s.τ 2) (s.τ 30) s.H) s <| .mk fun s =>
  Φ .ret s
def W40_b2 (P : Program) (Φ : Exit → St → Prop) (s : St) : Prop :=
  @sOp (some 26) (xFld 8 (s.τ 1) s.H) s <| .mk fun s =>
  @sOp (some 27) (xLoad 1 false (s.τ 26) s.H) s <| .mk fun s =>
  @sOp (some 28) (xIx 9 (s.τ 27) (.int .i64 1) s.H) s <| .mk fun s =>
  @sOp (some 29) (xLoad 9 true (s.τ 28) s.H) s <| .mk fun s =>
  @sCall P (.func 40 []) [(s.τ 29)] (some 30) s ⟨W40_c1 P Φ⟩
def W40_c3 (P : Program) (Φ : Exit → St → Prop) (s : St) : Prop :=
  @sOp (some 37) (xLit 9 2 [.int .i64 0, .int .i64 0, .int .i64 0, .str ⟨#[]⟩, .int .i64 0, .int .i64 0, .str ⟨#[]⟩, .nils, .nils] [(0, (s.τ 31)), (1, (s.τ 36))] s.H) s <| .mk fun u7 =>
  @sOp (some 38) (xBuild [.int .i64 0, .int .i64 0, .int .i64 0, .str ⟨#[]⟩, .int .i64 0, .int .i64 0, .str ⟨#[]⟩, .nils, .nils] [(0, 1, (.int .i64 12)), (8, 1, (u7.τ 37))] u7.H) u7 <| .mk fun u8 =>
  @sOp none (xStore 9 (u8.τ 2) (u8.τ 38) u8.H) u8 <| .mk fun s =>
  Φ .ret s
def W40_b4 (P : Program) (Φ : Exit → St → Prop) (s : St) : Prop :=
  @sOp (some 31) (xLoad 9 true (s.τ 4) s.H) s <| .mk fun u1 =>
  @sOp (some 32) (xFld 8 (u1.τ 1) u1.H) u1 <| .mk fun u2 =>
  @sOp (some 33) (xLoad 1 false (u2.τ 32) u2.H) u2 <| .mk fun u3 =>
  @sOp (some 34) (xIx 9 (u3.τ 33) (.int .i64 1) u3.H) u3 <| .mk fun u4 =>
  @sOp (some 35) (xLoad 9 true (u4.τ 34) u4.H) u4 <| .mk fun u5 =>
  @sChk (compat (occ (s.τ 4), []) ([36] ++ (occ (.func 61 []) ++ occL [(u5.τ 35)]), [36] ++ (occ (.func 61 []) ++ occL [(u5.τ 35)]))) <| .mk <|
  @sCall0 P (.func 61 []) [(u5.τ 35)] (some 36) u5 ⟨W40_c3 P Φ⟩
def W40_c5 (P : Program) (Φ : Exit → St → Prop) (s : St) : Prop :=
  @sIf (s.τ 25) ⟨W40_b2 P Φ s⟩ ⟨W40_b4 P Φ s⟩
def W40_c6 (P : Program) (Φ : Exit → St → Prop) (s : St) : Prop :=
  @sOp (some 4) (xAlloc 4 34 [.int .i64 0, .int .i64 0, .int .i64 0, .str ⟨#[]⟩, .int .i64 0, .int .i64 0, .str ⟨#[]⟩, .nils, .nils] s.H) s <| .mk fun s =>
  @sOp none (xStore 9 (s.τ 4) (s.τ 22) s.H) s <| .mk fun s =>
  @sOp (some 23) (xMov (s.τ 3) s.H) s <| .mk fun s =>
  @sOp (some 24) (xLoad 9 true (s.τ 4) s.H) s <| .mk fun s =>
  @sCall P (s.τ 23) [(s.τ 24)] (some 25) s ⟨W40_c5 P Φ⟩
def W40_b7 (P : Program) (Φ : Exit → St → Prop) (s : St) : Prop :=
  @sOp (some 18) (xFld 8 (s.τ 1) s.H) s <| .mk fun s =>
  @sOp (some 19) (xLoad 1 false (s.τ 18) s.H) s <| .mk fun s =>
  @sOp (some 20) (xIx 9 (s.τ 19) (.int .i64 0) s.H) s <| .mk fun s =>
  @sOp (some 21) (xLoad 9 true (s.τ 20) s.H) s <| .mk fun s =>
  @sCall P (.func 40 []) [(s.τ 21)] (some 22) s ⟨W40_c6 P Φ⟩
def W40_b8 (P : Program) (Φ : Exit → St → Prop) (s : St) : Prop :=
  @sOp (some 67) (xBuild [.int .i64 0, .int .i64 0, .int .i64 0, .str ⟨#[]⟩, .int .i64 0, .int .i64 0, .str ⟨#[]⟩, .nils, .nils] [] s.H) s <| .mk fun s =>
  @sOp none (xStore 9 (s.τ 2) (s.τ 67) s.H) s <| .mk fun s =>
  Φ .ret s
def W40_b9 (P : Program) (Φ : Exit → St → Prop) (s : St) : Prop :=
  @sOp (some 68) (xLoad 9 true (s.τ 5) s.H) s <| .mk fun s =>
  @sOp (some 69) (xLoad 9 true (s.τ 6) s.H) s <| .mk fun s =>
  @sOp (some 70) (xLit 9 2 [.int .i64 0, .int .i64 0, .int .i64 0, .str ⟨#[]⟩, .int .i64 0, .int .i64 0, .str ⟨#[]⟩, .nils, .nils] [(0, (s.τ 68)), (1, (s.τ 69))] s.H) s <| .mk fun s =>
  @sOp (some 71) (xBuild [.int .i64 0, .int .i64 0, .int .i64 0, .str ⟨#[]⟩, .int .i64 0, .int .i64 0, .str ⟨#[]⟩, .nils, .nils] [(0, 1, (.int .i64 11)), (8, 1, (s.τ 70))] s.H) s <| .mk fun s =>
  @sOp none (xStore 9 (s.τ 2) (s.τ 71) s.H) s <| .mk fun s =>
  Φ .ret s
def W40_c10 (P : Program) (Φ : Exit → St → Prop) (s : St) : Prop :=
  @sOp (some 66) (xPick (s.τ 62) (s.τ 65) (.bool false) s.H) s <| .mk fun s =>
  @sIf (s.τ 66) ⟨W40_b8 P Φ s⟩ ⟨W40_b9 P Φ s⟩
def W40_c11 (P : Program) (Φ : Exit → St → Prop) (s : St) : Prop :=
  @sGrd (guardOf (s.τ 62) true) (some 65) s ⟨fun s K => @sCall P (s.τ 63) [(s.τ 64)] (some 65) s ⟨K⟩⟩ ⟨W40_c10 P Φ⟩
def W40_c12 (P : Program) (Φ : Exit → St → Prop) (s : St) : Prop :=
  @sGrd (guardOf (s.τ 62) true) (some 64) s ⟨fun s K => @sOp (some 64) (xLoad 9 true (s.τ 6) s.H) s ⟨K⟩⟩ ⟨W40_c11 P Φ⟩
def W40_c13 (P : Program) (Φ : Exit → St → Prop) (s : St) : Prop :=
  @sOp (some 62) (xMov (s.τ 61) s.H) s <| .mk fun s =>
  @sGrd (guardOf (s.τ 62) true) (some 63) s ⟨fun s K => @sOp (some 63) (xMov (s.τ 3) s.H) s ⟨K⟩⟩ ⟨W40_c12 P Φ⟩
def W40_c14 (P : Program) (Φ : Exit → St → Prop) (u0 : St) (u1 : St) (u2 : St) (u3 : St) (u4 : St) (u5 : St) (u6 : St) (u7 : St) (u8 : St) (u9 : St) (s : St) : Prop :=
  @sChk (compat (occ (u0.τ 1), []) ([5], [5])) <| .mk <|
  @sChk (compat (occ (u1.τ 49), []) ([5], [5])) <| .mk <|
  @sChk (compat (occ (u2.τ 50), []) ([5], [5])) <| .mk <|
  @sChk (compat (occ (u3.τ 51), []) ([5], [5])) <| .mk <|
  @sChk (compat ([53] ++ (occ (.func 40 []) ++ occL [(u4.τ 52)]), [53] ++ (occ (.func 40 []) ++ occL [(u4.τ 52)])) ([5], [5])) <| .mk <|
  @sChk (compat (occ (u5.τ 1), []) ([5], [5])) <| .mk <|
  @sChk (compat (occ (u6.τ 54), []) ([5], [5])) <| .mk <|
  @sChk (compat (occ (u7.τ 55), []) ([5], [5])) <| .mk <|
  @sChk (compat (occ (u8.τ 56), []) ([5], [5])) <| .mk <|
  @sChk (compat ([58] ++ (occ (.func 40 []) ++ occL [(u9.τ 57)]), [58] ++ (occ (.func 40 []) ++ occL [(u9.τ 57)])) ([5], [5])) <| .mk <|
  @sOp (some 5) (xAlloc 5 34 [.int .i64 0, .int .i64 0, .int .i64 0, .str ⟨#[]⟩, .int .i64 0, .int .i64 0, .str ⟨#[]⟩, .nils, .nils] s.H) s <| .mk fun u11 =>
  @sChk (compat (occ (u0.τ 1), []) ([6], [6])) <| .mk <|
  @sChk (compat (occ (u1.τ 49), []) ([6], [6])) <| .mk <|
  @sChk (compat (occ (u2.τ 50), []) ([6], [6])) <| .mk <|
  @sChk (compat (occ (u3.τ 51), []) ([6], [6])) <| .mk <|
  @sChk (compat ([53] ++ (occ (.func 40 []) ++ occL [(u4.τ 52)]), [53] ++ (occ (.func 40 []) ++ occL [(u4.τ 52)])) ([6], [6])) <| .mk <|
  @sChk (compat (occ (u5.τ 1), []) ([6], [6])) <| .mk <|
  @sChk (compat (occ (u6.τ 54), []) ([6], [6])) <| .mk <|
  @sChk (compat (occ (u7.τ 55), []) ([6], [6])) <| .mk <|
  @sChk (compat (occ (u8.τ 56), []) ([6], [6])) <| .mk <|
  @sChk (compat ([58] ++ (occ (.func 40 []) ++ occL [(u9.τ 57)]), [58] ++ (occ (.func 40 []) ++ occL [(u9.τ 57)])) ([6], [6])) <| .mk <|
  @sChk (compat ([5], [5]) ([6], [6])) <| .mk <|
  @sOp (some 6) (xAlloc 6 34 [.int .i64 0, .int .i64 0, .int .i64 0, .str ⟨#[]⟩, .int .i64 0, .int .i64 0, .str ⟨#[]⟩, .nils, .nils] u11.H) u11 <| .mk fun u12 =>
  @sOp none (xStore 9 (u12.τ 5) (u12.τ 53) u12.H) u12 <| .mk fun u13 =>
  @sOp none (xStore 9 (u13.τ 6) (u13.τ 58) u13.H) u13 <| .mk fun s =>
  @sOp (some 59) (xMov (s.τ 3) s.H) s <| .mk fun s =>
  @sOp (some 60) (xLoad 9 true (s.τ 5) s.H) s <| .mk fun s =>
  @sCall P (s.τ 59) [(s.τ 60)] (some 61) s ⟨W40_c13 P Φ⟩
def W40_c15 (P : Program) (Φ : Exit → St → Prop) (u0 : St) (u1 : St) (u2 : St) (u3 : St) (u4 : St) (s : St) : Prop :=
  @sChk (compat ([53] ++ (occ (.func 40 []) ++ occL [(u4.τ 52)]), [53] ++ (occ (.func 40 []) ++ occL [(u4.τ 52)])) (occ (s.τ 1), [])) <| .mk <|
  @sOp (some 54) (xFld 8 (s.τ 1) s.H) s <| .mk fun u6 =>
  @sChk (compat ([53] ++ (occ (.func 40 []) ++ occL [(u4.τ 52)]), [53] ++ (occ (.func 40 []) ++ occL [(u4.τ 52)])) (occ (u6.τ 54), [])) <| .mk <|
  @sOp (some 55) (xLoad 1 false (u6.τ 54) u6.H) u6 <| .mk fun u7 =>
  @sChk (compat ([53] ++ (occ (.func 40 []) ++ occL [(u4.τ 52)]), [53] ++ (occ (.func 40 []) ++ occL [(u4.τ 52)])) (occ (u7.τ 55), [])) <| .mk <|
  @sOp (some 56) (xIx 9 (u7.τ 55) (.int .i64 1) u7.H) u7 <| .mk fun u8 =>
  @sChk (compat ([53] ++ (occ (.func 40 []) ++ occL [(u4.τ 52)]), [53] ++ (occ (.func 40 []) ++ occL [(u4.τ 52)])) (occ (u8.τ 56), [])) <| .mk <|
  @sOp (some 57) (xLoad 9 true (u8.τ 56) u8.H) u8 <| .mk fun u9 =>
  @sCall0 P (.func 40 []) [(u9.τ 57)] (some 58) u9 ⟨W40_c14 P Φ u0 u1 u2 u3 u4 s u6 u7 u8 u9⟩
def W40_b16 (P : Program) (Φ : Exit → St → Prop) (s : St) : Prop :=
  @sOp (some 49) (xFld 8 (s.τ 1) s.H) s <| .mk fun u1 =>
  @sOp (some 50) (xLoad 1 false (u1.τ 49) u1.H) u1 <| .mk fun u2 =>
  @sOp (some 51) (xIx 9 (u2.τ 50) (.int .i64 0) u2.H) u2 <| .mk fun u3 =>
  @sOp (some 52) (xLoad 9 true (u3.τ 51) u3.H) u3 <| .mk fun u4 =>
  @sCall0 P (.func 40 []) [(u4.τ 52)] (some 53) u4 ⟨W40_c15 P Φ s u1 u2 u3 u4⟩
def W40_b17 (P : Program) (Φ : Exit → St → Prop) (s : St) : Prop :=
  @sOp (some 90) (xBuild [.int .i64 0, .int .i64 0, .int .i64 0, .str ⟨#[]⟩, .int .i64 0, .int .i64 0, .str ⟨#[]⟩, .nils, .nils] [] s.H) s <| .mk fun s =>
  @sOp none (xStore 9 (s.τ 2) (s.τ 90) s.H) s <| .mk fun s =>
  Φ .ret s
def W40_b18 (P : Program) (Φ : Exit → St → Prop) (s : St) : Prop :=
  @sOp (some 91) (xLoad 9 true (s.τ 7) s.H) s <| .mk fun s =>
  @sOp (some 92) (xLit 9 1 [.int .i64 0, .int .i64 0, .int .i64 0, .str ⟨#[]⟩, .int .i64 0, .int .i64 0, .str ⟨#[]⟩, .nils, .nils] [(0, (s.τ 91))] s.H) s <| .mk fun s =>
  @sOp (some 93) (xBuild [.int .i64 0, .int .i64 0, .int .i64 0, .str ⟨#[]⟩, .int .i64 0, .int .i64 0, .str ⟨#[]⟩, .nils, .nils] [(0, 1, (.int .i64 7)), (8, 1, (s.τ 92))] s.H) s <| .mk fun s =>
  @sOp none (xStore 9 (s.τ 2) (s.τ 93) s.H) s <| .mk fun s =>
  Φ .ret s
def W40_c19 (P : Program) (Φ : Exit → St → Prop) (s : St) : Prop :=
  @sIf (s.τ 89) ⟨W40_b17 P Φ s⟩ ⟨W40_b18 P Φ s⟩
def W40_c20 (P : Program) (Φ : Exit → St → Prop) (s : St) : Prop :=
  @sOp (some 7) (xAlloc 7 34 [.int .i64 0, .int .i64 0, .int .i64 0, .str ⟨#[]⟩, .int .i64 0, .int .i64 0, .str ⟨#[]⟩, .nils, .nils] s.H) s <| .mk fun s =>
  @sOp none (xStore 9 (s.τ 7) (s.τ 86) s.H) s <| .mk fun s =>
  @sOp (some 87) (xMov (s.τ 3) s.H) s <| .mk fun s =>
  @sOp (some 88) (xLoad 9 true (s.τ 7) s.H) s <| .mk fun s =>
  @sCall P (s.τ 87) [(s.τ 88)] (some 89) s ⟨W40_c19 P Φ⟩
def W40_b21 (P : Program) (Φ : Exit → St → Prop) (s : St) : Prop :=
  @sOp (some 82) (xFld 8 (s.τ 1) s.H) s <| .mk fun s =>
  @sOp (some 83) (xLoad 1 false (s.τ 82) s.H) s <| .mk fun s =>
  @sOp (some 84) (xIx 9 (s.τ 83) (.int .i64 0) s.H) s <| .mk fun s =>
  @sOp (some 85) (xLoad 9 true (s.τ 84) s.H) s <| .mk fun s =>
  @sCall P (.func 40 []) [(s.τ 85)] (some 86) s ⟨W40_c20 P Φ⟩
def W40_c22 (P : Program) (Φ : Exit → St → Prop) (s : St) : Prop :=
  @sOp none (xStore 9 (s.τ 2) (s.τ 95) s.H) s <| .mk fun s =>
  Φ .ret s
def W40_b23 (P : Program) (Φ : Exit → St → Prop) (s : St) : Prop :=
  @sOp (some 94) (xLoad 9 true (s.τ 1) s.H) s <| .mk fun s =>
  @sCall P (.func 61 []) [(s.τ 94)] (some 95) s ⟨W40_c22 P Φ⟩
def W40_c24 (P : Program) (Φ : Exit → St → Prop) (s : St) : Prop :=
  @sOp (some 81) (xPick (s.τ 76) (s.τ 80) (.bool false) s.H) s <| .mk fun s =>
  @sOp (some 72) (xMov (s.τ 81) s.H) s <| .mk fun s =>
  @sIf (s.τ 72) ⟨W40_b21 P Φ s⟩ ⟨W40_b23 P Φ s⟩
def W40_c25 (P : Program) (Φ : Exit → St → Prop) (s : St) : Prop :=
  @sGrd (guardOf (s.τ 76) true) (some 80) s ⟨fun s K => @sOp (some 80) (xBin .eql false (s.τ 79) (.int .i64 1) s.H) s ⟨K⟩⟩ ⟨W40_c24 P Φ⟩
def W40_c26 (P : Program) (Φ : Exit → St → Prop) (s : St) : Prop :=
  @sGrd (guardOf (s.τ 76) true) (some 79) s ⟨fun s K => @sOp (some 79) (xLen (s.τ 78) s.H) s ⟨K⟩⟩ ⟨W40_c25 P Φ⟩
def W40_c27 (P : Program) (Φ : Exit → St → Prop) (s : St) : Prop :=
  @sGrd (guardOf (s.τ 76) true) (some 78) s ⟨fun s K => @sOp (some 78) (xLoad 1 false (s.τ 77) s.H) s ⟨K⟩⟩ ⟨W40_c26 P Φ⟩
def W40_b28 (P : Program) (Φ : Exit → St → Prop) (s : St) : Prop :=
  @sOp (some 73) (xFld 0 (s.τ 1) s.H) s <| .mk fun s =>
  @sOp (some 74) (xLoad 1 false (s.τ 73) s.H) s <| .mk fun s =>
  @sOp (some 75) (xBin .eql false (s.τ 74) (.int .i64 7) s.H) s <| .mk fun s =>
  @sOp (some 76) (xMov (s.τ 75) s.H) s <| .mk fun s =>
  @sGrd (guardOf (s.τ 76) true) (some 77) s ⟨fun s K => @sOp (some 77) (xFld 8 (s.τ 1) s.H) s ⟨K⟩⟩ ⟨W40_c27 P Φ⟩
def W40_c29 (P : Program) (Φ : Exit → St → Prop) (s : St) : Prop :=
  @sOp (some 48) (xPick (s.τ 43) (s.τ 47) (.bool false) s.H) s <| .mk fun s =>
  @sOp (some 39) (xMov (s.τ 48) s.H) s <| .mk fun s =>
  @sIf (s.τ 39) ⟨W40_b16 P Φ s⟩ ⟨W40_b28 P Φ s⟩
def W40_c30 (P : Program) (Φ : Exit → St → Prop) (s : St) : Prop :=
  @sGrd (guardOf (s.τ 43) true) (some 47) s ⟨fun s K => @sOp (some 47) (xBin .eql false (s.τ 46) (.int .i64 2) s.H) s ⟨K⟩⟩ ⟨W40_c29 P Φ⟩
def W40_c31 (P : Program) (Φ : Exit → St → Prop) (s : St) : Prop :=
  @sGrd (guardOf (s.τ 43) true) (some 46) s ⟨fun s K => @sOp (some 46) (xLen (s.τ 45) s.H) s ⟨K⟩⟩ ⟨W40_c30 P Φ⟩
def W40_c32 (P : Program) (Φ : Exit → St → Prop) (s : St) : Prop :=
  @sGrd (guardOf (s.τ 43) true) (some 45) s ⟨fun s K => @sOp (some 45) (xLoad 1 false (s.τ 44) s.H) s ⟨K⟩⟩ ⟨W40_c31 P Φ⟩
def W40_b33 (P : Program) (Φ : Exit → St → Prop) (s : St) : Prop :=
  @sOp (some 40) (xFld 0 (s.τ 1) s.H) s <| .mk fun s =>
  @sOp (some 41) (xLoad 1 false (s.τ 40) s.H) s <| .mk fun s =>
  @sOp (some 42) (xBin .eql false (s.τ 41) (.int .i64 11) s.H) s <| .mk fun s =>
  @sOp (some 43) (xMov (s.τ 42) s.H) s <| .mk fun s =>
  @sGrd (guardOf (s.τ 43) true) (some 44) s ⟨fun s K => @sOp (some 44) (xFld 8 (s.τ 1) s.H) s ⟨K⟩⟩ ⟨W40_c32 P Φ⟩
def W40_c34 (P : Program) (Φ : Exit → St → Prop) (s : St) : Prop :=
  @sOp (some 17) (xPick (s.τ 12) (s.τ 16) (.bool false) s.H) s <| .mk fun s =>
  @sOp (some 8) (xMov (s.τ 17) s.H) s <| .mk fun s =>
  @sIf (s.τ 8) ⟨W40_b7 P Φ s⟩ ⟨W40_b33 P Φ s⟩
def W40_c35 (P : Program) (Φ : Exit → St → Prop) (s : St) : Prop :=
  @sGrd (guardOf (s.τ 12) true) (some 16) s ⟨fun s K => @sOp (some 16) (xBin .eql false (s.τ 15) (.int .i64 2) s.H) s ⟨K⟩⟩ ⟨W40_c34 P Φ⟩
def W40_c36 (P : Program) (Φ : Exit → St → Prop) (s : St) : Prop :=
  @sGrd (guardOf (s.τ 12) true) (some 15) s ⟨fun s K => @sOp (some 15) (xLen (s.τ 14) s.H) s ⟨K⟩⟩ ⟨W40_c35 P Φ⟩
def W40_c37 (P : Program) (Φ : Exit → St → Prop) (s : St) : Prop :=
  @sGrd (guardOf (s.τ 12) true) (some 14) s ⟨fun s K => @sOp (some 14) (xLoad 1 false (s.τ 13) s.H) s ⟨K⟩⟩ ⟨W40_c36 P Φ⟩
def W40 (P : Program) (Φ : Exit → St → Prop) (s : St) : Prop :=
  @sOp (some 1) (xBox 1 34 (s.τ 0) s.H) s <| .mk fun s =>
  @sOp (some 2) (xAlloc 2 34 [.int .i64 0, .int .i64 0, .int .i64 0, .str ⟨#[]⟩, .int .i64 0, .int .i64 0, .str ⟨#[]⟩, .nils, .nils] s.H) s <| .mk fun s =>
  @sOp (some 3) (xMov (.func 60 []) s.H) s <| .mk fun s =>
  @sOp (some 9) (xFld 0 (s.τ 1) s.H) s <| .mk fun s =>
  @sOp (some 10) (xLoad 1 false (s.τ 9) s.H) s <| .mk fun s =>
  @sOp (some 11) (xBin .eql false (s.τ 10) (.int .i64 12) s.H) s <| .mk fun s =>
  @sOp (some 12) (xMov (s.τ 11) s.H) s <| .mk fun s =>
  @sGrd (guardOf (s.τ 12) true) (some 13) s ⟨fun s K => @sOp (some 13) (xFld 8 (s.τ 1) s.H) s ⟨K⟩⟩ ⟨W40_c37 P Φ⟩
theorem W40_rs (τ : Nat → AV) (H : Heap) : resV Try.prog τ H [.cell 2 34] = rdV H 9 true (τ 2) := by kernel_rfl
theorem W40_eq (Φ : Exit → St → Prop) (s : St) : awp Try.prog (Try.f40.body.getD .skip) Φ s = W40 Try.prog Φ s := by kernel_rfl

-- 41 "penance/term.Waits"
def W41_c1 (P : Program) (Φ : Exit → St → Prop) (s : St) : Prop :=
  @sOp (some 2) (xMov (s.τ 17) s.H) s <| .mk fun s =>
  Φ .ret s
def W41_k2 (P : Program) (Φ : Exit → St → Prop) (s : St) : Prop :=
  @sOp (some 16) (xLoad 1 false (s.τ 3) s.H) s <| .mk fun s =>
  @sCall P (.func 49 []) [(s.τ 16)] (some 17) s ⟨W41_c1 P Φ⟩
def W41_b3 (P : Program) (Φ : Exit → St → Prop) (s : St) : Prop :=
  @sOp (some 11) (xLoad 1 false (s.τ 3) s.H) s <| .mk fun s =>
  @sOp (some 12) (xFld 1 (s.τ 4) s.H) s <| .mk fun s =>
  @sOp (some 13) (xLoad 1 false (s.τ 12) s.H) s <| .mk fun s =>
  @sOp (some 14) (xLit 1 1 [.int .i64 0] [(0, (s.τ 13))] s.H) s <| .mk fun s =>
  @sOp (some 15) (xApp P 3 1 8 (some 15) (s.τ 11) (s.τ 14) s.H) s <| .mk fun s =>
  @sOp none (xStore 1 (s.τ 3) (s.τ 15) s.H) s <| .mk fun s =>
  Φ .normal s
def W41_r4 (P : Program) (Φ : Exit → St → Prop) (s : St) : Prop :=
  @sOp (some 4) (xAlloc 4 34 [.int .i64 0, .int .i64 0, .int .i64 0, .str ⟨#[]⟩, .int .i64 0, .int .i64 0, .str ⟨#[]⟩, .nils, .nils] s.H) s <| .mk fun s =>
  @sOp none (xStore 9 (s.τ 4) (s.τ 7) s.H) s <| .mk fun s =>
  @sOp (some 8) (xFld 0 (s.τ 4) s.H) s <| .mk fun s =>
  @sOp (some 9) (xLoad 1 false (s.τ 8) s.H) s <| .mk fun s =>
  @sOp (some 10) (xBin .eql false (s.τ 9) (.int .i64 14) s.H) s <| .mk fun s =>
  @sIf (s.τ 10) ⟨W41_b3 P Φ s⟩ ⟨Φ .normal s⟩
def W41_c5 (P : Program) (Φ : Exit → St → Prop) (s : St) : Prop :=
  @sRange P (s.τ 6) [7] s ⟨fun Φ s => W41_r4 P Φ s⟩ ⟨(blkK 0 (thenK (W41_k2 P Φ) Φ))⟩
def W41 (P : Program) (Φ : Exit → St → Prop) (s : St) : Prop :=
  @sOp (some 1) (xBox 1 34 (s.τ 0) s.H) s <| .mk fun s =>
  @sOp (some 2) (xMov (.nils) s.H) s <| .mk fun s =>
  @sOp (some 3) (xAlloc 3 41 [.nils] s.H) s <| .mk fun s =>
  @sOp (some 5) (xLoad 9 true (s.τ 1) s.H) s <| .mk fun s =>
  @sCall P (.func 62 []) [(s.τ 5)] (some 6) s ⟨W41_c5 P Φ⟩
theorem W41_rs (τ : Nat → AV) (H : Heap) : resV Try.prog τ H [.tmp 2] = some (τ 2) := by kernel_rfl
theorem W41_eq (Φ : Exit → St → Prop) (s : St) : awp Try.prog (Try.f41.body.getD .skip) Φ s = W41 Try.prog Φ s := by kernel_rfl


end Go.Proofs.Ytkagfenchknjjaa
