import Derived.Test.YtkagfenchknjjaaAmSimp
import Derived.Test.YtkagfenchknjjaaProg
import Derived.KernelRfl
set_option linter.unusedVariables false
namespace Go.Proofs.Ytkagfenchknjjaa
open Go Go.Am
-- 101 "(penance/penancelaw2.Raw).Make"
def W101_c1 (P : Program) (Φ : Exit → St → Prop) (s : St) : Prop :=
  @sOp (some 27) (xIx 1 (s.τ 23) (s.τ 26) s.H) s <| .mk fun s =>
  @sOp (some 28) (xLoad 1 false (s.τ 27) s.H) s <| .mk fun s =>
  @sOp (some 29) (xBuild [.int .i64 0, .int .i64 0, .str ⟨#[]⟩, .nils] [(0, 1, (.int .i64 1)), (1, 1, (s.τ 28))] s.H) s <| .mk fun s =>
  @sOp none (xStore 4 (s.τ 4) (s.τ 29) s.H) s <| .mk fun s =>
  Φ .ret s
def W101_b2 (P : Program) (Φ : Exit → St → Prop) (s : St) : Prop :=
  @sOp (some 23) (xLit 1 8 [.int .i64 0] [(0, (.int .i64 0)), (1, (.int .i64 1)), (2, (.int .i64 2)), (3, (.int .i64 7)), (4, (.int .i64 99)), (5, (.int .i64 999999999999999999)), (6, (.int .i64 5)), (7, (.int .i64 3))] s.H) s <| .mk fun s =>
  @sOp (some 24) (xFld 1 (s.τ 2) s.H) s <| .mk fun s =>
  @sOp (some 25) (xLoad 1 false (s.τ 24) s.H) s <| .mk fun s =>
  @sCall P (.func 110 []) [(s.τ 25), (.int .i64 8)] (some 26) s ⟨W101_c1 P Φ⟩
def W101_c3 (P : Program) (Φ : Exit → St → Prop) (s : St) : Prop :=
  @sOp (some 44) (xIx 1 (s.τ 38) (s.τ 43) s.H) s <| .mk fun s =>
  @sOp (some 45) (xLoad 1 false (s.τ 44) s.H) s <| .mk fun s =>
  @sOp (some 46) (xBuild [.int .i64 0, .int .i64 0, .str ⟨#[]⟩, .nils] [(0, 1, (.int .i64 2)), (2, 1, (s.τ 45))] s.H) s <| .mk fun s =>
  @sOp none (xStore 4 (s.τ 4) (s.τ 46) s.H) s <| .mk fun s =>
  Φ .ret s
def W101_b4 (P : Program) (Φ : Exit → St → Prop) (s : St) : Prop :=
  @sOp (some 38) (xMov (s.τ 1) s.H) s <| .mk fun s =>
  @sOp (some 39) (xFld 1 (s.τ 2) s.H) s <| .mk fun s =>
  @sOp (some 40) (xLoad 1 false (s.τ 39) s.H) s <| .mk fun s =>
  @sOp (some 41) (xMov (s.τ 1) s.H) s <| .mk fun s =>
  @sOp (some 42) (xLen (s.τ 41) s.H) s <| .mk fun s =>
  @sCall P (.func 110 []) [(s.τ 40), (s.τ 42)] (some 43) s ⟨W101_c3 P Φ⟩
def W101_c5 (P : Program) (Φ : Exit → St → Prop) (s : St) : Prop :=
  @sOp (some 53) (xBuild [.int .i64 0, .int .i64 0, .str ⟨#[]⟩, .nils] [(0, 1, (.int .i64 2)), (1, 1, (s.τ 52))] s.H) s <| .mk fun s =>
  @sOp none (xStore 4 (s.τ 4) (s.τ 53) s.H) s <| .mk fun s =>
  Φ .ret s
def W101_b6 (P : Program) (Φ : Exit → St → Prop) (s : St) : Prop :=
  @sOp (some 50) (xFld 1 (s.τ 2) s.H) s <| .mk fun s =>
  @sOp (some 51) (xLoad 1 false (s.τ 50) s.H) s <| .mk fun s =>
  @sCall P (.func 110 []) [(s.τ 51), (.int .i64 3)] (some 52) s ⟨W101_c5 P Φ⟩
def W101_c7 (P : Program) (Φ : Exit → St → Prop) (s : St) : Prop :=
  @sOp (some 60) (xLit 4 1 [.int .i64 0, .int .i64 0, .str ⟨#[]⟩, .nils] [(0, (s.τ 59))] s.H) s <| .mk fun s =>
  @sOp (some 61) (xBuild [.int .i64 0, .int .i64 0, .str ⟨#[]⟩, .nils] [(0, 1, (.int .i64 3)), (3, 1, (s.τ 60))] s.H) s <| .mk fun s =>
  @sOp none (xStore 4 (s.τ 4) (s.τ 61) s.H) s <| .mk fun s =>
  Φ .ret s
def W101_b8 (P : Program) (Φ : Exit → St → Prop) (s : St) : Prop :=
  @sOp (some 57) (xLoad 3 true (s.τ 2) s.H) s <| .mk fun s =>
  @sOp (some 58) (xMov (s.τ 1) s.H) s <| .mk fun s =>
  @sCall P (.func 111 []) [(s.τ 57), (.int .i64 0), (s.τ 58)] (some 59) s ⟨W101_c7 P Φ⟩
def W101_c9 (P : Program) (Φ : Exit → St → Prop) (s : St) : Prop :=
  @sOp (some 68) (xLit 4 1 [.int .i64 0, .int .i64 0, .str ⟨#[]⟩, .nils] [(0, (s.τ 67))] s.H) s <| .mk fun s =>
  @sOp (some 69) (xBuild [.int .i64 0, .int .i64 0, .str ⟨#[]⟩, .nils] [(0, 1, (.int .i64 4)), (3, 1, (s.τ 68))] s.H) s <| .mk fun s =>
  @sOp none (xStore 4 (s.τ 4) (s.τ 69) s.H) s <| .mk fun s =>
  Φ .ret s
def W101_b10 (P : Program) (Φ : Exit → St → Prop) (s : St) : Prop :=
  @sOp (some 65) (xLoad 3 true (s.τ 2) s.H) s <| .mk fun s =>
  @sOp (some 66) (xMov (s.τ 1) s.H) s <| .mk fun s =>
  @sCall P (.func 111 []) [(s.τ 65), (.int .i64 0), (s.τ 66)] (some 67) s ⟨W101_c9 P Φ⟩
def W101_c11 (P : Program) (Φ : Exit → St → Prop) (s : St) : Prop :=
  @sOp (some 18) (xLit 4 2 [.int .i64 0, .int .i64 0, .str ⟨#[]⟩, .nils] [(0, (s.τ 14)), (1, (s.τ 17))] s.H) s <| .mk fun u10 =>
  @sOp (some 19) (xBuild [.int .i64 0, .int .i64 0, .str ⟨#[]⟩, .nils] [(0, 1, (u10.τ 11)), (3, 1, (u10.τ 18))] u10.H) u10 <| .mk fun u11 =>
  @sOp none (xStore 4 (u11.τ 4) (u11.τ 19) u11.H) u11 <| .mk fun s =>
  Φ .ret s
def W101_c12 (P : Program) (Φ : Exit → St → Prop) (u5 : St) (s : St) : Prop :=
  @sChk (compat ([14] ++ (occ (.func 111 []) ++ occL [(u5.τ 12), (.int .i64 0), (u5.τ 13)]), [14] ++ (occ (.func 111 []) ++ occL [(u5.τ 12), (.int .i64 0), (u5.τ 13)])) (occ (s.τ 2), [])) <| .mk <|
  @sOp (some 15) (xLoad 3 true (s.τ 2) s.H) s <| .mk fun u7 =>
  @sOp (some 16) (xMov (u7.τ 1) u7.H) u7 <| .mk fun u8 =>
  @sCall0 P (.func 111 []) [(u8.τ 15), (.int .i64 1), (u8.τ 16)] (some 17) u8 ⟨W101_c11 P Φ⟩
def W101_b13 (P : Program) (Φ : Exit → St → Prop) (s : St) : Prop :=
  @sOp (some 9) (xMov (s.τ 5) s.H) s <| .mk fun u1 =>
  @sOp (some 10) (xBin .add false (.int .i64 5) (u1.τ 9) u1.H) u1 <| .mk fun u2 =>
  @sOp (some 11) (xBin .sub false (u2.τ 10) (.int .i64 11) u2.H) u2 <| .mk fun u3 =>
  @sOp (some 12) (xLoad 3 true (u3.τ 2) u3.H) u3 <| .mk fun u4 =>
  @sOp (some 13) (xMov (u4.τ 1) u4.H) u4 <| .mk fun u5 =>
  @sCall0 P (.func 111 []) [(u5.τ 12), (.int .i64 0), (u5.τ 13)] (some 14) u5 ⟨W101_c12 P Φ u5⟩
def W101_b14 (P : Program) (Φ : Exit → St → Prop) (s : St) : Prop :=
  @sOp (some 63) (xMov (s.τ 5) s.H) s <| .mk fun s =>
  @sOp (some 64) (xBin .eql false (s.τ 63) (.int .i64 10) s.H) s <| .mk fun s =>
  @sOp (some 62) (xMov (s.τ 64) s.H) s <| .mk fun s =>
  @sIf (s.τ 62) ⟨W101_b10 P Φ s⟩ ⟨W101_b13 P Φ s⟩
def W101_b15 (P : Program) (Φ : Exit → St → Prop) (s : St) : Prop :=
  @sOp (some 55) (xMov (s.τ 5) s.H) s <| .mk fun s =>
  @sOp (some 56) (xBin .eql false (s.τ 55) (.int .i64 9) s.H) s <| .mk fun s =>
  @sOp (some 54) (xMov (s.τ 56) s.H) s <| .mk fun s =>
  @sIf (s.τ 54) ⟨W101_b8 P Φ s⟩ ⟨W101_b14 P Φ s⟩
def W101_b16 (P : Program) (Φ : Exit → St → Prop) (s : St) : Prop :=
  @sOp (some 48) (xMov (s.τ 5) s.H) s <| .mk fun s =>
  @sOp (some 49) (xBin .lss false (s.τ 48) (.int .i64 9) s.H) s <| .mk fun s =>
  @sOp (some 47) (xMov (s.τ 49) s.H) s <| .mk fun s =>
  @sIf (s.τ 47) ⟨W101_b6 P Φ s⟩ ⟨W101_b15 P Φ s⟩
def W101_c17 (P : Program) (Φ : Exit → St → Prop) (s : St) : Prop :=
  @sOp (some 37) (xPick (s.τ 33) (s.τ 36) (.bool false) s.H) s <| .mk fun s =>
  @sOp (some 30) (xMov (s.τ 37) s.H) s <| .mk fun s =>
  @sIf (s.τ 30) ⟨W101_b4 P Φ s⟩ ⟨W101_b16 P Φ s⟩
def W101_c18 (P : Program) (Φ : Exit → St → Prop) (s : St) : Prop :=
  @sGrd (guardOf (s.τ 33) true) (some 36) s ⟨fun s K => @sOp (some 36) (xBin .gtr false (s.τ 35) (.int .i64 0) s.H) s ⟨K⟩⟩ ⟨W101_c17 P Φ⟩
def W101_c19 (P : Program) (Φ : Exit → St → Prop) (s : St) : Prop :=
  @sGrd (guardOf (s.τ 33) true) (some 35) s ⟨fun s K => @sOp (some 35) (xLen (s.τ 34) s.H) s ⟨K⟩⟩ ⟨W101_c18 P Φ⟩
def W101_b20 (P : Program) (Φ : Exit → St → Prop) (s : St) : Prop :=
  @sOp (some 31) (xMov (s.τ 5) s.H) s <| .mk fun s =>
  @sOp (some 32) (xBin .lss false (s.τ 31) (.int .i64 9) s.H) s <| .mk fun s =>
  @sOp (some 33) (xMov (s.τ 32) s.H) s <| .mk fun s =>
  @sGrd (guardOf (s.τ 33) true) (some 34) s ⟨fun s K => @sOp (some 34) (xMov (s.τ 1) s.H) s ⟨K⟩⟩ ⟨W101_c19 P Φ⟩
def W101_c21 (P : Program) (Φ : Exit → St → Prop) (s : St) : Prop :=
  @sOp (some 5) (xMov (s.τ 8) s.H) s <| .mk fun s =>
  @sOp (some 21) (xMov (s.τ 5) s.H) s <| .mk fun s =>
  @sOp (some 22) (xBin .lss false (s.τ 21) (.int .i64 4) s.H) s <| .mk fun s =>
  @sOp (some 20) (xMov (s.τ 22) s.H) s <| .mk fun s =>
  @sIf (s.τ 20) ⟨W101_b2 P Φ s⟩ ⟨W101_b20 P Φ s⟩
def W101 (P : Program) (Φ : Exit → St → Prop) (s : St) : Prop :=
  @sOp (some 2) (xBox 2 145 (s.τ 0) s.H) s <| .mk fun s =>
  @sOp (some 4) (xAlloc 4 31 [.int .i64 0, .int .i64 0, .str ⟨#[]⟩, .nils] s.H) s <| .mk fun s =>
  @sOp (some 6) (xFld 0 (s.τ 2) s.H) s <| .mk fun s =>
  @sOp (some 7) (xLoad 1 false (s.τ 6) s.H) s <| .mk fun s =>
  @sCall P (.func 110 []) [(s.τ 7), (.int .i64 24)] (some 8) s ⟨W101_c21 P Φ⟩
theorem W101_rs (τ : Nat → AV) (H : Heap) : resV Try.prog τ H [.cell 4 31] = rdV H 4 true (τ 4) := by kernel_rfl
theorem W101_eq (Φ : Exit → St → Prop) (s : St) : awp Try.prog (Try.f101.body.getD .skip) Φ s = W101 Try.prog Φ s := by kernel_rfl

-- 102 "(*penance/penanceref4.lower).at"
def W102_k1 (P : Program) (Φ : Exit → St → Prop) (s : St) : Prop :=
  @sOp (some 16) (xMov (s.τ 7) s.H) s <| .mk fun s =>
  @sOp (some 6) (xMov (s.τ 16) s.H) s <| .mk fun s =>
  Φ .ret s
def W102_b2 (P : Program) (Φ : Exit → St → Prop) (s : St) : Prop :=
  @sOp (some 13) (xMov (s.τ 0) s.H) s <| .mk fun s =>
  @sOp (some 14) (xNil (s.τ 13) s.H) s <| .mk fun s =>
  @sOp (some 15) (xFld 3 (s.τ 14) s.H) s <| .mk fun s =>
  @sOp none (xStore 1 (s.τ 15) (.bool true) s.H) s <| .mk fun s =>
  W102_k1 P Φ s
def W102_c3 (P : Program) (Φ : Exit → St → Prop) (s : St) : Prop :=
  @sOp (some 7) (xMov (s.τ 10) s.H) s <| .mk fun s =>
  @sOp (some 11) (xMov (s.τ 7) s.H) s <| .mk fun s =>
  @sOp (some 12) (xBin .lss false (s.τ 11) (.int .i64 0) s.H) s <| .mk fun s =>
  @sIf (s.τ 12) ⟨W102_b2 P Φ s⟩ ⟨W102_k1 P Φ s⟩
def W102 (P : Program) (Φ : Exit → St → Prop) (s : St) : Prop :=
  @sOp (some 6) (xMov (.int .i64 0) s.H) s <| .mk fun s =>
  @sOp (some 8) (xMov (s.τ 1) s.H) s <| .mk fun s =>
  @sOp (some 9) (xMov (s.τ 2) s.H) s <| .mk fun s =>
  @sCall P (.func 91 []) [(s.τ 8), (s.τ 9)] (some 10) s ⟨W102_c3 P Φ⟩
theorem W102_rs (τ : Nat → AV) (H : Heap) : resV Try.prog τ H [.tmp 6] = some (τ 6) := by kernel_rfl
theorem W102_eq (Φ : Exit → St → Prop) (s : St) : awp Try.prog (Try.f102.body.getD .skip) Φ s = W102 Try.prog Φ s := by kernel_rfl

-- 103 "(*penance/penanceref4.lower).expr"
def W103_k1 (P : Program) (Φ : Exit → St → Prop) (s : St) : Prop :=
  @sOp (some 43) (xLoad 4 true (s.τ 5) s.H) s <| .mk fun s =>
  @sOp none (xStore 4 (s.τ 4) (s.τ 43) s.H) s <| .mk fun s =>
  Φ .ret s
def W103_c2 (P : Program) (Φ : Exit → St → Prop) (L0 : St → Prop) (u0 : St) (u1 : St) (s : St) : Prop :=
  @sChk (compat (occ (u0.τ 5), []) ([40] ++ occL [(s.τ 39)], [40] ++ occL [(s.τ 39)])) <| .mk <|
  @sChk (compat (occ (u1.τ 31), []) ([40] ++ occL [(s.τ 39)], [40] ++ occL [(s.τ 39)])) <| .mk <|
  @sOp (some 40) (xLit 4 1 [.int .i64 0, .int .i64 0, .str ⟨#[]⟩, .nils] [(0, (s.τ 39))] s.H) s <| .mk fun u10 =>
  @sOp (some 41) (xApp P 31 4 56 (some 41) (u10.τ 32) (u10.τ 40) u10.H) u10 <| .mk fun u11 =>
  @sOp (some 42) (xFld 3 (u11.τ 5) u11.H) u11 <| .mk fun u12 =>
  @sOp none (xStore 1 (u12.τ 42) (u12.τ 41) u12.H) u12 <| .mk fun s =>
  @sOp (some 29) (xMov (s.τ 6) s.H) s <| .mk fun s =>
  @sOp (some 30) (xBin .add false (s.τ 29) (.int .i64 1) s.H) s <| .mk fun s =>
  @sOp (some 6) (xMov (s.τ 30) s.H) s <| .mk fun s =>
  L0 s
def W103_b3 (P : Program) (Φ : Exit → St → Prop) (L0 : St → Prop) (s : St) : Prop :=
  @sOp (some 31) (xFld 3 (s.τ 5) s.H) s <| .mk fun u1 =>
  @sOp (some 32) (xLoad 1 false (u1.τ 31) u1.H) u1 <| .mk fun u2 =>
  @sOp (some 33) (xMov (u2.τ 0) u2.H) u2 <| .mk fun u3 =>
  @sOp (some 34) (xFld 3 (u3.τ 3) u3.H) u3 <| .mk fun u4 =>
  @sOp (some 35) (xLoad 1 false (u4.τ 34) u4.H) u4 <| .mk fun u5 =>
  @sOp (some 36) (xMov (u5.τ 6) u5.H) u5 <| .mk fun u6 =>
  @sOp (some 37) (xIx 4 (u6.τ 35) (u6.τ 36) u6.H) u6 <| .mk fun u7 =>
  @sOp (some 38) (xLoad 4 true (u7.τ 37) u7.H) u7 <| .mk fun u8 =>
  @sChk (compat (occ (s.τ 5), []) ([39] ++ (occ (.func 103 []) ++ occL [(u8.τ 33), (u8.τ 38)]), [39] ++ (occ (.func 103 []) ++ occL [(u8.τ 33), (u8.τ 38)]))) <| .mk <|
  @sChk (compat (occ (u1.τ 31), []) ([39] ++ (occ (.func 103 []) ++ occL [(u8.τ 33), (u8.τ 38)]), [39] ++ (occ (.func 103 []) ++ occL [(u8.τ 33), (u8.τ 38)]))) <| .mk <|
  @sCall0 P (.func 103 []) [(u8.τ 33), (u8.τ 38)] (some 39) u8 ⟨W103_c2 P Φ L0 s u1⟩
def W103_l4 (P : Program) (Φ : Exit → St → Prop) (L0 : St → Prop) (s : St) : Prop :=
  @sOp (some 24) (xMov (s.τ 6) s.H) s <| .mk fun s =>
  @sOp (some 25) (xFld 3 (s.τ 3) s.H) s <| .mk fun s =>
  @sOp (some 26) (xLoad 1 false (s.τ 25) s.H) s <| .mk fun s =>
  @sOp (some 27) (xLen (s.τ 26) s.H) s <| .mk fun s =>
  @sOp (some 28) (xBin .lss false (s.τ 24) (s.τ 27) s.H) s <| .mk fun s =>
  @sIf (s.τ 28) ⟨W103_b3 P Φ L0 s⟩ ⟨W103_k1 P Φ s⟩
def W103_k5 (P : Program) (Φ : Exit → St → Prop) (s : St) : Prop :=
  @sOp (some 6) (xMov (.int .i64 0) s.H) s <| .mk fun s =>
  @sLoop s ⟨fun L0 s => W103_l4 P Φ L0 s⟩
def W103_c6 (P : Program) (Φ : Exit → St → Prop) (s : St) : Prop :=
  @sOp (some 23) (xFld 1 (s.τ 5) s.H) s <| .mk fun s =>
  @sOp none (xStore 1 (s.τ 23) (s.τ 22) s.H) s <| .mk fun s =>
  W103_k5 P Φ s
def W103_b7 (P : Program) (Φ : Exit → St → Prop) (s : St) : Prop :=
  @sOp (some 15) (xMov (s.τ 0) s.H) s <| .mk fun s =>
  @sOp (some 16) (xMov (s.τ 0) s.H) s <| .mk fun s =>
  @sOp (some 17) (xNil (s.τ 16) s.H) s <| .mk fun s =>
  @sOp (some 18) (xFld 0 (s.τ 17) s.H) s <| .mk fun s =>
  @sOp (some 19) (xLoad 1 false (s.τ 18) s.H) s <| .mk fun s =>
  @sOp (some 20) (xFld 2 (s.τ 3) s.H) s <| .mk fun s =>
  @sOp (some 21) (xLoad 1 false (s.τ 20) s.H) s <| .mk fun s =>
  @sCall0 P (.func 102 []) [(s.τ 15), (s.τ 19), (s.τ 21)] (some 22) s ⟨W103_c6 P Φ⟩
def W103 (P : Program) (Φ : Exit → St → Prop) (s : St) : Prop :=
  @sOp (some 3) (xBox 3 31 (s.τ 1) s.H) s <| .mk fun s =>
  @sOp (some 4) (xAlloc 4 31 [.int .i64 0, .int .i64 0, .str ⟨#[]⟩, .nils] s.H) s <| .mk fun s =>
  @sOp (some 7) (xFld 0 (s.τ 3) s.H) s <| .mk fun s =>
  @sOp (some 8) (xLoad 1 false (s.τ 7) s.H) s <| .mk fun s =>
  @sOp (some 9) (xFld 1 (s.τ 3) s.H) s <| .mk fun s =>
  @sOp (some 10) (xLoad 1 false (s.τ 9) s.H) s <| .mk fun s =>
  @sOp (some 11) (xBuild [.int .i64 0, .int .i64 0, .str ⟨#[]⟩, .nils] [(0, 1, (s.τ 8)), (1, 1, (s.τ 10))] s.H) s <| .mk fun s =>
  @sOp (some 5) (xAlloc 5 31 [.int .i64 0, .int .i64 0, .str ⟨#[]⟩, .nils] s.H) s <| .mk fun s =>
  @sOp none (xStore 4 (s.τ 5) (s.τ 11) s.H) s <| .mk fun s =>
  @sOp (some 12) (xFld 0 (s.τ 3) s.H) s <| .mk fun s =>
  @sOp (some 13) (xLoad 1 false (s.τ 12) s.H) s <| .mk fun s =>
  @sOp (some 14) (xBin .eql false (s.τ 13) (.int .i64 2) s.H) s <| .mk fun s =>
  @sIf (s.τ 14) ⟨W103_b7 P Φ s⟩ ⟨W103_k5 P Φ s⟩
theorem W103_rs (τ : Nat → AV) (H : Heap) : resV Try.prog τ H [.cell 4 31] = rdV H 4 true (τ 4) := by kernel_rfl
theorem W103_eq (Φ : Exit → St → Prop) (s : St) : awp Try.prog (Try.f103.body.getD .skip) Φ s = W103 Try.prog Φ s := by kernel_rfl

-- 104 "penance/penanceref4.fronts"
def W104_k1 (P : Program) (Φ : Exit → St → Prop) (s : St) : Prop :=
  @sOp (some 37) (xMov (s.τ 4) s.H) s <| .mk fun s =>
  @sOp (some 2) (xMov (s.τ 37) s.H) s <| .mk fun s =>
  Φ .ret s
def W104_c2 (P : Program) (Φ : Exit → St → Prop) (L0 : St → Prop) (s : St) : Prop :=
  @sOp (some 33) (xMov (s.τ 4) s.H) s <| .mk fun s =>
  @sOp (some 34) (xMov (s.τ 6) s.H) s <| .mk fun s =>
  @sOp (some 35) (xLit 1 1 [.nils] [(0, (s.τ 34))] s.H) s <| .mk fun s =>
  @sOp (some 36) (xApp P 149 1 24 (some 36) (s.τ 33) (s.τ 35) s.H) s <| .mk fun s =>
  @sOp (some 4) (xMov (s.τ 36) s.H) s <| .mk fun s =>
  @sOp (some 16) (xMov (s.τ 5) s.H) s <| .mk fun s =>
  @sOp (some 17) (xBin .add false (s.τ 16) (.int .i64 1) s.H) s <| .mk fun s =>
  @sOp (some 5) (xMov (s.τ 17) s.H) s <| .mk fun s =>
  L0 s
def W104_b3 (P : Program) (Φ : Exit → St → Prop) (L0 : St → Prop) (s : St) : Prop :=
  @sOp (some 18) (xMov (s.τ 3) s.H) s <| .mk fun s =>
  @sOp (some 19) (xNil (s.τ 18) s.H) s <| .mk fun s =>
  @sOp (some 20) (xFld 0 (s.τ 19) s.H) s <| .mk fun s =>
  @sOp (some 21) (xLoad 1 false (s.τ 20) s.H) s <| .mk fun s =>
  @sOp (some 22) (xLen (s.τ 21) s.H) s <| .mk fun s =>
  @sOp (some 23) (xMks 23 4 1 1 [.bool false] (s.τ 22) (s.τ 22) s.H) s <| .mk fun s =>
  @sOp (some 6) (xMov (s.τ 23) s.H) s <| .mk fun s =>
  @sOp (some 24) (xMov (s.τ 3) s.H) s <| .mk fun s =>
  @sOp (some 25) (xFld 2 (s.τ 1) s.H) s <| .mk fun s =>
  @sOp (some 26) (xLoad 1 false (s.τ 25) s.H) s <| .mk fun s =>
  @sOp (some 27) (xMov (s.τ 5) s.H) s <| .mk fun s =>
  @sOp (some 28) (xIx 9 (s.τ 26) (s.τ 27) s.H) s <| .mk fun s =>
  @sOp (some 29) (xFld 1 (s.τ 28) s.H) s <| .mk fun s =>
  @sOp (some 30) (xLoad 8 true (s.τ 29) s.H) s <| .mk fun s =>
  @sOp (some 31) (xMov (s.τ 6) s.H) s <| .mk fun s =>
  @sCall P (.func 113 []) [(s.τ 24), (s.τ 30), (s.τ 31)] (some 32) s ⟨W104_c2 P Φ L0⟩
def W104_l4 (P : Program) (Φ : Exit → St → Prop) (L0 : St → Prop) (s : St) : Prop :=
  @sOp (some 9) (xMov (s.τ 5) s.H) s <| .mk fun s =>
  @sOp (some 10) (xMov (s.τ 3) s.H) s <| .mk fun s =>
  @sOp (some 11) (xNil (s.τ 10) s.H) s <| .mk fun s =>
  @sOp (some 12) (xFld 0 (s.τ 11) s.H) s <| .mk fun s =>
  @sOp (some 13) (xLoad 1 false (s.τ 12) s.H) s <| .mk fun s =>
  @sOp (some 14) (xLen (s.τ 13) s.H) s <| .mk fun s =>
  @sOp (some 15) (xBin .lss false (s.τ 9) (s.τ 14) s.H) s <| .mk fun s =>
  @sIf (s.τ 15) ⟨W104_b3 P Φ L0 s⟩ ⟨W104_k1 P Φ s⟩
def W104_c5 (P : Program) (Φ : Exit → St → Prop) (s : St) : Prop :=
  @sOp (some 3) (xMov (s.τ 8) s.H) s <| .mk fun s =>
  @sOp (some 4) (xMov (.nils) s.H) s <| .mk fun s =>
  @sOp (some 5) (xMov (.int .i64 0) s.H) s <| .mk fun s =>
  @sLoop s ⟨fun L0 s => W104_l4 P Φ L0 s⟩
def W104 (P : Program) (Φ : Exit → St → Prop) (s : St) : Prop :=
  @sOp (some 1) (xBox 1 69 (s.τ 0) s.H) s <| .mk fun s =>
  @sOp (some 2) (xMov (.nils) s.H) s <| .mk fun s =>
  @sOp (some 7) (xLoad 3 true (s.τ 1) s.H) s <| .mk fun s =>
  @sCall P (.func 112 []) [(s.τ 7)] (some 8) s ⟨W104_c5 P Φ⟩
theorem W104_rs (τ : Nat → AV) (H : Heap) : resV Try.prog τ H [.tmp 2] = some (τ 2) := by kernel_rfl
theorem W104_eq (Φ : Exit → St → Prop) (s : St) : awp Try.prog (Try.f104.body.getD .skip) Φ s = W104 Try.prog Φ s := by kernel_rfl

-- 105 "slices.Contains[[]string,string]"
def W105_c1 (P : Program) (Φ : Exit → St → Prop) (s : St) : Prop :=
  @sOp (some 8) (xBin .geq false (s.τ 7) (.int .i64 0) s.H) s <| .mk fun s =>
  @sOp (some 4) (xMov (s.τ 8) s.H) s <| .mk fun s =>
  Φ .ret s
def W105 (P : Program) (Φ : Exit → St → Prop) (s : St) : Prop :=
  @sOp (some 4) (xMov (.bool false) s.H) s <| .mk fun s =>
  @sOp (some 5) (xMov (s.τ 0) s.H) s <| .mk fun s =>
  @sOp (some 6) (xMov (s.τ 1) s.H) s <| .mk fun s =>
  @sCall P (.func 114 []) [(s.τ 5), (s.τ 6)] (some 7) s ⟨W105_c1 P Φ⟩
theorem W105_rs (τ : Nat → AV) (H : Heap) : resV Try.prog τ H [.tmp 4] = some (τ 4) := by kernel_rfl
theorem W105_eq (Φ : Exit → St → Prop) (s : St) : awp Try.prog (Try.f105.body.getD .skip) Φ s = W105 Try.prog Φ s := by kernel_rfl

-- 106 "penance/lex.words"

def W106 (P : Program) (Φ : Exit → St → Prop) (s : St) : Prop :=
  @sOp (some 0) (xMov (.nils) s.H) s <| .mk fun s =>
  @sOp (some 1) (xLit 1 16 [.str ⟨#[]⟩] [(0, (.str ⟨#[118, 97, 114]⟩)), (1, (.str ⟨#[115, 116, 97, 99, 107]⟩)), (2, (.str ⟨#[112, 114, 111, 99]⟩)), (3, (.str ⟨#[115, 107, 105, 112]⟩)), (4, (.str ⟨#[100, 111]⟩)), (5, (.str ⟨#[112, 117, 115, 104]⟩)), (6, (.str ⟨#[114, 101, 118, 101, 114, 115, 101]⟩)), (7, (.str ⟨#[97, 99, 99, 101, 112, 116]⟩)), (8, (.str ⟨#[109, 101, 114, 103, 101]⟩)), (9, (.str ⟨#[98, 108, 111, 99, 107]⟩)), (10, (.str ⟨#[101, 120, 105, 116]⟩)), (11, (.str ⟨#[105, 102]⟩)), (12, (.str ⟨#[101, 108, 115, 101]⟩)), (13, (.str ⟨#[99, 104, 111, 111, 115, 101]⟩)), (14, (.str ⟨#[112, 97, 114]⟩)), (15, (.str ⟨#[99, 97, 108, 108]⟩))] s.H) s <| .mk fun s =>
  @sOp (some 0) (xMov (s.τ 1) s.H) s <| .mk fun s =>
  Φ .ret s
theorem W106_rs (τ : Nat → AV) (H : Heap) : resV Try.prog τ H [.tmp 0] = some (τ 0) := by kernel_rfl
theorem W106_eq (Φ : Exit → St → Prop) (s : St) : awp Try.prog (Try.f106.body.getD .skip) Φ s = W106 Try.prog Φ s := by kernel_rfl

-- 107 "penance/lex.digit"
def W107_c1 (P : Program) (Φ : Exit → St → Prop) (s : St) : Prop :=
  @sOp (some 8) (xPick (s.τ 5) (s.τ 7) (.bool false) s.H) s <| .mk fun s =>
  @sOp (some 2) (xMov (s.τ 8) s.H) s <| .mk fun s =>
  Φ .ret s
def W107_c2 (P : Program) (Φ : Exit → St → Prop) (s : St) : Prop :=
  @sGrd (guardOf (s.τ 5) true) (some 7) s ⟨fun s K => @sOp (some 7) (xBin .leq false (s.τ 6) (.int .u8 57) s.H) s ⟨K⟩⟩ ⟨W107_c1 P Φ⟩
def W107 (P : Program) (Φ : Exit → St → Prop) (s : St) : Prop :=
  @sOp (some 2) (xMov (.bool false) s.H) s <| .mk fun s =>
  @sOp (some 3) (xMov (s.τ 0) s.H) s <| .mk fun s =>
  @sOp (some 4) (xBin .geq false (s.τ 3) (.int .u8 48) s.H) s <| .mk fun s =>
  @sOp (some 5) (xMov (s.τ 4) s.H) s <| .mk fun s =>
  @sGrd (guardOf (s.τ 5) true) (some 6) s ⟨fun s K => @sOp (some 6) (xMov (s.τ 0) s.H) s ⟨K⟩⟩ ⟨W107_c2 P Φ⟩
theorem W107_rs (τ : Nat → AV) (H : Heap) : resV Try.prog τ H [.tmp 2] = some (τ 2) := by kernel_rfl
theorem W107_eq (Φ : Exit → St → Prop) (s : St) : awp Try.prog (Try.f107.body.getD .skip) Φ s = W107 Try.prog Φ s := by kernel_rfl

-- 108 "penance/expr.all$1"
def W108_c1 (P : Program) (Φ : Exit → St → Prop) (s : St) : Prop :=
  Φ .normal s
def W108 (P : Program) (Φ : Exit → St → Prop) (s : St) : Prop :=
  @sOp (some 3) (xLoad 4 true (s.τ 1) s.H) s <| .mk fun s =>
  @sOp (some 4) (xMov (s.τ 0) s.H) s <| .mk fun s =>
  @sCall P (.func 109 []) [(s.τ 3), (s.τ 4)] (some 5) s ⟨W108_c1 P Φ⟩
theorem W108_rs (τ : Nat → AV) (H : Heap) : resV Try.prog τ H [] = ob (some []) fun vs => some (.tup vs) := by kernel_rfl
theorem W108_eq (Φ : Exit → St → Prop) (s : St) : awp Try.prog (Try.f108.body.getD .skip) Φ s = W108 Try.prog Φ s := by kernel_rfl

-- 109 "penance/expr.walk"
def W109_b1 (P : Program) (Φ : Exit → St → Prop) (s : St) : Prop :=
  @sOp (some 4) (xMov (.bool false) s.H) s <| .mk fun s =>
  Φ .ret s
def W109_k2 (P : Program) (Φ : Exit → St → Prop) (s : St) : Prop :=
  @sOp (some 4) (xMov (.bool true) s.H) s <| .mk fun s =>
  Φ .ret s
def W109_b3 (P : Program) (Φ : Exit → St → Prop) (L0 : St → Prop) (s : St) : Prop :=
  @sOp (some 4) (xMov (.bool false) s.H) s <| .mk fun s =>
  Φ .ret s
def W109_b4 (P : Program) (Φ : Exit → St → Prop) (L0 : St → Prop) (s : St) : Prop :=
  @sOp (some 22) (xBin .add false (s.τ 14) (.int .i64 1) s.H) s <| .mk fun s =>
  @sOp (some 14) (xMov (s.τ 22) s.H) s <| .mk fun s =>
  L0 s
def W109_c5 (P : Program) (Φ : Exit → St → Prop) (L0 : St → Prop) (s : St) : Prop :=
  @sOp (some 21) (xNot (s.τ 20) s.H) s <| .mk fun s =>
  @sIf (s.τ 21) ⟨W109_b3 P Φ L0 s⟩ ⟨W109_b4 P Φ L0 s⟩
def W109_b6 (P : Program) (Φ : Exit → St → Prop) (L0 : St → Prop) (s : St) : Prop :=
  @sOp (some 16) (xIx 4 (s.τ 12) (s.τ 14) s.H) s <| .mk fun s =>
  @sOp (some 17) (xLoad 4 true (s.τ 16) s.H) s <| .mk fun s =>
  @sOp (some 6) (xAlloc 6 31 [.int .i64 0, .int .i64 0, .str ⟨#[]⟩, .nils] s.H) s <| .mk fun s =>
  @sOp none (xStore 4 (s.τ 6) (s.τ 17) s.H) s <| .mk fun s =>
  @sOp (some 18) (xLoad 4 true (s.τ 6) s.H) s <| .mk fun s =>
  @sOp (some 19) (xMov (s.τ 1) s.H) s <| .mk fun s =>
  @sCall P (.func 109 []) [(s.τ 18), (s.τ 19)] (some 20) s ⟨W109_c5 P Φ L0⟩
def W109_l7 (P : Program) (Φ : Exit → St → Prop) (L0 : St → Prop) (s : St) : Prop :=
  @sOp (some 15) (xBin .lss false (s.τ 14) (s.τ 13) s.H) s <| .mk fun s =>
  @sIf (s.τ 15) ⟨W109_b6 P Φ L0 s⟩ ⟨W109_k2 P Φ s⟩
def W109_b8 (P : Program) (Φ : Exit → St → Prop) (s : St) : Prop :=
  @sOp (some 11) (xFld 3 (s.τ 2) s.H) s <| .mk fun s =>
  @sOp (some 12) (xLoad 1 false (s.τ 11) s.H) s <| .mk fun s =>
  @sOp (some 13) (xLen (s.τ 12) s.H) s <| .mk fun s =>
  @sOp (some 14) (xMov (.int .i64 0) s.H) s <| .mk fun s =>
  @sLoop s ⟨fun L0 s => W109_l7 P Φ L0 s⟩
def W109_c9 (P : Program) (Φ : Exit → St → Prop) (s : St) : Prop :=
  @sOp (some 10) (xNot (s.τ 9) s.H) s <| .mk fun s =>
  @sIf (s.τ 10) ⟨W109_b1 P Φ s⟩ ⟨W109_b8 P Φ s⟩
def W109 (P : Program) (Φ : Exit → St → Prop) (s : St) : Prop :=
  @sOp (some 2) (xBox 2 31 (s.τ 0) s.H) s <| .mk fun s =>
  @sOp (some 4) (xMov (.bool false) s.H) s <| .mk fun s =>
  @sOp (some 7) (xMov (s.τ 1) s.H) s <| .mk fun s =>
  @sOp (some 8) (xLoad 4 true (s.τ 2) s.H) s <| .mk fun s =>
  @sCall P (s.τ 7) [(s.τ 8)] (some 9) s ⟨W109_c9 P Φ⟩
theorem W109_rs (τ : Nat → AV) (H : Heap) : resV Try.prog τ H [.tmp 4] = some (τ 4) := by kernel_rfl
theorem W109_eq (Φ : Exit → St → Prop) (s : St) : awp Try.prog (Try.f109.body.getD .skip) Φ s = W109 Try.prog Φ s := by kernel_rfl

-- 110 "penance/penancelaw2.within"
def W110_k1 (P : Program) (Φ : Exit → St → Prop) (s : St) : Prop :=
  @sOp (some 14) (xMov (s.τ 5) s.H) s <| .mk fun s =>
  @sOp (some 4) (xMov (s.τ 14) s.H) s <| .mk fun s =>
  Φ .ret s
def W110_b2 (P : Program) (Φ : Exit → St → Prop) (s : St) : Prop :=
  @sOp (some 11) (xMov (s.τ 5) s.H) s <| .mk fun s =>
  @sOp (some 12) (xMov (s.τ 1) s.H) s <| .mk fun s =>
  @sOp (some 13) (xBin .add false (s.τ 11) (s.τ 12) s.H) s <| .mk fun s =>
  @sOp (some 5) (xMov (s.τ 13) s.H) s <| .mk fun s =>
  W110_k1 P Φ s
def W110 (P : Program) (Φ : Exit → St → Prop) (s : St) : Prop :=
  @sOp (some 4) (xMov (.int .i64 0) s.H) s <| .mk fun s =>
  @sOp (some 6) (xMov (s.τ 0) s.H) s <| .mk fun s =>
  @sOp (some 7) (xMov (s.τ 1) s.H) s <| .mk fun s =>
  @sOp (some 8) (xBin .rem false (s.τ 6) (s.τ 7) s.H) s <| .mk fun s =>
  @sOp (some 5) (xMov (s.τ 8) s.H) s <| .mk fun s =>
  @sOp (some 9) (xMov (s.τ 5) s.H) s <| .mk fun s =>
  @sOp (some 10) (xBin .lss false (s.τ 9) (.int .i64 0) s.H) s <| .mk fun s =>
  @sIf (s.τ 10) ⟨W110_b2 P Φ s⟩ ⟨W110_k1 P Φ s⟩
theorem W110_rs (τ : Nat → AV) (H : Heap) : resV Try.prog τ H [.tmp 4] = some (τ 4) := by kernel_rfl
theorem W110_eq (Φ : Exit → St → Prop) (s : St) : awp Try.prog (Try.f110.body.getD .skip) Φ s = W110 Try.prog Φ s := by kernel_rfl

-- 111 "(penance/penancelaw2.Raw).part"
def W111_c1 (P : Program) (Φ : Exit → St → Prop) (s : St) : Prop :=
  @sOp none (xStore 4 (s.τ 6) (s.τ 18) s.H) s <| .mk fun s =>
  Φ .ret s
def W111_b2 (P : Program) (Φ : Exit → St → Prop) (s : St) : Prop :=
  @sOp (some 12) (xFld 2 (s.τ 3) s.H) s <| .mk fun s =>
  @sOp (some 13) (xLoad 1 false (s.τ 12) s.H) s <| .mk fun s =>
  @sOp (some 14) (xMov (s.τ 1) s.H) s <| .mk fun s =>
  @sOp (some 15) (xIx 3 (s.τ 13) (s.τ 14) s.H) s <| .mk fun s =>
  @sOp (some 16) (xLoad 3 true (s.τ 15) s.H) s <| .mk fun s =>
  @sOp (some 17) (xMov (s.τ 2) s.H) s <| .mk fun s =>
  @sCall P (.func 101 []) [(s.τ 16), (s.τ 17)] (some 18) s ⟨W111_c1 P Φ⟩
def W111_c3 (P : Program) (Φ : Exit → St → Prop) (s : St) : Prop :=
  @sOp (some 24) (xBuild [.int .i64 0, .int .i64 0, .str ⟨#[]⟩, .nils] [(0, 1, (.int .i64 1)), (1, 1, (s.τ 23))] s.H) s <| .mk fun s =>
  @sOp none (xStore 4 (s.τ 6) (s.τ 24) s.H) s <| .mk fun s =>
  Φ .ret s
def W111_b4 (P : Program) (Φ : Exit → St → Prop) (s : St) : Prop :=
  @sOp (some 19) (xFld 1 (s.τ 3) s.H) s <| .mk fun s =>
  @sOp (some 20) (xLoad 1 false (s.τ 19) s.H) s <| .mk fun s =>
  @sOp (some 21) (xMov (s.τ 1) s.H) s <| .mk fun s =>
  @sOp (some 22) (xBin .add false (s.τ 20) (s.τ 21) s.H) s <| .mk fun s =>
  @sCall P (.func 110 []) [(s.τ 22), (.int .i64 5)] (some 23) s ⟨W111_c3 P Φ⟩
def W111 (P : Program) (Φ : Exit → St → Prop) (s : St) : Prop :=
  @sOp (some 3) (xBox 3 145 (s.τ 0) s.H) s <| .mk fun s =>
  @sOp (some 6) (xAlloc 6 31 [.int .i64 0, .int .i64 0, .str ⟨#[]⟩, .nils] s.H) s <| .mk fun s =>
  @sOp (some 7) (xMov (s.τ 1) s.H) s <| .mk fun s =>
  @sOp (some 8) (xFld 2 (s.τ 3) s.H) s <| .mk fun s =>
  @sOp (some 9) (xLoad 1 false (s.τ 8) s.H) s <| .mk fun s =>
  @sOp (some 10) (xLen (s.τ 9) s.H) s <| .mk fun s =>
  @sOp (some 11) (xBin .lss false (s.τ 7) (s.τ 10) s.H) s <| .mk fun s =>
  @sIf (s.τ 11) ⟨W111_b2 P Φ s⟩ ⟨W111_b4 P Φ s⟩
theorem W111_rs (τ : Nat → AV) (H : Heap) : resV Try.prog τ H [.cell 6 31] = rdV H 4 true (τ 6) := by kernel_rfl
theorem W111_eq (Φ : Exit → St → Prop) (s : St) : awp Try.prog (Try.f111.body.getD .skip) Φ s = W111 Try.prog Φ s := by kernel_rfl

-- 112 "penance/penanceref4.settle"
def W112_k1 (P : Program) (Φ : Exit → St → Prop) (s : St) : Prop :=
  @sOp (some 98) (xMov (s.τ 5) s.H) s <| .mk fun s =>
  @sOp (some 2) (xMov (s.τ 98) s.H) s <| .mk fun s =>
  Φ .ret s
def W112_k2 (P : Program) (Φ : Exit → St → Prop) (L0 : St → Prop) (L1 : St → Prop) (s : St) : Prop :=
  @sOp (some 29) (xMov (s.τ 7) s.H) s <| .mk fun s =>
  @sOp (some 30) (xBin .add false (s.τ 29) (.int .i64 1) s.H) s <| .mk fun s =>
  @sOp (some 7) (xMov (s.τ 30) s.H) s <| .mk fun s =>
  L1 s
def W112_c3 (P : Program) (Φ : Exit → St → Prop) (L0 : St → Prop) (L1 : St → Prop) (s : St) : Prop :=
  @sOp (some 95) (xPick (s.τ 93) (.bool true) (s.τ 94) s.H) s <| .mk fun s =>
  @sOp (some 96) (xIx 1 (s.τ 69) (s.τ 70) s.H) s <| .mk fun s =>
  @sOp none (xStore 1 (s.τ 96) (s.τ 85) s.H) s <| .mk fun s =>
  @sOp (some 97) (xIx 1 (s.τ 74) (s.τ 75) s.H) s <| .mk fun s =>
  @sOp none (xStore 1 (s.τ 97) (s.τ 95) s.H) s <| .mk fun s =>
  @sOp (some 6) (xMov (.bool true) s.H) s <| .mk fun s =>
  W112_k2 P Φ L0 L1 s
def W112_c4 (P : Program) (Φ : Exit → St → Prop) (L0 : St → Prop) (L1 : St → Prop) (s : St) : Prop :=
  @sOp (some 85) (xPick (s.τ 83) (.bool true) (s.τ 84) s.H) s <| .mk fun s =>
  @sOp (some 86) (xMov (s.τ 5) s.H) s <| .mk fun s =>
  @sOp (some 87) (xNil (s.τ 86) s.H) s <| .mk fun s =>
  @sOp (some 88) (xFld 2 (s.τ 87) s.H) s <| .mk fun s =>
  @sOp (some 89) (xLoad 1 false (s.τ 88) s.H) s <| .mk fun s =>
  @sOp (some 90) (xMov (s.τ 7) s.H) s <| .mk fun s =>
  @sOp (some 91) (xIx 1 (s.τ 89) (s.τ 90) s.H) s <| .mk fun s =>
  @sOp (some 92) (xLoad 1 false (s.τ 91) s.H) s <| .mk fun s =>
  @sOp (some 93) (xMov (s.τ 92) s.H) s <| .mk fun s =>
  @sGrd (guardOf (s.τ 93) false) (some 94) s ⟨fun s K => @sOp (some 94) (xMov (s.τ 9) s.H) s ⟨K⟩⟩ ⟨W112_c3 P Φ L0 L1⟩
def W112_b5 (P : Program) (Φ : Exit → St → Prop) (L0 : St → Prop) (L1 : St → Prop) (s : St) : Prop :=
  @sOp (some 66) (xMov (s.τ 5) s.H) s <| .mk fun s =>
  @sOp (some 67) (xNil (s.τ 66) s.H) s <| .mk fun s =>
  @sOp (some 68) (xFld 1 (s.τ 67) s.H) s <| .mk fun s =>
  @sOp (some 69) (xLoad 1 false (s.τ 68) s.H) s <| .mk fun s =>
  @sOp (some 70) (xMov (s.τ 7) s.H) s <| .mk fun s =>
  @sOp (some 71) (xMov (s.τ 5) s.H) s <| .mk fun s =>
  @sOp (some 72) (xNil (s.τ 71) s.H) s <| .mk fun s =>
  @sOp (some 73) (xFld 2 (s.τ 72) s.H) s <| .mk fun s =>
  @sOp (some 74) (xLoad 1 false (s.τ 73) s.H) s <| .mk fun s =>
  @sOp (some 75) (xMov (s.τ 7) s.H) s <| .mk fun s =>
  @sOp (some 76) (xMov (s.τ 5) s.H) s <| .mk fun s =>
  @sOp (some 77) (xNil (s.τ 76) s.H) s <| .mk fun s =>
  @sOp (some 78) (xFld 1 (s.τ 77) s.H) s <| .mk fun s =>
  @sOp (some 79) (xLoad 1 false (s.τ 78) s.H) s <| .mk fun s =>
  @sOp (some 80) (xMov (s.τ 7) s.H) s <| .mk fun s =>
  @sOp (some 81) (xIx 1 (s.τ 79) (s.τ 80) s.H) s <| .mk fun s =>
  @sOp (some 82) (xLoad 1 false (s.τ 81) s.H) s <| .mk fun s =>
  @sOp (some 83) (xMov (s.τ 82) s.H) s <| .mk fun s =>
  @sGrd (guardOf (s.τ 83) false) (some 84) s ⟨fun s K => @sOp (some 84) (xMov (s.τ 8) s.H) s ⟨K⟩⟩ ⟨W112_c4 P Φ L0 L1⟩
def W112_c6 (P : Program) (Φ : Exit → St → Prop) (L0 : St → Prop) (L1 : St → Prop) (s : St) : Prop :=
  @sOp (some 65) (xPick (s.τ 53) (.bool true) (s.τ 64) s.H) s <| .mk fun s =>
  @sIf (s.τ 65) ⟨W112_b5 P Φ L0 L1 s⟩ ⟨W112_k2 P Φ L0 L1 s⟩
def W112_c7 (P : Program) (Φ : Exit → St → Prop) (L0 : St → Prop) (L1 : St → Prop) (s : St) : Prop :=
  @sGrd (guardOf (s.τ 53) false) (some 64) s ⟨fun s K => @sOp (some 64) (xPick (s.τ 55) (s.τ 63) (.bool false) s.H) s ⟨K⟩⟩ ⟨W112_c6 P Φ L0 L1⟩
def W112_c8 (P : Program) (Φ : Exit → St → Prop) (L0 : St → Prop) (L1 : St → Prop) (s : St) : Prop :=
  @sGrd (guardOf (s.τ 55) true) (some 63) s ⟨fun s K => @sOp (some 63) (xNot (s.τ 62) s.H) s ⟨K⟩⟩ ⟨W112_c7 P Φ L0 L1⟩
def W112_c9 (P : Program) (Φ : Exit → St → Prop) (L0 : St → Prop) (L1 : St → Prop) (s : St) : Prop :=
  @sGrd (guardOf (s.τ 55) true) (some 62) s ⟨fun s K => @sOp (some 62) (xLoad 1 false (s.τ 61) s.H) s ⟨K⟩⟩ ⟨W112_c8 P Φ L0 L1⟩
def W112_c10 (P : Program) (Φ : Exit → St → Prop) (L0 : St → Prop) (L1 : St → Prop) (s : St) : Prop :=
  @sGrd (guardOf (s.τ 55) true) (some 61) s ⟨fun s K => @sOp (some 61) (xIx 1 (s.τ 59) (s.τ 60) s.H) s ⟨K⟩⟩ ⟨W112_c9 P Φ L0 L1⟩
def W112_c11 (P : Program) (Φ : Exit → St → Prop) (L0 : St → Prop) (L1 : St → Prop) (s : St) : Prop :=
  @sGrd (guardOf (s.τ 55) true) (some 60) s ⟨fun s K => @sOp (some 60) (xMov (s.τ 7) s.H) s ⟨K⟩⟩ ⟨W112_c10 P Φ L0 L1⟩
def W112_c12 (P : Program) (Φ : Exit → St → Prop) (L0 : St → Prop) (L1 : St → Prop) (s : St) : Prop :=
  @sGrd (guardOf (s.τ 55) true) (some 59) s ⟨fun s K => @sOp (some 59) (xLoad 1 false (s.τ 58) s.H) s ⟨K⟩⟩ ⟨W112_c11 P Φ L0 L1⟩
def W112_c13 (P : Program) (Φ : Exit → St → Prop) (L0 : St → Prop) (L1 : St → Prop) (s : St) : Prop :=
  @sGrd (guardOf (s.τ 55) true) (some 58) s ⟨fun s K => @sOp (some 58) (xFld 2 (s.τ 57) s.H) s ⟨K⟩⟩ ⟨W112_c12 P Φ L0 L1⟩
def W112_c14 (P : Program) (Φ : Exit → St → Prop) (L0 : St → Prop) (L1 : St → Prop) (s : St) : Prop :=
  @sGrd (guardOf (s.τ 55) true) (some 57) s ⟨fun s K => @sOp (some 57) (xNil (s.τ 56) s.H) s ⟨K⟩⟩ ⟨W112_c13 P Φ L0 L1⟩
def W112_c15 (P : Program) (Φ : Exit → St → Prop) (L0 : St → Prop) (L1 : St → Prop) (s : St) : Prop :=
  @sGrd (guardOf (s.τ 55) true) (some 56) s ⟨fun s K => @sOp (some 56) (xMov (s.τ 5) s.H) s ⟨K⟩⟩ ⟨W112_c14 P Φ L0 L1⟩
def W112_c16 (P : Program) (Φ : Exit → St → Prop) (L0 : St → Prop) (L1 : St → Prop) (s : St) : Prop :=
  @sGrd (guardOf (s.τ 53) false) (some 55) s ⟨fun s K => @sOp (some 55) (xMov (s.τ 54) s.H) s ⟨K⟩⟩ ⟨W112_c15 P Φ L0 L1⟩
def W112_c17 (P : Program) (Φ : Exit → St → Prop) (L0 : St → Prop) (L1 : St → Prop) (s : St) : Prop :=
  @sOp (some 52) (xPick (s.τ 43) (s.τ 51) (.bool false) s.H) s <| .mk fun s =>
  @sOp (some 53) (xMov (s.τ 52) s.H) s <| .mk fun s =>
  @sGrd (guardOf (s.τ 53) false) (some 54) s ⟨fun s K => @sOp (some 54) (xMov (s.τ 9) s.H) s ⟨K⟩⟩ ⟨W112_c16 P Φ L0 L1⟩
def W112_c18 (P : Program) (Φ : Exit → St → Prop) (L0 : St → Prop) (L1 : St → Prop) (s : St) : Prop :=
  @sGrd (guardOf (s.τ 43) true) (some 51) s ⟨fun s K => @sOp (some 51) (xNot (s.τ 50) s.H) s ⟨K⟩⟩ ⟨W112_c17 P Φ L0 L1⟩
def W112_c19 (P : Program) (Φ : Exit → St → Prop) (L0 : St → Prop) (L1 : St → Prop) (s : St) : Prop :=
  @sGrd (guardOf (s.τ 43) true) (some 50) s ⟨fun s K => @sOp (some 50) (xLoad 1 false (s.τ 49) s.H) s ⟨K⟩⟩ ⟨W112_c18 P Φ L0 L1⟩
def W112_c20 (P : Program) (Φ : Exit → St → Prop) (L0 : St → Prop) (L1 : St → Prop) (s : St) : Prop :=
  @sGrd (guardOf (s.τ 43) true) (some 49) s ⟨fun s K => @sOp (some 49) (xIx 1 (s.τ 47) (s.τ 48) s.H) s ⟨K⟩⟩ ⟨W112_c19 P Φ L0 L1⟩
def W112_c21 (P : Program) (Φ : Exit → St → Prop) (L0 : St → Prop) (L1 : St → Prop) (s : St) : Prop :=
  @sGrd (guardOf (s.τ 43) true) (some 48) s ⟨fun s K => @sOp (some 48) (xMov (s.τ 7) s.H) s ⟨K⟩⟩ ⟨W112_c20 P Φ L0 L1⟩
def W112_c22 (P : Program) (Φ : Exit → St → Prop) (L0 : St → Prop) (L1 : St → Prop) (s : St) : Prop :=
  @sGrd (guardOf (s.τ 43) true) (some 47) s ⟨fun s K => @sOp (some 47) (xLoad 1 false (s.τ 46) s.H) s ⟨K⟩⟩ ⟨W112_c21 P Φ L0 L1⟩
def W112_c23 (P : Program) (Φ : Exit → St → Prop) (L0 : St → Prop) (L1 : St → Prop) (s : St) : Prop :=
  @sGrd (guardOf (s.τ 43) true) (some 46) s ⟨fun s K => @sOp (some 46) (xFld 1 (s.τ 45) s.H) s ⟨K⟩⟩ ⟨W112_c22 P Φ L0 L1⟩
def W112_c24 (P : Program) (Φ : Exit → St → Prop) (L0 : St → Prop) (L1 : St → Prop) (s : St) : Prop :=
  @sGrd (guardOf (s.τ 43) true) (some 45) s ⟨fun s K => @sOp (some 45) (xNil (s.τ 44) s.H) s ⟨K⟩⟩ ⟨W112_c23 P Φ L0 L1⟩
def W112_c25 (P : Program) (Φ : Exit → St → Prop) (L0 : St → Prop) (L1 : St → Prop) (s : St) : Prop :=
  @sOp (some 31) (xMov (s.τ 39) s.H) s <| .mk fun s =>
  @sOp (some 40) (xExt (s.τ 31) 0 s.H) s <| .mk fun s =>
  @sOp (some 41) (xExt (s.τ 31) 1 s.H) s <| .mk fun s =>
  @sOp (some 8) (xMov (s.τ 40) s.H) s <| .mk fun s =>
  @sOp (some 9) (xMov (s.τ 41) s.H) s <| .mk fun s =>
  @sOp (some 42) (xMov (s.τ 8) s.H) s <| .mk fun s =>
  @sOp (some 43) (xMov (s.τ 42) s.H) s <| .mk fun s =>
  @sGrd (guardOf (s.τ 43) true) (some 44) s ⟨fun s K => @sOp (some 44) (xMov (s.τ 5) s.H) s ⟨K⟩⟩ ⟨W112_c24 P Φ L0 L1⟩
def W112_b26 (P : Program) (Φ : Exit → St → Prop) (L0 : St → Prop) (L1 : St → Prop) (s : St) : Prop :=
  @sOp (some 32) (xMov (s.τ 5) s.H) s <| .mk fun s =>
  @sOp (some 33) (xFld 2 (s.τ 1) s.H) s <| .mk fun s =>
  @sOp (some 34) (xLoad 1 false (s.τ 33) s.H) s <| .mk fun s =>
  @sOp (some 35) (xMov (s.τ 7) s.H) s <| .mk fun s =>
  @sOp (some 36) (xIx 9 (s.τ 34) (s.τ 35) s.H) s <| .mk fun s =>
  @sOp (some 37) (xFld 1 (s.τ 36) s.H) s <| .mk fun s =>
  @sOp (some 38) (xLoad 8 true (s.τ 37) s.H) s <| .mk fun s =>
  @sCall P (.func 115 []) [(s.τ 32), (s.τ 38)] (some 39) s ⟨W112_c25 P Φ L0 L1⟩
def W112_l27 (P : Program) (Φ : Exit → St → Prop) (L0 : St → Prop) (L1 : St → Prop) (s : St) : Prop :=
  @sOp (some 25) (xMov (s.τ 7) s.H) s <| .mk fun s =>
  @sOp (some 26) (xMov (s.τ 4) s.H) s <| .mk fun s =>
  @sOp (some 27) (xLen (s.τ 26) s.H) s <| .mk fun s =>
  @sOp (some 28) (xBin .lss false (s.τ 25) (s.τ 27) s.H) s <| .mk fun s =>
  @sIf (s.τ 28) ⟨W112_b26 P Φ L0 L1 s⟩ ⟨L0 s⟩
def W112_b28 (P : Program) (Φ : Exit → St → Prop) (L0 : St → Prop) (s : St) : Prop :=
  @sOp (some 6) (xMov (.bool false) s.H) s <| .mk fun s =>
  @sOp (some 7) (xMov (.int .i64 0) s.H) s <| .mk fun s =>
  @sLoop s ⟨fun L1 s => W112_l27 P Φ L0 L1 s⟩
def W112_l29 (P : Program) (Φ : Exit → St → Prop) (L0 : St → Prop) (s : St) : Prop :=
  @sOp (some 24) (xMov (s.τ 6) s.H) s <| .mk fun s =>
  @sIf (s.τ 24) ⟨W112_b28 P Φ L0 s⟩ ⟨W112_k1 P Φ s⟩
def W112_c30 (P : Program) (Φ : Exit → St → Prop) (s : St) : Prop :=
  @sOp (some 10) (xMov (s.τ 12) s.H) s <| .mk fun s =>
  @sOp (some 13) (xExt (s.τ 10) 0 s.H) s <| .mk fun s =>
  @sOp (some 14) (xExt (s.τ 10) 1 s.H) s <| .mk fun s =>
  @sOp (some 3) (xMov (s.τ 13) s.H) s <| .mk fun s =>
  @sOp (some 4) (xMov (s.τ 14) s.H) s <| .mk fun s =>
  @sOp (some 15) (xMov (s.τ 4) s.H) s <| .mk fun u1 =>
  @sOp (some 16) (xMov (u1.τ 4) u1.H) u1 <| .mk fun u2 =>
  @sOp (some 17) (xLen (u2.τ 16) u2.H) u2 <| .mk fun u3 =>
  @sOp (some 18) (xMks 18 4 1 1 [.bool false] (u3.τ 17) (u3.τ 17) u3.H) u3 <| .mk fun u4 =>
  @sOp (some 19) (xMov (u4.τ 4) u4.H) u4 <| .mk fun u5 =>
  @sChk (compat ([18], [18]) (occ (u5.τ 19), [])) <| .mk <|
  @sOp (some 20) (xLen (u5.τ 19) u5.H) u5 <| .mk fun u6 =>
  @sChk (compat (occ (u2.τ 16), []) ([21], [21])) <| .mk <|
  @sChk (compat ([18], [18]) ([21], [21])) <| .mk <|
  @sOp (some 21) (xMks 21 4 1 1 [.bool false] (u6.τ 20) (u6.τ 20) u6.H) u6 <| .mk fun u7 =>
  @sOp (some 22) (xBuild [.nils, .nils, .nils] [(0, 1, (u7.τ 15)), (1, 1, (u7.τ 18)), (2, 1, (u7.τ 21))] u7.H) u7 <| .mk fun u8 =>
  @sOp (some 23) (xBox 23 156 (u8.τ 22) u8.H) u8 <| .mk fun u9 =>
  @sOp (some 5) (xMov (u9.τ 23) u9.H) u9 <| .mk fun s =>
  @sOp (some 6) (xMov (.bool true) s.H) s <| .mk fun s =>
  @sLoop s ⟨fun L0 s => W112_l29 P Φ L0 s⟩
def W112 (P : Program) (Φ : Exit → St → Prop) (s : St) : Prop :=
  @sOp (some 1) (xBox 1 69 (s.τ 0) s.H) s <| .mk fun s =>
  @sOp (some 2) (xMov (.nilp) s.H) s <| .mk fun s =>
  @sOp (some 11) (xLoad 3 true (s.τ 1) s.H) s <| .mk fun s =>
  @sCall P (.func 89 []) [(s.τ 11)] (some 12) s ⟨W112_c30 P Φ⟩
theorem W112_rs (τ : Nat → AV) (H : Heap) : resV Try.prog τ H [.tmp 2] = some (τ 2) := by kernel_rfl
theorem W112_eq (Φ : Exit → St → Prop) (s : St) : awp Try.prog (Try.f112.body.getD .skip) Φ s = W112 Try.prog Φ s := by kernel_rfl

-- 113 "(*penance/penanceref4.may).front"
def W113_b1 (P : Program) (Φ : Exit → St → Prop) (s : St) : Prop :=
  @sOp (some 38) (xMov (s.τ 2) s.H) s <| .mk fun s =>
  @sOp (some 39) (xMov (s.τ 6) s.H) s <| .mk fun s =>
  @sOp (some 40) (xIx 1 (s.τ 38) (s.τ 39) s.H) s <| .mk fun s =>
  @sOp none (xStore 1 (s.τ 40) (.bool true) s.H) s <| .mk fun s =>
  Φ .normal s
def W113_c2 (P : Program) (Φ : Exit → St → Prop) (s : St) : Prop :=
  @sOp (some 6) (xMov (s.τ 35) s.H) s <| .mk fun s =>
  @sOp (some 36) (xMov (s.τ 6) s.H) s <| .mk fun s =>
  @sOp (some 37) (xBin .geq false (s.τ 36) (.int .i64 0) s.H) s <| .mk fun s =>
  @sIf (s.τ 37) ⟨W113_b1 P Φ s⟩ ⟨Φ .normal s⟩
def W113_b3 (P : Program) (Φ : Exit → St → Prop) (s : St) : Prop :=
  @sOp (some 29) (xMov (s.τ 0) s.H) s <| .mk fun s =>
  @sOp (some 30) (xNil (s.τ 29) s.H) s <| .mk fun s =>
  @sOp (some 31) (xFld 0 (s.τ 30) s.H) s <| .mk fun s =>
  @sOp (some 32) (xLoad 1 false (s.τ 31) s.H) s <| .mk fun s =>
  @sOp (some 33) (xFld 1 (s.τ 4) s.H) s <| .mk fun s =>
  @sOp (some 34) (xLoad 1 false (s.τ 33) s.H) s <| .mk fun s =>
  @sCall0 P (.func 91 []) [(s.τ 32), (s.τ 34)] (some 35) s ⟨W113_c2 P Φ⟩
def W113_c4 (P : Program) (Φ : Exit → St → Prop) (s : St) : Prop :=
  Φ .normal s
def W113_b5 (P : Program) (Φ : Exit → St → Prop) (s : St) : Prop :=
  @sOp (some 60) (xMov (s.τ 0) s.H) s <| .mk fun s =>
  @sOp (some 61) (xFld 7 (s.τ 4) s.H) s <| .mk fun s =>
  @sOp (some 62) (xLoad 1 false (s.τ 61) s.H) s <| .mk fun s =>
  @sOp (some 63) (xIx 8 (s.τ 62) (.int .i64 1) s.H) s <| .mk fun s =>
  @sOp (some 64) (xLoad 8 true (s.τ 63) s.H) s <| .mk fun s =>
  @sOp (some 65) (xMov (s.τ 2) s.H) s <| .mk fun s =>
  @sCall P (.func 113 []) [(s.τ 60), (s.τ 64), (s.τ 65)] (some 66) s ⟨W113_c4 P Φ⟩
def W113_c6 (P : Program) (Φ : Exit → St → Prop) (s : St) : Prop :=
  @sOp (some 50) (xMov (s.τ 56) s.H) s <| .mk fun s =>
  @sOp (some 57) (xExt (s.τ 50) 0 s.H) s <| .mk fun s =>
  @sOp (some 58) (xExt (s.τ 50) 1 s.H) s <| .mk fun s =>
  @sOp (some 7) (xMov (s.τ 57) s.H) s <| .mk fun s =>
  @sOp (some 8) (xMov (s.τ 58) s.H) s <| .mk fun s =>
  @sOp (some 59) (xMov (s.τ 7) s.H) s <| .mk fun s =>
  @sIf (s.τ 59) ⟨W113_b5 P Φ s⟩ ⟨Φ .normal s⟩
def W113_c7 (P : Program) (Φ : Exit → St → Prop) (s : St) : Prop :=
  @sOp (some 51) (xMov (s.τ 0) s.H) s <| .mk fun s =>
  @sOp (some 52) (xFld 7 (s.τ 4) s.H) s <| .mk fun s =>
  @sOp (some 53) (xLoad 1 false (s.τ 52) s.H) s <| .mk fun s =>
  @sOp (some 54) (xIx 8 (s.τ 53) (.int .i64 0) s.H) s <| .mk fun s =>
  @sOp (some 55) (xLoad 8 true (s.τ 54) s.H) s <| .mk fun s =>
  @sCall P (.func 115 []) [(s.τ 51), (s.τ 55)] (some 56) s ⟨W113_c6 P Φ⟩
def W113_b8 (P : Program) (Φ : Exit → St → Prop) (s : St) : Prop :=
  @sOp (some 43) (xMov (s.τ 0) s.H) s <| .mk fun s =>
  @sOp (some 44) (xFld 7 (s.τ 4) s.H) s <| .mk fun s =>
  @sOp (some 45) (xLoad 1 false (s.τ 44) s.H) s <| .mk fun s =>
  @sOp (some 46) (xIx 8 (s.τ 45) (.int .i64 0) s.H) s <| .mk fun s =>
  @sOp (some 47) (xLoad 8 true (s.τ 46) s.H) s <| .mk fun s =>
  @sOp (some 48) (xMov (s.τ 2) s.H) s <| .mk fun s =>
  @sCall P (.func 113 []) [(s.τ 43), (s.τ 47), (s.τ 48)] (some 49) s ⟨W113_c7 P Φ⟩
def W113_c9 (P : Program) (Φ : Exit → St → Prop) (L0 : St → Prop) (s : St) : Prop :=
  @sOp (some 17) (xMov (s.τ 9) s.H) s <| .mk fun s =>
  @sOp (some 18) (xBin .add false (s.τ 17) (.int .i64 1) s.H) s <| .mk fun s =>
  @sOp (some 9) (xMov (s.τ 18) s.H) s <| .mk fun s =>
  L0 s
def W113_b10 (P : Program) (Φ : Exit → St → Prop) (L0 : St → Prop) (s : St) : Prop :=
  @sOp (some 19) (xMov (s.τ 0) s.H) s <| .mk fun s =>
  @sOp (some 20) (xFld 7 (s.τ 4) s.H) s <| .mk fun s =>
  @sOp (some 21) (xLoad 1 false (s.τ 20) s.H) s <| .mk fun s =>
  @sOp (some 22) (xMov (s.τ 9) s.H) s <| .mk fun s =>
  @sOp (some 23) (xIx 8 (s.τ 21) (s.τ 22) s.H) s <| .mk fun s =>
  @sOp (some 24) (xLoad 8 true (s.τ 23) s.H) s <| .mk fun s =>
  @sOp (some 25) (xMov (s.τ 2) s.H) s <| .mk fun s =>
  @sCall P (.func 113 []) [(s.τ 19), (s.τ 24), (s.τ 25)] (some 26) s ⟨W113_c9 P Φ L0⟩
def W113_l11 (P : Program) (Φ : Exit → St → Prop) (L0 : St → Prop) (s : St) : Prop :=
  @sOp (some 12) (xMov (s.τ 9) s.H) s <| .mk fun s =>
  @sOp (some 13) (xFld 7 (s.τ 4) s.H) s <| .mk fun s =>
  @sOp (some 14) (xLoad 1 false (s.τ 13) s.H) s <| .mk fun s =>
  @sOp (some 15) (xLen (s.τ 14) s.H) s <| .mk fun s =>
  @sOp (some 16) (xBin .lss false (s.τ 12) (s.τ 15) s.H) s <| .mk fun s =>
  @sIf (s.τ 16) ⟨W113_b10 P Φ L0 s⟩ ⟨Φ .normal s⟩
def W113_b12 (P : Program) (Φ : Exit → St → Prop) (s : St) : Prop :=
  @sOp (some 9) (xMov (.int .i64 0) s.H) s <| .mk fun s =>
  @sLoop s ⟨fun L0 s => W113_l11 P Φ L0 s⟩
def W113_b13 (P : Program) (Φ : Exit → St → Prop) (s : St) : Prop :=
  @sOp (some 42) (xBin .eql false (s.τ 11) (.int .i64 12) s.H) s <| .mk fun s =>
  @sOp (some 41) (xMov (s.τ 42) s.H) s <| .mk fun s =>
  @sIf (s.τ 41) ⟨W113_b8 P Φ s⟩ ⟨W113_b12 P Φ s⟩
def W113 (P : Program) (Φ : Exit → St → Prop) (s : St) : Prop :=
  @sOp (some 4) (xBox 4 73 (s.τ 1) s.H) s <| .mk fun s =>
  @sOp (some 10) (xFld 0 (s.τ 4) s.H) s <| .mk fun s =>
  @sOp (some 11) (xLoad 1 false (s.τ 10) s.H) s <| .mk fun s =>
  @sOp (some 28) (xBin .eql false (s.τ 11) (.int .i64 13) s.H) s <| .mk fun s =>
  @sOp (some 27) (xMov (s.τ 28) s.H) s <| .mk fun s =>
  @sIf (s.τ 27) ⟨W113_b3 P Φ s⟩ ⟨W113_b13 P Φ s⟩
theorem W113_rs (τ : Nat → AV) (H : Heap) : resV Try.prog τ H [] = ob (some []) fun vs => some (.tup vs) := by kernel_rfl
theorem W113_eq (Φ : Exit → St → Prop) (s : St) : awp Try.prog (Try.f113.body.getD .skip) Φ s = W113 Try.prog Φ s := by kernel_rfl

-- 114 "slices.Index[[]string,string]"
def W114_k1 (P : Program) (Φ : Exit → St → Prop) (s : St) : Prop :=
  @sOp (some 4) (xMov (.int .i64 (-1)) s.H) s <| .mk fun s =>
  Φ .ret s
def W114_b2 (P : Program) (Φ : Exit → St → Prop) (L0 : St → Prop) (s : St) : Prop :=
  @sOp (some 17) (xMov (s.τ 5) s.H) s <| .mk fun s =>
  @sOp (some 4) (xMov (s.τ 17) s.H) s <| .mk fun s =>
  Φ .ret s
def W114_b3 (P : Program) (Φ : Exit → St → Prop) (L0 : St → Prop) (s : St) : Prop :=
  @sOp (some 18) (xBin .add false (s.τ 8) (.int .i64 1) s.H) s <| .mk fun s =>
  @sOp (some 8) (xMov (s.τ 18) s.H) s <| .mk fun s =>
  L0 s
def W114_b4 (P : Program) (Φ : Exit → St → Prop) (L0 : St → Prop) (s : St) : Prop :=
  @sOp (some 10) (xMov (s.τ 8) s.H) s <| .mk fun s =>
  @sOp (some 5) (xMov (s.τ 10) s.H) s <| .mk fun s =>
  @sOp (some 11) (xMov (s.τ 1) s.H) s <| .mk fun s =>
  @sOp (some 12) (xMov (s.τ 0) s.H) s <| .mk fun s =>
  @sOp (some 13) (xMov (s.τ 5) s.H) s <| .mk fun s =>
  @sOp (some 14) (xIx 1 (s.τ 12) (s.τ 13) s.H) s <| .mk fun s =>
  @sOp (some 15) (xLoad 1 false (s.τ 14) s.H) s <| .mk fun s =>
  @sOp (some 16) (xBin .eql false (s.τ 11) (s.τ 15) s.H) s <| .mk fun s =>
  @sIf (s.τ 16) ⟨W114_b2 P Φ L0 s⟩ ⟨W114_b3 P Φ L0 s⟩
def W114_l5 (P : Program) (Φ : Exit → St → Prop) (L0 : St → Prop) (s : St) : Prop :=
  @sOp (some 9) (xBin .lss false (s.τ 8) (s.τ 7) s.H) s <| .mk fun s =>
  @sIf (s.τ 9) ⟨W114_b4 P Φ L0 s⟩ ⟨W114_k1 P Φ s⟩
def W114 (P : Program) (Φ : Exit → St → Prop) (s : St) : Prop :=
  @sOp (some 4) (xMov (.int .i64 0) s.H) s <| .mk fun s =>
  @sOp (some 6) (xMov (s.τ 0) s.H) s <| .mk fun s =>
  @sOp (some 7) (xLen (s.τ 6) s.H) s <| .mk fun s =>
  @sOp (some 8) (xMov (.int .i64 0) s.H) s <| .mk fun s =>
  @sLoop s ⟨fun L0 s => W114_l5 P Φ L0 s⟩
theorem W114_rs (τ : Nat → AV) (H : Heap) : resV Try.prog τ H [.tmp 4] = some (τ 4) := by kernel_rfl
theorem W114_eq (Φ : Exit → St → Prop) (s : St) : awp Try.prog (Try.f114.body.getD .skip) Φ s = W114 Try.prog Φ s := by kernel_rfl

-- 115 "(*penance/penanceref4.may).both"
def W115_b1 (P : Program) (Φ : Exit → St → Prop) (s : St) : Prop :=
  @sOp (some 4) (xMov (.bool false) s.H) s <| .mk fun s =>
  @sOp (some 5) (xMov (.bool false) s.H) s <| .mk fun s =>
  Φ .ret s
def W115_b2 (P : Program) (Φ : Exit → St → Prop) (s : St) : Prop :=
  @sOp (some 4) (xMov (.bool false) s.H) s <| .mk fun s =>
  @sOp (some 5) (xMov (.bool true) s.H) s <| .mk fun s =>
  Φ .ret s
def W115_b3 (P : Program) (Φ : Exit → St → Prop) (s : St) : Prop :=
  @sOp (some 4) (xMov (.bool true) s.H) s <| .mk fun s =>
  @sOp (some 5) (xMov (.bool true) s.H) s <| .mk fun s =>
  Φ .ret s
def W115_c4 (P : Program) (Φ : Exit → St → Prop) (s : St) : Prop :=
  @sOp (some 50) (xPick (s.τ 47) (.bool true) (s.τ 49) s.H) s <| .mk fun s =>
  @sOp (some 4) (xMov (s.τ 50) s.H) s <| .mk fun s =>
  @sOp (some 5) (xMov (.bool false) s.H) s <| .mk fun s =>
  Φ .ret s
def W115_c5 (P : Program) (Φ : Exit → St → Prop) (s : St) : Prop :=
  @sGrd (guardOf (s.τ 47) false) (some 49) s ⟨fun s K => @sOp (some 49) (xLoad 1 false (s.τ 48) s.H) s ⟨K⟩⟩ ⟨W115_c4 P Φ⟩
def W115_b6 (P : Program) (Φ : Exit → St → Prop) (s : St) : Prop :=
  @sOp (some 45) (xIxA 2 1 (s.τ 6) (.int .i64 0) s.H) s <| .mk fun s =>
  @sOp (some 46) (xLoad 1 false (s.τ 45) s.H) s <| .mk fun s =>
  @sOp (some 47) (xMov (s.τ 46) s.H) s <| .mk fun s =>
  @sGrd (guardOf (s.τ 47) false) (some 48) s ⟨fun s K => @sOp (some 48) (xIxA 2 1 (s.τ 7) (.int .i64 0) s.H) s ⟨K⟩⟩ ⟨W115_c5 P Φ⟩
def W115_c7 (P : Program) (Φ : Exit → St → Prop) (s : St) : Prop :=
  @sOp (some 65) (xPick (s.τ 62) (.bool true) (s.τ 64) s.H) s <| .mk fun s =>
  @sOp (some 4) (xMov (s.τ 59) s.H) s <| .mk fun s =>
  @sOp (some 5) (xMov (s.τ 65) s.H) s <| .mk fun s =>
  Φ .ret s
def W115_c8 (P : Program) (Φ : Exit → St → Prop) (s : St) : Prop :=
  @sGrd (guardOf (s.τ 62) false) (some 64) s ⟨fun s K => @sOp (some 64) (xLoad 1 false (s.τ 63) s.H) s ⟨K⟩⟩ ⟨W115_c7 P Φ⟩
def W115_c9 (P : Program) (Φ : Exit → St → Prop) (s : St) : Prop :=
  @sOp (some 59) (xPick (s.τ 56) (.bool true) (s.τ 58) s.H) s <| .mk fun s =>
  @sOp (some 60) (xIxA 2 1 (s.τ 7) (.int .i64 0) s.H) s <| .mk fun s =>
  @sOp (some 61) (xLoad 1 false (s.τ 60) s.H) s <| .mk fun s =>
  @sOp (some 62) (xMov (s.τ 61) s.H) s <| .mk fun s =>
  @sGrd (guardOf (s.τ 62) false) (some 63) s ⟨fun s K => @sOp (some 63) (xIxA 2 1 (s.τ 7) (.int .i64 1) s.H) s ⟨K⟩⟩ ⟨W115_c8 P Φ⟩
def W115_c10 (P : Program) (Φ : Exit → St → Prop) (s : St) : Prop :=
  @sGrd (guardOf (s.τ 56) false) (some 58) s ⟨fun s K => @sOp (some 58) (xLoad 1 false (s.τ 57) s.H) s ⟨K⟩⟩ ⟨W115_c9 P Φ⟩
def W115_b11 (P : Program) (Φ : Exit → St → Prop) (s : St) : Prop :=
  @sOp (some 54) (xIxA 2 1 (s.τ 6) (.int .i64 0) s.H) s <| .mk fun s =>
  @sOp (some 55) (xLoad 1 false (s.τ 54) s.H) s <| .mk fun s =>
  @sOp (some 56) (xMov (s.τ 55) s.H) s <| .mk fun s =>
  @sGrd (guardOf (s.τ 56) false) (some 57) s ⟨fun s K => @sOp (some 57) (xIxA 2 1 (s.τ 6) (.int .i64 1) s.H) s ⟨K⟩⟩ ⟨W115_c10 P Φ⟩
def W115_c12 (P : Program) (Φ : Exit → St → Prop) (s : St) : Prop :=
  @sOp (some 79) (xPick (s.τ 76) (.bool true) (s.τ 78) s.H) s <| .mk fun s =>
  @sOp (some 4) (xMov (s.τ 73) s.H) s <| .mk fun s =>
  @sOp (some 5) (xMov (s.τ 79) s.H) s <| .mk fun s =>
  Φ .ret s
def W115_c13 (P : Program) (Φ : Exit → St → Prop) (s : St) : Prop :=
  @sGrd (guardOf (s.τ 76) false) (some 78) s ⟨fun s K => @sOp (some 78) (xLoad 1 false (s.τ 77) s.H) s ⟨K⟩⟩ ⟨W115_c12 P Φ⟩
def W115_c14 (P : Program) (Φ : Exit → St → Prop) (s : St) : Prop :=
  @sOp (some 73) (xPick (s.τ 70) (s.τ 72) (.bool false) s.H) s <| .mk fun s =>
  @sOp (some 74) (xIxA 2 1 (s.τ 7) (.int .i64 0) s.H) s <| .mk fun s =>
  @sOp (some 75) (xLoad 1 false (s.τ 74) s.H) s <| .mk fun s =>
  @sOp (some 76) (xMov (s.τ 75) s.H) s <| .mk fun s =>
  @sGrd (guardOf (s.τ 76) false) (some 77) s ⟨fun s K => @sOp (some 77) (xIxA 2 1 (s.τ 7) (.int .i64 1) s.H) s ⟨K⟩⟩ ⟨W115_c13 P Φ⟩
def W115_c15 (P : Program) (Φ : Exit → St → Prop) (s : St) : Prop :=
  @sGrd (guardOf (s.τ 70) true) (some 72) s ⟨fun s K => @sOp (some 72) (xLoad 1 false (s.τ 71) s.H) s ⟨K⟩⟩ ⟨W115_c14 P Φ⟩
def W115_b16 (P : Program) (Φ : Exit → St → Prop) (s : St) : Prop :=
  @sOp (some 68) (xIxA 2 1 (s.τ 6) (.int .i64 0) s.H) s <| .mk fun s =>
  @sOp (some 69) (xLoad 1 false (s.τ 68) s.H) s <| .mk fun s =>
  @sOp (some 70) (xMov (s.τ 69) s.H) s <| .mk fun s =>
  @sGrd (guardOf (s.τ 70) true) (some 71) s ⟨fun s K => @sOp (some 71) (xIxA 2 1 (s.τ 6) (.int .i64 1) s.H) s ⟨K⟩⟩ ⟨W115_c15 P Φ⟩
def W115_c17 (P : Program) (Φ : Exit → St → Prop) (s : St) : Prop :=
  @sOp (some 97) (xPick (s.τ 90) (.bool true) (s.τ 96) s.H) s <| .mk fun s =>
  @sOp (some 4) (xMov (s.τ 87) s.H) s <| .mk fun s =>
  @sOp (some 5) (xMov (s.τ 97) s.H) s <| .mk fun s =>
  Φ .ret s
def W115_c18 (P : Program) (Φ : Exit → St → Prop) (s : St) : Prop :=
  @sGrd (guardOf (s.τ 90) false) (some 96) s ⟨fun s K => @sOp (some 96) (xPick (s.τ 93) (s.τ 95) (.bool false) s.H) s ⟨K⟩⟩ ⟨W115_c17 P Φ⟩
def W115_c19 (P : Program) (Φ : Exit → St → Prop) (s : St) : Prop :=
  @sGrd (guardOf (s.τ 93) true) (some 95) s ⟨fun s K => @sOp (some 95) (xLoad 1 false (s.τ 94) s.H) s ⟨K⟩⟩ ⟨W115_c18 P Φ⟩
def W115_c20 (P : Program) (Φ : Exit → St → Prop) (s : St) : Prop :=
  @sGrd (guardOf (s.τ 93) true) (some 94) s ⟨fun s K => @sOp (some 94) (xIxA 2 1 (s.τ 7) (.int .i64 1) s.H) s ⟨K⟩⟩ ⟨W115_c19 P Φ⟩
def W115_c21 (P : Program) (Φ : Exit → St → Prop) (s : St) : Prop :=
  @sGrd (guardOf (s.τ 90) false) (some 93) s ⟨fun s K => @sOp (some 93) (xMov (s.τ 92) s.H) s ⟨K⟩⟩ ⟨W115_c20 P Φ⟩
def W115_c22 (P : Program) (Φ : Exit → St → Prop) (s : St) : Prop :=
  @sGrd (guardOf (s.τ 90) false) (some 92) s ⟨fun s K => @sOp (some 92) (xLoad 1 false (s.τ 91) s.H) s ⟨K⟩⟩ ⟨W115_c21 P Φ⟩
def W115_c23 (P : Program) (Φ : Exit → St → Prop) (s : St) : Prop :=
  @sOp (some 87) (xPick (s.τ 84) (s.τ 86) (.bool false) s.H) s <| .mk fun s =>
  @sOp (some 88) (xIxA 2 1 (s.τ 7) (.int .i64 0) s.H) s <| .mk fun s =>
  @sOp (some 89) (xLoad 1 false (s.τ 88) s.H) s <| .mk fun s =>
  @sOp (some 90) (xMov (s.τ 89) s.H) s <| .mk fun s =>
  @sGrd (guardOf (s.τ 90) false) (some 91) s ⟨fun s K => @sOp (some 91) (xIxA 2 1 (s.τ 6) (.int .i64 0) s.H) s ⟨K⟩⟩ ⟨W115_c22 P Φ⟩
def W115_c24 (P : Program) (Φ : Exit → St → Prop) (s : St) : Prop :=
  @sGrd (guardOf (s.τ 84) true) (some 86) s ⟨fun s K => @sOp (some 86) (xLoad 1 false (s.τ 85) s.H) s ⟨K⟩⟩ ⟨W115_c23 P Φ⟩
def W115_b25 (P : Program) (Φ : Exit → St → Prop) (s : St) : Prop :=
  @sOp (some 82) (xIxA 2 1 (s.τ 6) (.int .i64 0) s.H) s <| .mk fun s =>
  @sOp (some 83) (xLoad 1 false (s.τ 82) s.H) s <| .mk fun s =>
  @sOp (some 84) (xMov (s.τ 83) s.H) s <| .mk fun s =>
  @sGrd (guardOf (s.τ 84) true) (some 85) s ⟨fun s K => @sOp (some 85) (xIxA 2 1 (s.τ 6) (.int .i64 1) s.H) s ⟨K⟩⟩ ⟨W115_c24 P Φ⟩
def W115_c26 (P : Program) (Φ : Exit → St → Prop) (s : St) : Prop :=
  @sOp (some 128) (xPick (s.τ 120) (s.τ 127) (.bool false) s.H) s <| .mk fun s =>
  @sOp (some 4) (xMov (s.τ 117) s.H) s <| .mk fun s =>
  @sOp (some 5) (xMov (s.τ 128) s.H) s <| .mk fun s =>
  Φ .ret s
def W115_c27 (P : Program) (Φ : Exit → St → Prop) (s : St) : Prop :=
  @sGrd (guardOf (s.τ 120) true) (some 127) s ⟨fun s K => @sOp (some 127) (xLoad 1 false (s.τ 126) s.H) s ⟨K⟩⟩ ⟨W115_c26 P Φ⟩
def W115_c28 (P : Program) (Φ : Exit → St → Prop) (s : St) : Prop :=
  @sGrd (guardOf (s.τ 120) true) (some 126) s ⟨fun s K => @sOp (some 126) (xIx 1 (s.τ 124) (s.τ 125) s.H) s ⟨K⟩⟩ ⟨W115_c27 P Φ⟩
def W115_c29 (P : Program) (Φ : Exit → St → Prop) (s : St) : Prop :=
  @sGrd (guardOf (s.τ 120) true) (some 125) s ⟨fun s K => @sOp (some 125) (xMov (s.τ 9) s.H) s ⟨K⟩⟩ ⟨W115_c28 P Φ⟩
def W115_c30 (P : Program) (Φ : Exit → St → Prop) (s : St) : Prop :=
  @sGrd (guardOf (s.τ 120) true) (some 124) s ⟨fun s K => @sOp (some 124) (xLoad 1 false (s.τ 123) s.H) s ⟨K⟩⟩ ⟨W115_c29 P Φ⟩
def W115_c31 (P : Program) (Φ : Exit → St → Prop) (s : St) : Prop :=
  @sGrd (guardOf (s.τ 120) true) (some 123) s ⟨fun s K => @sOp (some 123) (xFld 2 (s.τ 122) s.H) s ⟨K⟩⟩ ⟨W115_c30 P Φ⟩
def W115_c32 (P : Program) (Φ : Exit → St → Prop) (s : St) : Prop :=
  @sGrd (guardOf (s.τ 120) true) (some 122) s ⟨fun s K => @sOp (some 122) (xNil (s.τ 121) s.H) s ⟨K⟩⟩ ⟨W115_c31 P Φ⟩
def W115_c33 (P : Program) (Φ : Exit → St → Prop) (s : St) : Prop :=
  @sOp (some 117) (xPick (s.τ 109) (s.τ 116) (.bool false) s.H) s <| .mk fun s =>
  @sOp (some 118) (xMov (s.τ 9) s.H) s <| .mk fun s =>
  @sOp (some 119) (xBin .geq false (s.τ 118) (.int .i64 0) s.H) s <| .mk fun s =>
  @sOp (some 120) (xMov (s.τ 119) s.H) s <| .mk fun s =>
  @sGrd (guardOf (s.τ 120) true) (some 121) s ⟨fun s K => @sOp (some 121) (xMov (s.τ 0) s.H) s ⟨K⟩⟩ ⟨W115_c32 P Φ⟩
def W115_c34 (P : Program) (Φ : Exit → St → Prop) (s : St) : Prop :=
  @sGrd (guardOf (s.τ 109) true) (some 116) s ⟨fun s K => @sOp (some 116) (xLoad 1 false (s.τ 115) s.H) s ⟨K⟩⟩ ⟨W115_c33 P Φ⟩
def W115_c35 (P : Program) (Φ : Exit → St → Prop) (s : St) : Prop :=
  @sGrd (guardOf (s.τ 109) true) (some 115) s ⟨fun s K => @sOp (some 115) (xIx 1 (s.τ 113) (s.τ 114) s.H) s ⟨K⟩⟩ ⟨W115_c34 P Φ⟩
def W115_c36 (P : Program) (Φ : Exit → St → Prop) (s : St) : Prop :=
  @sGrd (guardOf (s.τ 109) true) (some 114) s ⟨fun s K => @sOp (some 114) (xMov (s.τ 9) s.H) s ⟨K⟩⟩ ⟨W115_c35 P Φ⟩
def W115_c37 (P : Program) (Φ : Exit → St → Prop) (s : St) : Prop :=
  @sGrd (guardOf (s.τ 109) true) (some 113) s ⟨fun s K => @sOp (some 113) (xLoad 1 false (s.τ 112) s.H) s ⟨K⟩⟩ ⟨W115_c36 P Φ⟩
def W115_c38 (P : Program) (Φ : Exit → St → Prop) (s : St) : Prop :=
  @sGrd (guardOf (s.τ 109) true) (some 112) s ⟨fun s K => @sOp (some 112) (xFld 1 (s.τ 111) s.H) s ⟨K⟩⟩ ⟨W115_c37 P Φ⟩
def W115_c39 (P : Program) (Φ : Exit → St → Prop) (s : St) : Prop :=
  @sGrd (guardOf (s.τ 109) true) (some 111) s ⟨fun s K => @sOp (some 111) (xNil (s.τ 110) s.H) s ⟨K⟩⟩ ⟨W115_c38 P Φ⟩
def W115_c40 (P : Program) (Φ : Exit → St → Prop) (s : St) : Prop :=
  @sOp (some 9) (xMov (s.τ 106) s.H) s <| .mk fun s =>
  @sOp (some 107) (xMov (s.τ 9) s.H) s <| .mk fun s =>
  @sOp (some 108) (xBin .geq false (s.τ 107) (.int .i64 0) s.H) s <| .mk fun s =>
  @sOp (some 109) (xMov (s.τ 108) s.H) s <| .mk fun s =>
  @sGrd (guardOf (s.τ 109) true) (some 110) s ⟨fun s K => @sOp (some 110) (xMov (s.τ 0) s.H) s ⟨K⟩⟩ ⟨W115_c39 P Φ⟩
def W115_b41 (P : Program) (Φ : Exit → St → Prop) (s : St) : Prop :=
  @sOp (some 100) (xMov (s.τ 0) s.H) s <| .mk fun s =>
  @sOp (some 101) (xNil (s.τ 100) s.H) s <| .mk fun s =>
  @sOp (some 102) (xFld 0 (s.τ 101) s.H) s <| .mk fun s =>
  @sOp (some 103) (xLoad 1 false (s.τ 102) s.H) s <| .mk fun s =>
  @sOp (some 104) (xFld 1 (s.τ 3) s.H) s <| .mk fun s =>
  @sOp (some 105) (xLoad 1 false (s.τ 104) s.H) s <| .mk fun s =>
  @sCall0 P (.func 91 []) [(s.τ 103), (s.τ 105)] (some 106) s ⟨W115_c40 P Φ⟩
def W115_b42 (P : Program) (Φ : Exit → St → Prop) (s : St) : Prop :=
  @sOp (some 4) (xMov (.bool true) s.H) s <| .mk fun s =>
  @sOp (some 5) (xMov (.bool false) s.H) s <| .mk fun s =>
  Φ .ret s
def W115_b43 (P : Program) (Φ : Exit → St → Prop) (s : St) : Prop :=
  @sOp (some 99) (xBin .eql false (s.τ 36) (.int .i64 13) s.H) s <| .mk fun s =>
  @sOp (some 98) (xMov (s.τ 99) s.H) s <| .mk fun s =>
  @sIf (s.τ 98) ⟨W115_b41 P Φ s⟩ ⟨W115_b42 P Φ s⟩
def W115_b44 (P : Program) (Φ : Exit → St → Prop) (s : St) : Prop :=
  @sOp (some 81) (xBin .eql false (s.τ 36) (.int .i64 12) s.H) s <| .mk fun s =>
  @sOp (some 80) (xMov (s.τ 81) s.H) s <| .mk fun s =>
  @sIf (s.τ 80) ⟨W115_b25 P Φ s⟩ ⟨W115_b43 P Φ s⟩
def W115_b45 (P : Program) (Φ : Exit → St → Prop) (s : St) : Prop :=
  @sOp (some 67) (xBin .eql false (s.τ 36) (.int .i64 11) s.H) s <| .mk fun s =>
  @sOp (some 66) (xMov (s.τ 67) s.H) s <| .mk fun s =>
  @sIf (s.τ 66) ⟨W115_b16 P Φ s⟩ ⟨W115_b44 P Φ s⟩
def W115_k46 (P : Program) (Φ : Exit → St → Prop) (s : St) : Prop :=
  @sIf (s.τ 51) ⟨W115_b11 P Φ s⟩ ⟨W115_b45 P Φ s⟩
def W115_b47 (P : Program) (Φ : Exit → St → Prop) (s : St) : Prop :=
  @sOp (some 53) (xBin .eql false (s.τ 36) (.int .i64 10) s.H) s <| .mk fun s =>
  @sOp (some 51) (xMov (s.τ 53) s.H) s <| .mk fun s =>
  W115_k46 P Φ s
def W115_b48 (P : Program) (Φ : Exit → St → Prop) (s : St) : Prop :=
  @sOp (some 52) (xBin .eql false (s.τ 36) (.int .i64 9) s.H) s <| .mk fun s =>
  @sOp (some 51) (xMov (s.τ 52) s.H) s <| .mk fun s =>
  @sIf (s.τ 51) ⟨W115_k46 P Φ s⟩ ⟨W115_b47 P Φ s⟩
def W115_b49 (P : Program) (Φ : Exit → St → Prop) (s : St) : Prop :=
  @sOp (some 44) (xBin .eql false (s.τ 36) (.int .i64 7) s.H) s <| .mk fun s =>
  @sOp (some 43) (xMov (s.τ 44) s.H) s <| .mk fun s =>
  @sIf (s.τ 43) ⟨W115_b6 P Φ s⟩ ⟨W115_b48 P Φ s⟩
def W115_b50 (P : Program) (Φ : Exit → St → Prop) (s : St) : Prop :=
  @sOp (some 42) (xBin .eql false (s.τ 36) (.int .i64 4) s.H) s <| .mk fun s =>
  @sOp (some 41) (xMov (s.τ 42) s.H) s <| .mk fun s =>
  @sIf (s.τ 41) ⟨W115_b3 P Φ s⟩ ⟨W115_b49 P Φ s⟩
def W115_b51 (P : Program) (Φ : Exit → St → Prop) (s : St) : Prop :=
  @sOp (some 40) (xBin .eql false (s.τ 36) (.int .i64 8) s.H) s <| .mk fun s =>
  @sOp (some 39) (xMov (s.τ 40) s.H) s <| .mk fun s =>
  @sIf (s.τ 39) ⟨W115_b2 P Φ s⟩ ⟨W115_b50 P Φ s⟩
def W115_k52 (P : Program) (Φ : Exit → St → Prop) (s : St) : Prop :=
  @sOp (some 35) (xFld 0 (s.τ 3) s.H) s <| .mk fun s =>
  @sOp (some 36) (xLoad 1 false (s.τ 35) s.H) s <| .mk fun s =>
  @sOp (some 38) (xBin .eql false (s.τ 36) (.int .i64 1) s.H) s <| .mk fun s =>
  @sOp (some 37) (xMov (s.τ 38) s.H) s <| .mk fun s =>
  @sIf (s.τ 37) ⟨W115_b1 P Φ s⟩ ⟨W115_b51 P Φ s⟩
def W115_c53 (P : Program) (Φ : Exit → St → Prop) (L0 : St → Prop) (s : St) : Prop :=
  @sOp (some 21) (xMov (s.τ 30) s.H) s <| .mk fun s =>
  @sOp (some 31) (xExt (s.τ 21) 0 s.H) s <| .mk fun s =>
  @sOp (some 32) (xExt (s.τ 21) 1 s.H) s <| .mk fun s =>
  @sOp (some 33) (xIxA 2 1 (s.τ 6) (s.τ 22) s.H) s <| .mk fun s =>
  @sOp none (xStore 1 (s.τ 33) (s.τ 31) s.H) s <| .mk fun s =>
  @sOp (some 34) (xIxA 2 1 (s.τ 7) (s.τ 23) s.H) s <| .mk fun s =>
  @sOp none (xStore 1 (s.τ 34) (s.τ 32) s.H) s <| .mk fun s =>
  @sOp (some 19) (xMov (s.τ 8) s.H) s <| .mk fun s =>
  @sOp (some 20) (xBin .add false (s.τ 19) (.int .i64 1) s.H) s <| .mk fun s =>
  @sOp (some 8) (xMov (s.τ 20) s.H) s <| .mk fun s =>
  L0 s
def W115_b54 (P : Program) (Φ : Exit → St → Prop) (L0 : St → Prop) (s : St) : Prop :=
  @sOp (some 22) (xMov (s.τ 8) s.H) s <| .mk fun s =>
  @sOp (some 23) (xMov (s.τ 8) s.H) s <| .mk fun s =>
  @sOp (some 24) (xMov (s.τ 0) s.H) s <| .mk fun s =>
  @sOp (some 25) (xFld 7 (s.τ 3) s.H) s <| .mk fun s =>
  @sOp (some 26) (xLoad 1 false (s.τ 25) s.H) s <| .mk fun s =>
  @sOp (some 27) (xMov (s.τ 8) s.H) s <| .mk fun s =>
  @sOp (some 28) (xIx 8 (s.τ 26) (s.τ 27) s.H) s <| .mk fun s =>
  @sOp (some 29) (xLoad 8 true (s.τ 28) s.H) s <| .mk fun s =>
  @sCall P (.func 115 []) [(s.τ 24), (s.τ 29)] (some 30) s ⟨W115_c53 P Φ L0⟩
def W115_c55 (P : Program) (Φ : Exit → St → Prop) (L0 : St → Prop) (s : St) : Prop :=
  @sOp (some 18) (xPick (s.τ 15) (s.τ 17) (.bool false) s.H) s <| .mk fun s =>
  @sIf (s.τ 18) ⟨W115_b54 P Φ L0 s⟩ ⟨W115_k52 P Φ s⟩
def W115_c56 (P : Program) (Φ : Exit → St → Prop) (L0 : St → Prop) (s : St) : Prop :=
  @sGrd (guardOf (s.τ 15) true) (some 17) s ⟨fun s K => @sOp (some 17) (xBin .lss false (s.τ 16) (.int .i64 2) s.H) s ⟨K⟩⟩ ⟨W115_c55 P Φ L0⟩
def W115_l57 (P : Program) (Φ : Exit → St → Prop) (L0 : St → Prop) (s : St) : Prop :=
  @sOp (some 10) (xMov (s.τ 8) s.H) s <| .mk fun s =>
  @sOp (some 11) (xFld 7 (s.τ 3) s.H) s <| .mk fun s =>
  @sOp (some 12) (xLoad 1 false (s.τ 11) s.H) s <| .mk fun s =>
  @sOp (some 13) (xLen (s.τ 12) s.H) s <| .mk fun s =>
  @sOp (some 14) (xBin .lss false (s.τ 10) (s.τ 13) s.H) s <| .mk fun s =>
  @sOp (some 15) (xMov (s.τ 14) s.H) s <| .mk fun s =>
  @sGrd (guardOf (s.τ 15) true) (some 16) s ⟨fun s K => @sOp (some 16) (xMov (s.τ 8) s.H) s ⟨K⟩⟩ ⟨W115_c56 P Φ L0⟩
def W115 (P : Program) (Φ : Exit → St → Prop) (s : St) : Prop :=
  @sOp (some 3) (xBox 3 73 (s.τ 1) s.H) s <| .mk fun s =>
  @sOp (some 4) (xMov (.bool false) s.H) s <| .mk fun s =>
  @sOp (some 5) (xMov (.bool false) s.H) s <| .mk fun s =>
  @sOp (some 6) (xAlloc 6 160 [.bool false, .bool false] s.H) s <| .mk fun s =>
  @sOp (some 7) (xAlloc 7 160 [.bool false, .bool false] s.H) s <| .mk fun s =>
  @sOp (some 8) (xMov (.int .i64 0) s.H) s <| .mk fun s =>
  @sLoop s ⟨fun L0 s => W115_l57 P Φ L0 s⟩
theorem W115_rs (τ : Nat → AV) (H : Heap) : resV Try.prog τ H [.tmp 4, .tmp 5] = ob (ob (some (τ 4)) fun v => ob (ob (some (τ 5)) fun v => ob (some []) fun vs => some (v :: vs)) fun vs => some (v :: vs)) fun vs => some (.tup vs) := by kernel_rfl
theorem W115_eq (Φ : Exit → St → Prop) (s : St) : awp Try.prog (Try.f115.body.getD .skip) Φ s = W115 Try.prog Φ s := by kernel_rfl

end Go.Proofs.Ytkagfenchknjjaa
