import Derived.Test.YtkagfenchknjjaaGA5
import Derived.Test.YtkagfenchknjjaaProg
import Derived.KernelRfl
set_option linter.unusedVariables false
namespace Go.Proofs.Ytkagfenchknjjaa
open Go Go.Am

end Go.Proofs.Ytkagfenchknjjaa
set_option linter.unusedVariables false
namespace Go.Proofs.Ytkagfenchknjjaa
open Go Go.Am

end Go.Proofs.Ytkagfenchknjjaa
set_option linter.unusedVariables false
namespace Go.Proofs.Ytkagfenchknjjaa
open Go Go.Am
-- 101 "(penance/penancelaw2.Raw).Make"
def W101_c1 (P : Program) (Φ : Exit → St → Prop) (s : St) : Prop :=
  @sOp (some 27) (xIx 1 (s.τ 23) (s.τ 26) s.H) s <| .mk fun s =>
  @sOp (some 28) (xLoad 1 false (s.τ 27) s.H) s <| .mk fun s =>
  @sOp (some 29) (xBuild [.int .i64 0, .int .i64 0, .str ⟨#[]⟩, .nils] [(0, 1, (.int .i64 1)), (1, 1, (s.τ 28))] s.H) s <| .mk fun s =>
  @sOp none (xStore 4 (s.τ 4) (s.τ 29) s.H) s <| .mk fun s =>
  Φ .ret s
def W101_b2 (P : Program) (Φ : Exit → St → Prop) (s : St) : Prop :=
  @sOp (some 23) (xLit 1 8 [.int .i64 0] [(0, (.int .i64 0)), (1, (.int .i64 1)), (2, (.int .i64 2)), (3, (.int .i64 7)), (4, (.int .i64 99)), (5, (.int .i64 999999999999999999)), (6, (.int .i64 5)), (7, (.int .i64 3))] s.H) s <| .mk fun s =>
  @sOp (some 24) (xFld 1 (s.τ 2) s.H) s <| .mk fun s =>
  @sOp (some 25) (xLoad 1 false (s.τ 24) s.H) s <| .mk fun s =>
  @sCall P (.func 110 []) [(s.τ 25), (.int .i64 8)] (some 26) s ⟨W101_c1 P Φ⟩
def W101_c3 (P : Program) (Φ : Exit → St → Prop) (s : St) : Prop :=
  @sOp (some 44) (xIx 1 (s.τ 38) (s.τ 43) s.H) s <| .mk fun s =>
  @sOp (some 45) (xLoad 1 false (s.τ 44) s.H) s <| .mk fun s =>
  @sOp (some 46) (xBuild [.int .i64 0, .int .i64 0, .str ⟨#[]⟩, .nils] [(0, 1, (.int .i64 2)), (2, 1, (s.τ 45))] s.H) s <| .mk fun s =>
  @sOp none (xStore 4 (s.τ 4) (s.τ 46) s.H) s <| .mk fun s =>
  Φ .ret s
def W101_b4 (P : Program) (Φ : Exit → St → Prop) (s : St) : Prop :=
  @sOp (some 38) (xMov (s.τ 1) s.H) s <| .mk fun s =>
  @sOp (some 39) (xFld 1 (s.τ 2) s.H) s <| .mk fun s =>
  @sOp (some 40) (xLoad 1 false (s.τ 39) s.H) s <| .mk fun s =>
  @sOp (some 41) (xMov (s.τ 1) s.H) s <| .mk fun s =>
  @sOp (some 42) (xLen (s.τ 41) s.H) s <| .mk fun s =>
  @sCall P (.func 110 []) [(s.τ 40), (s.τ 42)] (some 43) s ⟨W101_c3 P Φ⟩
def W101_c5 (P : Program) (Φ : Exit → St → Prop) (s : St) : Prop :=
  @sOp (some 53) (xBuild [.int .i64 0, .int .i64 0, .str ⟨#[]⟩, .nils] [(0, 1, (.int .i64 2)), (1, 1, (s.τ 52))] s.H) s <| .mk fun s =>
  @sOp none (xStore 4 (s.τ 4) (s.τ 53) s.H) s <| .mk fun s =>
  Φ .ret s
def W101_b6 (P : Program) (Φ : Exit → St → Prop) (s : St) : Prop :=
  @sOp (some 50) (xFld 1 (s.τ 2) s.H) s <| .mk fun s =>
  @sOp (some 51) (xLoad 1 false (s.τ 50) s.H) s <| .mk fun s =>
  @sCall P (.func 110 []) [(s.τ 51), (.int .i64 3)] (some 52) s ⟨W101_c5 P Φ⟩
def W101_c7 (P : Program) (Φ : Exit → St → Prop) (s : St) : Prop :=
  @sOp (some 60) (xLit 4 1 [.int .i64 0, .int .i64 0, .str ⟨#[]⟩, .nils] [(0, (s.τ 59))] s.H) s <| .mk fun s =>
  @sOp (some 61) (xBuild [.int .i64 0, .int .i64 0, .str ⟨#[]⟩, .nils] [(0, 1, (.int .i64 3)), (3, 1, (s.τ 60))] s.H) s <| .mk fun s =>
  @sOp none (xStore 4 (s.τ 4) (s.τ 61) s.H) s <| .mk fun s =>
  Φ .ret s
def W101_b8 (P : Program) (Φ : Exit → St → Prop) (s : St) : Prop :=
  @sOp (some 57) (xLoad 3 true (s.τ 2) s.H) s <| .mk fun s =>
  @sOp (some 58) (xMov (s.τ 1) s.H) s <| .mk fun s =>
  @sCall P (.func 111 []) [(s.τ 57), (.int .i64 0), (s.τ 58)] (some 59) s ⟨W101_c7 P Φ⟩
def W101_c9 (P : Program) (Φ : Exit → St → Prop) (s : St) : Prop :=
  @sOp (some 68) (xLit 4 1 [.int .i64 0, .int .i64 0, .str ⟨#[]⟩, .nils] [(0, (s.τ 67))] s.H) s <| .mk fun s =>
  @sOp (some 69) (xBuild [.int .i64 0, .int .i64 0, .str ⟨#[]⟩, .nils] [(0, 1, (.int .i64 4)), (3, 1, (s.τ 68))] s.H) s <| .mk fun s =>
  @sOp none (xStore 4 (s.τ 4) (s.τ 69) s.H) s <| .mk fun s =>
  Φ .ret s
def W101_b10 (P : Program) (Φ : Exit → St → Prop) (s : St) : Prop :=
  @sOp (some 65) (xLoad 3 true (s.τ 2) s.H) s <| .mk fun s =>
  @sOp (some 66) (xMov (s.τ 1) s.H) s <| .mk fun s =>
  @sCall P (.func 111 []) [(s.τ 65), (.int .i64 0), (s.τ 66)] (some 67) s ⟨W101_c9 P Φ⟩
def W101_c11 (P : Program) (Φ : Exit → St → Prop) (s : St) : Prop :=
  @sOp (some 18) (xLit 4 2 [.int .i64 0, .int .i64 0, .str ⟨#[]⟩, .nils] [(0, (s.τ 14)), (1, (s.τ 17))] s.H) s <| .mk fun u10 =>
  @sOp (some 19) (xBuild [.int .i64 0, .int .i64 0, .str ⟨#[]⟩, .nils] [(0, 1, (u10.τ 11)), (3, 1, (u10.τ 18))] u10.H) u10 <| .mk fun u11 =>
  @sOp none (xStore 4 (u11.τ 4) (u11.τ 19) u11.H) u11 <| .mk fun s =>
  Φ .ret s
def W101_c12 (P : Program) (Φ : Exit → St → Prop) (u5 : St) (s : St) : Prop :=
  @sChk (compat ([14] ++ (occ (.func 111 []) ++ occL [(u5.τ 12), (.int .i64 0), (u5.τ 13)]), [14] ++ (occ (.func 111 []) ++ occL [(u5.τ 12), (.int .i64 0), (u5.τ 13)])) (occ (s.τ 2), [])) <| .mk <|
  @sOp (some 15) (xLoad 3 true (s.τ 2) s.H) s <| .mk fun u7 =>
  @sOp (some 16) (xMov (u7.τ 1) u7.H) u7 <| .mk fun u8 =>
  @sCall0 P (.func 111 []) [(u8.τ 15), (.int .i64 1), (u8.τ 16)] (some 17) u8 ⟨W101_c11 P Φ⟩
def W101_b13 (P : Program) (Φ : Exit → St → Prop) (s : St) : Prop :=
  @sOp (some 9) (xMov (s.τ 5) s.H) s <| .mk fun u1 =>
  @sOp (some 10) (xBin .add false (.int .i64 5) (u1.τ 9) u1.H) u1 <| .mk fun u2 =>
  @sOp (some 11) (xBin .sub false (u2.τ 10) (.int .i64 11) u2.H) u2 <| .mk fun u3 =>
  @sOp (some 12) (xLoad 3 true (u3.τ 2) u3.H) u3 <| .mk fun u4 =>
  @sOp (some 13) (xMov (u4.τ 1) u4.H) u4 <| .mk fun u5 =>
  @sCall0 P (.func 111 []) [(u5.τ 12), (.int .i64 0), (u5.τ 13)] (some 14) u5 ⟨W101_c12 P Φ u5⟩
def W101_b14 (P : Program) (Φ : Exit → St → Prop) (s : St) : Prop :=
  @sOp (some 63) (xMov (s.τ 5) s.H) s <| .mk fun s =>
  @sOp (some 64) (xBin .eql false (s.τ 63) (.int .i64 10) s.H) s <| .mk fun s =>
  @sOp (some 62) (xMov (s.τ 64) s.H) s <| .mk fun s =>
  @sIf (s.τ 62) ⟨W101_b10 P Φ s⟩ ⟨W101_b13 P Φ s⟩
def W101_b15 (P : Program) (Φ : Exit → St → Prop) (s : St) : Prop :=
  @sOp (some 55) (xMov (s.τ 5) s.H) s <| .mk fun s =>
  @sOp (some 56) (xBin .eql false (s.τ 55) (.int .i64 9) s.H) s <| .mk fun s =>
  @sOp (some 54) (xMov (s.τ 56) s.H) s <| .mk fun s =>
  @sIf (s.τ 54) ⟨W101_b8 P Φ s⟩ ⟨W101_b14 P Φ s⟩
def W101_b16 (P : Program) (Φ : Exit → St → Prop) (s : St) : Prop :=
  @sOp (some 48) (xMov (s.τ 5) s.H) s <| .mk fun s =>
  @sOp (some 49) (xBin .lss false (s.τ 48) (.int .i64 9) s.H) s <| .mk fun s =>
  @sOp (some 47) (xMov (s.τ 49) s.H) s <| .mk fun s =>
  @sIf (s.τ 47) ⟨W101_b6 P Φ s⟩ ⟨W101_b15 P Φ s⟩
def W101_c17 (P : Program) (Φ : Exit → St → Prop) (s : St) : Prop :=
  @sOp (some 37) (xPick (s.τ 33) (s.τ 36) (.bool false) s.H) s <| .mk fun s =>
  @sOp (some 30) (xMov (s.τ 37) s.H) s <| .mk fun s =>
  @sIf (s.τ 30) ⟨W101_b4 P Φ s⟩ ⟨W101_b16 P Φ s⟩
def W101_c18 (P : Program) (Φ : Exit → St → Prop) (s : St) : Prop :=
  @sGrd (guardOf (s.τ 33) true) (some 36) s ⟨fun s K => @sOp (some 36) (xBin .gtr false (s.τ 35) (.int .i64 0) s.H) s ⟨K⟩⟩ ⟨W101_c17 P Φ⟩
def W101_c19 (P : Program) (Φ : Exit → St → Prop) (s : St) : Prop :=
  @sGrd (guardOf (s.τ 33) true) (some 35) s ⟨fun s K => @sOp (some 35) (xLen (s.τ 34) s.H) s ⟨K⟩⟩ ⟨W101_c18 P Φ⟩
def W101_b20 (P : Program) (Φ : Exit → St → Prop) (s : St) : Prop :=
  @sOp (some 31) (xMov (s.τ 5) s.H) s <| .mk fun s =>
  @sOp (some 32) (xBin .lss false (s.τ 31) (.int .i64 9) s.H) s <| .mk fun s =>
  @sOp (some 33) (xMov (s.τ 32) s.H) s <| .mk fun s =>
  @sGrd (guardOf (s.τ 33) true) (some 34) s ⟨fun s K => @sOp (some 34) (xMov (s.τ 1) s.H) s ⟨K⟩⟩ ⟨W101_c19 P Φ⟩
def W101_c21 (P : Program) (Φ : Exit → St → Prop) (s : St) : Prop :=
  @sOp (some 5) (xMov (s.τ 8) s.H) s <| .mk fun s =>
  @sOp (some 21) (xMov (s.τ 5) s.H) s <| .mk fun s =>
  @sOp (some 22) (xBin .lss false (s.τ 21) (.int .i64 4) s.H) s <| .mk fun s =>
  @sOp (some 20) (xMov (s.τ 22) s.H) s <| .mk fun s =>
  @sIf (s.τ 20) ⟨W101_b2 P Φ s⟩ ⟨W101_b20 P Φ s⟩
def W101 (P : Program) (Φ : Exit → St → Prop) (s : St) : Prop :=
  @sOp (some 2) (xBox 2 145 (s.τ 0) s.H) s <| .mk fun s =>
  @sOp (some 4) (xAlloc 4 31 [.int .i64 0, .int .i64 0, .str ⟨#[]⟩, .nils] s.H) s <| .mk fun s =>
  @sOp (some 6) (xFld 0 (s.τ 2) s.H) s <| .mk fun s =>
  @sOp (some 7) (xLoad 1 false (s.τ 6) s.H) s <| .mk fun s =>
  @sCall P (.func 110 []) [(s.τ 7), (.int .i64 24)] (some 8) s ⟨W101_c21 P Φ⟩
theorem W101_rs (τ : Nat → AV) (H : Heap) : resV Try.prog τ H [.cell 4 31] = rdV H 4 true (τ 4) := by kernel_rfl
theorem W101_eq (Φ : Exit → St → Prop) (s : St) : awp Try.prog (Try.f101.body.getD .skip) Φ s = W101 Try.prog Φ s := by kernel_rfl

-- 102 "(*penance/penanceref4.lower).at"
def W102_k1 (P : Program) (Φ : Exit → St → Prop) (s : St) : Prop :=
  @sOp (some 16) (xMov (s.τ 7) s.H) s <| .mk fun s =>
  @sOp (some 6) (xMov (s.τ 16) s.H) s <| .mk fun s =>
  Φ .ret s
def W102_b2 (P : Program) (Φ : Exit → St → Prop) (s : St) : Prop :=
  @sOp (some 13) (xMov (s.τ 0) s.H) s <| .mk fun s =>
  @sOp (some 14) (xNil (s.τ 13) s.H) s <| .mk fun s =>
  @sOp (some 15) (xFld 3 (s.τ 14) s.H) s <| .mk fun s =>
  @sOp none (xStore 1 (s.τ 15) (.bool true) s.H) s <| .mk fun s =>
  W102_k1 P Φ s
def W102_c3 (P : Program) (Φ : Exit → St → Prop) (s : St) : Prop :=
  @sOp (some 7) (xMov (s.τ 10) s.H) s <| .mk fun s =>
  @sOp (some 11) (xMov (s.τ 7) s.H) s <| .mk fun s =>
  @sOp (some 12) (xBin .lss false (s.τ 11) (.int .i64 0) s.H) s <| .mk fun s =>
  @sIf (s.τ 12) ⟨W102_b2 P Φ s⟩ ⟨W102_k1 P Φ s⟩
def W102 (P : Program) (Φ : Exit → St → Prop) (s : St) : Prop :=
  @sOp (some 6) (xMov (.int .i64 0) s.H) s <| .mk fun s =>
  @sOp (some 8) (xMov (s.τ 1) s.H) s <| .mk fun s =>
  @sOp (some 9) (xMov (s.τ 2) s.H) s <| .mk fun s =>
  @sCall P (.func 91 []) [(s.τ 8), (s.τ 9)] (some 10) s ⟨W102_c3 P Φ⟩
theorem W102_rs (τ : Nat → AV) (H : Heap) : resV Try.prog τ H [.tmp 6] = some (τ 6) := by kernel_rfl
theorem W102_eq (Φ : Exit → St → Prop) (s : St) : awp Try.prog (Try.f102.body.getD .skip) Φ s = W102 Try.prog Φ s := by kernel_rfl

-- 103 "(*penance/penanceref4.lower).expr"
def W103_k1 (P : Program) (Φ : Exit → St → Prop) (s : St) : Prop :=
  @sOp (some 43) (xLoad 4 true (s.τ 5) s.H) s <| .mk fun s =>
  @sOp none (xStore 4 (s.τ 4) (s.τ 43) s.H) s <| .mk fun s =>
  Φ .ret s
def W103_c2 (P : Program) (Φ : Exit → St → Prop) (L0 : St → Prop) (u0 : St) (u1 : St) (s : St) : Prop :=
  @sChk (compat (occ (u0.τ 5), []) ([40] ++ occL [(s.τ 39)], [40] ++ occL [(s.τ 39)])) <| .mk <|
  @sChk (compat (occ (u1.τ 31), []) ([40] ++ occL [(s.τ 39)], [40] ++ occL [(s.τ 39)])) <| .mk <|
  @sOp (some 40) (xLit 4 1 [.int .i64 0, .int .i64 0, .str ⟨#[]⟩, .nils] [(0, (s.τ 39))] s.H) s <| .mk fun u10 =>
  @sOp (some 41) (xApp P 31 4 56 (some 41) (u10.τ 32) (u10.τ 40) u10.H) u10 <| .mk fun u11 =>
  @sOp (some 42) (xFld 3 (u11.τ 5) u11.H) u11 <| .mk fun u12 =>
  @sOp none (xStore 1 (u12.τ 42) (u12.τ 41) u12.H) u12 <| .mk fun s =>
  @sOp (some 29) (xMov (s.τ 6) s.H) s <| .mk fun s =>
  @sOp (some 30) (xBin .add false (s.τ 29) (.int .i64 1) s.H) s <| .mk fun s =>
  @sOp (some 6) (xMov (s.τ 30) s.H) s <| .mk fun s =>
  L0 s
def W103_b3 (P : Program) (Φ : Exit → St → Prop) (L0 : St → Prop) (s : St) : Prop :=
  @sOp (some 31) (xFld 3 (s.τ 5) s.H) s <| .mk fun u1 =>
  @sOp (some 32) (xLoad 1 false (u1.τ 31) u1.H) u1 <| .mk fun u2 =>
  @sOp (some 33) (xMov (u2.τ 0) u2.H) u2 <| .mk fun u3 =>
  @sOp (some 34) (xFld 3 (u3.τ 3) u3.H) u3 <| .mk fun u4 =>
  @sOp (some 35) (xLoad 1 false (u4.τ 34) u4.H) u4 <| .mk fun u5 =>
  @sOp (some 36) (xMov (u5.τ 6) u5.H) u5 <| .mk fun u6 =>
  @sOp (some 37) (xIx 4 (u6.τ 35) (u6.τ 36) u6.H) u6 <| .mk fun u7 =>
  @sOp (some 38) (xLoad 4 true (u7.τ 37) u7.H) u7 <| .mk fun u8 =>
  @sChk (compat (occ (s.τ 5), []) ([39] ++ (occ (.func 103 []) ++ occL [(u8.τ 33), (u8.τ 38)]), [39] ++ (occ (.func 103 []) ++ occL [(u8.τ 33), (u8.τ 38)]))) <| .mk <|
  @sChk (compat (occ (u1.τ 31), []) ([39] ++ (occ (.func 103 []) ++ occL [(u8.τ 33), (u8.τ 38)]), [39] ++ (occ (.func 103 []) ++ occL [(u8.τ 33), (u8.τ 38)]))) <| .mk <|
  @sCall0 P (.func 103 []) [(u8.τ 33), (u8.τ 38)] (some 39) u8 ⟨W103_c2 P Φ L0 s u1⟩
def W103_l4 (P : Program) (Φ : Exit → St → Prop) (L0 : St → Prop) (s : St) : Prop :=
  @sOp (some 24) (xMov (s.τ 6) s.H) s <| .mk fun s =>
  @sOp (some 25) (xFld 3 (s.τ 3) s.H) s <| .mk fun s =>
  @sOp (some 26) (xLoad 1 false (s.τ 25) s.H) s <| .mk fun s =>
  @sOp (some 27) (xLen (s.τ 26) s.H) s <| .mk fun s =>
  @sOp (some 28) (xBin .lss false (s.τ 24) (s.τ 27) s.H) s <| .mk fun s =>
  @sIf (s.τ 28) ⟨W103_b3 P Φ L0 s⟩ ⟨W103_k1 P Φ s⟩
def W103_k5 (P : Program) (Φ : Exit → St → Prop) (s : St) : Prop :=
  @sOp (some 6) (xMov (.int .i64 0) s.H) s <| .mk fun s =>
  @sLoop s ⟨fun L0 s => W103_l4 P Φ L0 s⟩
def W103_c6 (P : Program) (Φ : Exit → St → Prop) (s : St) : Prop :=
  @sOp (some 23) (xFld 1 (s.τ 5) s.H) s <| .mk fun s =>
  @sOp none (xStore 1 (s.τ 23) (s.τ 22) s.H) s <| .mk fun s =>
  W103_k5 P Φ s
def W103_b7 (P : Program) (Φ : Exit → St → Prop) (s : St) : Prop :=
  @sOp (some 15) (xMov (s.τ 0) s.H) s <| .mk fun s =>
  @sOp (some 16) (xMov (s.τ 0) s.H) s <| .mk fun s =>
  @sOp (some 17) (xNil (s.τ 16) s.H) s <| .mk fun s =>
  @sOp (some 18) (xFld 0 (s.τ 17) s.H) s <| .mk fun s =>
  @sOp (some 19) (xLoad 1 false (s.τ 18) s.H) s <| .mk fun s =>
  @sOp (some 20) (xFld 2 (s.τ 3) s.H) s <| .mk fun s =>
  @sOp (some 21) (xLoad 1 false (s.τ 20) s.H) s <| .mk fun s =>
  @sCall0 P (.func 102 []) [(s.τ 15), (s.τ 19), (s.τ 21)] (some 22) s ⟨W103_c6 P Φ⟩
def W103 (P : Program) (Φ : Exit → St → Prop) (s : St) : Prop :=
  @sOp (some 3) (xBox 3 31 (s.τ 1) s.H) s <| .mk fun s =>
  @sOp (some 4) (xAlloc 4 31 [.int .i64 0, .int .i64 0, .str ⟨#[]⟩, .nils] s.H) s <| .mk fun s =>
  @sOp (some 7) (xFld 0 (s.τ 3) s.H) s <| .mk fun s =>
  @sOp (some 8) (xLoad 1 false (s.τ 7) s.H) s <| .mk fun s =>
  @sOp (some 9) (xFld 1 (s.τ 3) s.H) s <| .mk fun s =>
  @sOp (some 10) (xLoad 1 false (s.τ 9) s.H) s <| .mk fun s =>
  @sOp (some 11) (xBuild [.int .i64 0, .int .i64 0, .str ⟨#[]⟩, .nils] [(0, 1, (s.τ 8)), (1, 1, (s.τ 10))] s.H) s <| .mk fun s =>
  @sOp (some 5) (xAlloc 5 31 [.int .i64 0, .int .i64 0, .str ⟨#[]⟩, .nils] s.H) s <| .mk fun s =>
  @sOp none (xStore 4 (s.τ 5) (s.τ 11) s.H) s <| .mk fun s =>
  @sOp (some 12) (xFld 0 (s.τ 3) s.H) s <| .mk fun s =>
  @sOp (some 13) (xLoad 1 false (s.τ 12) s.H) s <| .mk fun s =>
  @sOp (some 14) (xBin .eql false (s.τ 13) (.int .i64 2) s.H) s <| .mk fun s =>
  @sIf (s.τ 14) ⟨W103_b7 P Φ s⟩ ⟨W103_k5 P Φ s⟩
theorem W103_rs (τ : Nat → AV) (H : Heap) : resV Try.prog τ H [.cell 4 31] = rdV H 4 true (τ 4) := by kernel_rfl
theorem W103_eq (Φ : Exit → St → Prop) (s : St) : awp Try.prog (Try.f103.body.getD .skip) Φ s = W103 Try.prog Φ s := by kernel_rfl

-- 104 "penance/penanceref4.fronts"
def W104_k1 (P : Program) (Φ : Exit → St → Prop) (s : St) : Prop :=
  @sOp (some 37) (xMov (s.τ 4) s.H) s <| .mk fun s =>
  @sOp (some 2) (xMov (s.τ 37) s.H) s <| .mk fun s =>
  Φ .ret s
def W104_c2 (P : Program) (Φ : Exit → St → Prop) (L0 : St → Prop) (s : St) : Prop :=
  @sOp (some 33) (xMov (s.τ 4) s.H) s <| .mk fun s =>
  @sOp (some 34) (xMov (s.τ 6) s.H) s <| .mk fun s =>
  @sLit (some 35) (xLit 1 1 [.nils] [(0, (s.τ 34))] s.H) (xLitR 1 1 [.nils] [(0, (s.τ 34))] s.H) s <| .mk fun s =>
  @sOp (some 36) (xApp P 149 1 24 (some 36) (s.τ 33) (s.τ 35) s.H) s <| .mk fun s =>
  @sOp (some 4) (xMov (s.τ 36) s.H) s <| .mk fun s =>
  @sOp (some 16) (xMov (s.τ 5) s.H) s <| .mk fun s =>
  @sOp (some 17) (xBin .add false (s.τ 16) (.int .i64 1) s.H) s <| .mk fun s =>
  @sOp (some 5) (xMov (s.τ 17) s.H) s <| .mk fun s =>
  L0 s
def W104_b3 (P : Program) (Φ : Exit → St → Prop) (L0 : St → Prop) (s : St) : Prop :=
  @sOp (some 18) (xMov (s.τ 3) s.H) s <| .mk fun s =>
  @sOp (some 19) (xNil (s.τ 18) s.H) s <| .mk fun s =>
  @sOp (some 20) (xFld 0 (s.τ 19) s.H) s <| .mk fun s =>
  @sOp (some 21) (xLoad 1 false (s.τ 20) s.H) s <| .mk fun s =>
  @sOp (some 22) (xLen (s.τ 21) s.H) s <| .mk fun s =>
  @sMks (some 23) (fun k => xMks k 4 1 1 [.bool false] (s.τ 22) (s.τ 22) s.H) s <| .mk fun s =>
  @sOp (some 6) (xMov (s.τ 23) s.H) s <| .mk fun s =>
  @sOp (some 24) (xMov (s.τ 3) s.H) s <| .mk fun s =>
  @sOp (some 25) (xFld 2 (s.τ 1) s.H) s <| .mk fun s =>
  @sOp (some 26) (xLoad 1 false (s.τ 25) s.H) s <| .mk fun s =>
  @sOp (some 27) (xMov (s.τ 5) s.H) s <| .mk fun s =>
  @sOp (some 28) (xIx 9 (s.τ 26) (s.τ 27) s.H) s <| .mk fun s =>
  @sOp (some 29) (xFld 1 (s.τ 28) s.H) s <| .mk fun s =>
  @sOp (some 30) (xLoad 8 true (s.τ 29) s.H) s <| .mk fun s =>
  @sOp (some 31) (xMov (s.τ 6) s.H) s <| .mk fun s =>
  @sCall P (.func 113 []) [(s.τ 24), (s.τ 30), (s.τ 31)] (some 32) s ⟨W104_c2 P Φ L0⟩
def W104_l4 (P : Program) (Φ : Exit → St → Prop) (L0 : St → Prop) (s : St) : Prop :=
  @sOp (some 9) (xMov (s.τ 5) s.H) s <| .mk fun s =>
  @sOp (some 10) (xMov (s.τ 3) s.H) s <| .mk fun s =>
  @sOp (some 11) (xNil (s.τ 10) s.H) s <| .mk fun s =>
  @sOp (some 12) (xFld 0 (s.τ 11) s.H) s <| .mk fun s =>
  @sOp (some 13) (xLoad 1 false (s.τ 12) s.H) s <| .mk fun s =>
  @sOp (some 14) (xLen (s.τ 13) s.H) s <| .mk fun s =>
  @sOp (some 15) (xBin .lss false (s.τ 9) (s.τ 14) s.H) s <| .mk fun s =>
  @sIf (s.τ 15) ⟨W104_b3 P Φ L0 s⟩ ⟨W104_k1 P Φ s⟩
def W104_c5 (P : Program) (Φ : Exit → St → Prop) (s : St) : Prop :=
  @sOp (some 3) (xMov (s.τ 8) s.H) s <| .mk fun s =>
  @sOp (some 4) (xMov (.nils) s.H) s <| .mk fun s =>
  @sOp (some 5) (xMov (.int .i64 0) s.H) s <| .mk fun s =>
  @sLoop s ⟨fun L0 s => W104_l4 P Φ L0 s⟩
def W104 (P : Program) (Φ : Exit → St → Prop) (s : St) : Prop :=
  @sOp (some 1) (xBox 1 69 (s.τ 0) s.H) s <| .mk fun s =>
  @sOp (some 2) (xMov (.nils) s.H) s <| .mk fun s =>
  @sOp (some 7) (xLoad 3 true (s.τ 1) s.H) s <| .mk fun s =>
  @sCall P (.func 112 []) [(s.τ 7)] (some 8) s ⟨W104_c5 P Φ⟩
theorem W104_rs (τ : Nat → AV) (H : Heap) : resV Try.prog τ H [.tmp 2] = some (τ 2) := by kernel_rfl
theorem W104_eq (Φ : Exit → St → Prop) (s : St) : awp Try.prog (Try.f104.body.getD .skip) Φ s = W104 Try.prog Φ s := by kernel_rfl

-- 105 "slices.Contains[[]string,string]"
def W105_c1 (P : Program) (Φ : Exit → St → Prop) (s : St) : Prop :=
  @sOp (some 8) (xBin .geq false (s.τ 7) (.int .i64 0) s.H) s <| .mk fun s =>
  @sOp (some 4) (xMov (s.τ 8) s.H) s <| .mk fun s =>
  Φ .ret s
def W105 (P : Program) (Φ : Exit → St → Prop) (s : St) : Prop :=
  @sOp (some 4) (xMov (.bool false) s.H) s <| .mk fun s =>
  @sOp (some 5) (xMov (s.τ 0) s.H) s <| .mk fun s =>
  @sOp (some 6) (xMov (s.τ 1) s.H) s <| .mk fun s =>
  @sCall P (.func 114 []) [(s.τ 5), (s.τ 6)] (some 7) s ⟨W105_c1 P Φ⟩
theorem W105_rs (τ : Nat → AV) (H : Heap) : resV Try.prog τ H [.tmp 4] = some (τ 4) := by kernel_rfl
theorem W105_eq (Φ : Exit → St → Prop) (s : St) : awp Try.prog (Try.f105.body.getD .skip) Φ s = W105 Try.prog Φ s := by kernel_rfl

-- 106 "penance/lex.words"

def W106 (P : Program) (Φ : Exit → St → Prop) (s : St) : Prop :=
  @sOp (some 0) (xMov (.nils) s.H) s <| .mk fun s =>
  @sOp (some 1) (xLit 1 16 [.str ⟨#[]⟩] [(0, (.str ⟨#[118, 97, 114]⟩)), (1, (.str ⟨#[115, 116, 97, 99, 107]⟩)), (2, (.str ⟨#[112, 114, 111, 99]⟩)), (3, (.str ⟨#[115, 107, 105, 112]⟩)), (4, (.str ⟨#[100, 111]⟩)), (5, (.str ⟨#[112, 117, 115, 104]⟩)), (6, (.str ⟨#[114, 101, 118, 101, 114, 115, 101]⟩)), (7, (.str ⟨#[97, 99, 99, 101, 112, 116]⟩)), (8, (.str ⟨#[109, 101, 114, 103, 101]⟩)), (9, (.str ⟨#[98, 108, 111, 99, 107]⟩)), (10, (.str ⟨#[101, 120, 105, 116]⟩)), (11, (.str ⟨#[105, 102]⟩)), (12, (.str ⟨#[101, 108, 115, 101]⟩)), (13, (.str ⟨#[99, 104, 111, 111, 115, 101]⟩)), (14, (.str ⟨#[112, 97, 114]⟩)), (15, (.str ⟨#[99, 97, 108, 108]⟩))] s.H) s <| .mk fun s =>
  @sOp (some 0) (xMov (s.τ 1) s.H) s <| .mk fun s =>
  Φ .ret s
theorem W106_rs (τ : Nat → AV) (H : Heap) : resV Try.prog τ H [.tmp 0] = some (τ 0) := by kernel_rfl
theorem W106_eq (Φ : Exit → St → Prop) (s : St) : awp Try.prog (Try.f106.body.getD .skip) Φ s = W106 Try.prog Φ s := by kernel_rfl

-- 107 "penance/lex.digit"
def W107_c1 (P : Program) (Φ : Exit → St → Prop) (s : St) : Prop :=
  @sOp (some 8) (xPick (s.τ 5) (s.τ 7) (.bool false) s.H) s <| .mk fun s =>
  @sOp (some 2) (xMov (s.τ 8) s.H) s <| .mk fun s =>
  Φ .ret s
def W107_c2 (P : Program) (Φ : Exit → St → Prop) (s : St) : Prop :=
  @sGrd (guardOf (s.τ 5) true) (some 7) s ⟨fun s K => @sOp (some 7) (xBin .leq false (s.τ 6) (.int .u8 57) s.H) s ⟨K⟩⟩ ⟨W107_c1 P Φ⟩
def W107 (P : Program) (Φ : Exit → St → Prop) (s : St) : Prop :=
  @sOp (some 2) (xMov (.bool false) s.H) s <| .mk fun s =>
  @sOp (some 3) (xMov (s.τ 0) s.H) s <| .mk fun s =>
  @sOp (some 4) (xBin .geq false (s.τ 3) (.int .u8 48) s.H) s <| .mk fun s =>
  @sOp (some 5) (xMov (s.τ 4) s.H) s <| .mk fun s =>
  @sGrd (guardOf (s.τ 5) true) (some 6) s ⟨fun s K => @sOp (some 6) (xMov (s.τ 0) s.H) s ⟨K⟩⟩ ⟨W107_c2 P Φ⟩
theorem W107_rs (τ : Nat → AV) (H : Heap) : resV Try.prog τ H [.tmp 2] = some (τ 2) := by kernel_rfl
theorem W107_eq (Φ : Exit → St → Prop) (s : St) : awp Try.prog (Try.f107.body.getD .skip) Φ s = W107 Try.prog Φ s := by kernel_rfl

-- 110 "penance/penancelaw2.within"
def W110_k1 (P : Program) (Φ : Exit → St → Prop) (s : St) : Prop :=
  @sOp (some 14) (xMov (s.τ 5) s.H) s <| .mk fun s =>
  @sOp (some 4) (xMov (s.τ 14) s.H) s <| .mk fun s =>
  Φ .ret s
def W110_b2 (P : Program) (Φ : Exit → St → Prop) (s : St) : Prop :=
  @sOp (some 11) (xMov (s.τ 5) s.H) s <| .mk fun s =>
  @sOp (some 12) (xMov (s.τ 1) s.H) s <| .mk fun s =>
  @sOp (some 13) (xBin .add false (s.τ 11) (s.τ 12) s.H) s <| .mk fun s =>
  @sOp (some 5) (xMov (s.τ 13) s.H) s <| .mk fun s =>
  W110_k1 P Φ s
def W110 (P : Program) (Φ : Exit → St → Prop) (s : St) : Prop :=
  @sOp (some 4) (xMov (.int .i64 0) s.H) s <| .mk fun s =>
  @sOp (some 6) (xMov (s.τ 0) s.H) s <| .mk fun s =>
  @sOp (some 7) (xMov (s.τ 1) s.H) s <| .mk fun s =>
  @sOp (some 8) (xBin .rem false (s.τ 6) (s.τ 7) s.H) s <| .mk fun s =>
  @sOp (some 5) (xMov (s.τ 8) s.H) s <| .mk fun s =>
  @sOp (some 9) (xMov (s.τ 5) s.H) s <| .mk fun s =>
  @sOp (some 10) (xBin .lss false (s.τ 9) (.int .i64 0) s.H) s <| .mk fun s =>
  @sIf (s.τ 10) ⟨W110_b2 P Φ s⟩ ⟨W110_k1 P Φ s⟩
theorem W110_rs (τ : Nat → AV) (H : Heap) : resV Try.prog τ H [.tmp 4] = some (τ 4) := by kernel_rfl
theorem W110_eq (Φ : Exit → St → Prop) (s : St) : awp Try.prog (Try.f110.body.getD .skip) Φ s = W110 Try.prog Φ s := by kernel_rfl

-- 111 "(penance/penancelaw2.Raw).part"
def W111_c1 (P : Program) (Φ : Exit → St → Prop) (s : St) : Prop :=
  @sOp none (xStore 4 (s.τ 6) (s.τ 18) s.H) s <| .mk fun s =>
  Φ .ret s
def W111_b2 (P : Program) (Φ : Exit → St → Prop) (s : St) : Prop :=
  @sOp (some 12) (xFld 2 (s.τ 3) s.H) s <| .mk fun s =>
  @sOp (some 13) (xLoad 1 false (s.τ 12) s.H) s <| .mk fun s =>
  @sOp (some 14) (xMov (s.τ 1) s.H) s <| .mk fun s =>
  @sOp (some 15) (xIx 3 (s.τ 13) (s.τ 14) s.H) s <| .mk fun s =>
  @sOp (some 16) (xLoad 3 true (s.τ 15) s.H) s <| .mk fun s =>
  @sOp (some 17) (xMov (s.τ 2) s.H) s <| .mk fun s =>
  @sCall P (.func 101 []) [(s.τ 16), (s.τ 17)] (some 18) s ⟨W111_c1 P Φ⟩
def W111_c3 (P : Program) (Φ : Exit → St → Prop) (s : St) : Prop :=
  @sOp (some 24) (xBuild [.int .i64 0, .int .i64 0, .str ⟨#[]⟩, .nils] [(0, 1, (.int .i64 1)), (1, 1, (s.τ 23))] s.H) s <| .mk fun s =>
  @sOp none (xStore 4 (s.τ 6) (s.τ 24) s.H) s <| .mk fun s =>
  Φ .ret s
def W111_b4 (P : Program) (Φ : Exit → St → Prop) (s : St) : Prop :=
  @sOp (some 19) (xFld 1 (s.τ 3) s.H) s <| .mk fun s =>
  @sOp (some 20) (xLoad 1 false (s.τ 19) s.H) s <| .mk fun s =>
  @sOp (some 21) (xMov (s.τ 1) s.H) s <| .mk fun s =>
  @sOp (some 22) (xBin .add false (s.τ 20) (s.τ 21) s.H) s <| .mk fun s =>
  @sCall P (.func 110 []) [(s.τ 22), (.int .i64 5)] (some 23) s ⟨W111_c3 P Φ⟩
def W111 (P : Program) (Φ : Exit → St → Prop) (s : St) : Prop :=
  @sOp (some 3) (xBox 3 145 (s.τ 0) s.H) s <| .mk fun s =>
  @sOp (some 6) (xAlloc 6 31 [.int .i64 0, .int .i64 0, .str ⟨#[]⟩, .nils] s.H) s <| .mk fun s =>
  @sOp (some 7) (xMov (s.τ 1) s.H) s <| .mk fun s =>
  @sOp (some 8) (xFld 2 (s.τ 3) s.H) s <| .mk fun s =>
  @sOp (some 9) (xLoad 1 false (s.τ 8) s.H) s <| .mk fun s =>
  @sOp (some 10) (xLen (s.τ 9) s.H) s <| .mk fun s =>
  @sOp (some 11) (xBin .lss false (s.τ 7) (s.τ 10) s.H) s <| .mk fun s =>
  @sIf (s.τ 11) ⟨W111_b2 P Φ s⟩ ⟨W111_b4 P Φ s⟩
theorem W111_rs (τ : Nat → AV) (H : Heap) : resV Try.prog τ H [.cell 6 31] = rdV H 4 true (τ 6) := by kernel_rfl
theorem W111_eq (Φ : Exit → St → Prop) (s : St) : awp Try.prog (Try.f111.body.getD .skip) Φ s = W111 Try.prog Φ s := by kernel_rfl

-- 112 "penance/penanceref4.settle"
def W112_k1 (P : Program) (Φ : Exit → St → Prop) (s : St) : Prop :=
  @sOp (some 98) (xMov (s.τ 5) s.H) s <| .mk fun s =>
  @sOp (some 2) (xMov (s.τ 98) s.H) s <| .mk fun s =>
  Φ .ret s
def W112_k2 (P : Program) (Φ : Exit → St → Prop) (L0 : St → Prop) (L1 : St → Prop) (s : St) : Prop :=
  @sOp (some 29) (xMov (s.τ 7) s.H) s <| .mk fun s =>
  @sOp (some 30) (xBin .add false (s.τ 29) (.int .i64 1) s.H) s <| .mk fun s =>
  @sOp (some 7) (xMov (s.τ 30) s.H) s <| .mk fun s =>
  L1 s
def W112_c3 (P : Program) (Φ : Exit → St → Prop) (L0 : St → Prop) (L1 : St → Prop) (s : St) : Prop :=
  @sOp (some 95) (xPick (s.τ 93) (.bool true) (s.τ 94) s.H) s <| .mk fun s =>
  @sOp (some 96) (xIx 1 (s.τ 69) (s.τ 70) s.H) s <| .mk fun s =>
  @sOp none (xStore 1 (s.τ 96) (s.τ 85) s.H) s <| .mk fun s =>
  @sOp (some 97) (xIx 1 (s.τ 74) (s.τ 75) s.H) s <| .mk fun s =>
  @sOp none (xStore 1 (s.τ 97) (s.τ 95) s.H) s <| .mk fun s =>
  @sOp (some 6) (xMov (.bool true) s.H) s <| .mk fun s =>
  W112_k2 P Φ L0 L1 s
def W112_c4 (P : Program) (Φ : Exit → St → Prop) (L0 : St → Prop) (L1 : St → Prop) (s : St) : Prop :=
  @sOp (some 85) (xPick (s.τ 83) (.bool true) (s.τ 84) s.H) s <| .mk fun s =>
  @sOp (some 86) (xMov (s.τ 5) s.H) s <| .mk fun s =>
  @sOp (some 87) (xNil (s.τ 86) s.H) s <| .mk fun s =>
  @sOp (some 88) (xFld 2 (s.τ 87) s.H) s <| .mk fun s =>
  @sOp (some 89) (xLoad 1 false (s.τ 88) s.H) s <| .mk fun s =>
  @sOp (some 90) (xMov (s.τ 7) s.H) s <| .mk fun s =>
  @sOp (some 91) (xIx 1 (s.τ 89) (s.τ 90) s.H) s <| .mk fun s =>
  @sOp (some 92) (xLoad 1 false (s.τ 91) s.H) s <| .mk fun s =>
  @sOp (some 93) (xMov (s.τ 92) s.H) s <| .mk fun s =>
  @sGrd (guardOf (s.τ 93) false) (some 94) s ⟨fun s K => @sOp (some 94) (xMov (s.τ 9) s.H) s ⟨K⟩⟩ ⟨W112_c3 P Φ L0 L1⟩
def W112_b5 (P : Program) (Φ : Exit → St → Prop) (L0 : St → Prop) (L1 : St → Prop) (s : St) : Prop :=
  @sOp (some 66) (xMov (s.τ 5) s.H) s <| .mk fun s =>
  @sOp (some 67) (xNil (s.τ 66) s.H) s <| .mk fun s =>
  @sOp (some 68) (xFld 1 (s.τ 67) s.H) s <| .mk fun s =>
  @sOp (some 69) (xLoad 1 false (s.τ 68) s.H) s <| .mk fun s =>
  @sOp (some 70) (xMov (s.τ 7) s.H) s <| .mk fun s =>
  @sOp (some 71) (xMov (s.τ 5) s.H) s <| .mk fun s =>
  @sOp (some 72) (xNil (s.τ 71) s.H) s <| .mk fun s =>
  @sOp (some 73) (xFld 2 (s.τ 72) s.H) s <| .mk fun s =>
  @sOp (some 74) (xLoad 1 false (s.τ 73) s.H) s <| .mk fun s =>
  @sOp (some 75) (xMov (s.τ 7) s.H) s <| .mk fun s =>
  @sOp (some 76) (xMov (s.τ 5) s.H) s <| .mk fun s =>
  @sOp (some 77) (xNil (s.τ 76) s.H) s <| .mk fun s =>
  @sOp (some 78) (xFld 1 (s.τ 77) s.H) s <| .mk fun s =>
  @sOp (some 79) (xLoad 1 false (s.τ 78) s.H) s <| .mk fun s =>
  @sOp (some 80) (xMov (s.τ 7) s.H) s <| .mk fun s =>
  @sOp (some 81) (xIx 1 (s.τ 79) (s.τ 80) s.H) s <| .mk fun s =>
  @sOp (some 82) (xLoad 1 false (s.τ 81) s.H) s <| .mk fun s =>
  @sOp (some 83) (xMov (s.τ 82) s.H) s <| .mk fun s =>
  @sGrd (guardOf (s.τ 83) false) (some 84) s ⟨fun s K => @sOp (some 84) (xMov (s.τ 8) s.H) s ⟨K⟩⟩ ⟨W112_c4 P Φ L0 L1⟩
def W112_c6 (P : Program) (Φ : Exit → St → Prop) (L0 : St → Prop) (L1 : St → Prop) (s : St) : Prop :=
  @sOp (some 65) (xPick (s.τ 53) (.bool true) (s.τ 64) s.H) s <| .mk fun s =>
  @sIf (s.τ 65) ⟨W112_b5 P Φ L0 L1 s⟩ ⟨W112_k2 P Φ L0 L1 s⟩
def W112_c7 (P : Program) (Φ : Exit → St → Prop) (L0 : St → Prop) (L1 : St → Prop) (s : St) : Prop :=
  @sGrd (guardOf (s.τ 53) false) (some 64) s ⟨fun s K => @sOp (some 64) (xPick (s.τ 55) (s.τ 63) (.bool false) s.H) s ⟨K⟩⟩ ⟨W112_c6 P Φ L0 L1⟩
def W112_c8 (P : Program) (Φ : Exit → St → Prop) (L0 : St → Prop) (L1 : St → Prop) (s : St) : Prop :=
  @sGrd (guardOf (s.τ 55) true) (some 63) s ⟨fun s K => @sOp (some 63) (xNot (s.τ 62) s.H) s ⟨K⟩⟩ ⟨W112_c7 P Φ L0 L1⟩
def W112_c9 (P : Program) (Φ : Exit → St → Prop) (L0 : St → Prop) (L1 : St → Prop) (s : St) : Prop :=
  @sGrd (guardOf (s.τ 55) true) (some 62) s ⟨fun s K => @sOp (some 62) (xLoad 1 false (s.τ 61) s.H) s ⟨K⟩⟩ ⟨W112_c8 P Φ L0 L1⟩
def W112_c10 (P : Program) (Φ : Exit → St → Prop) (L0 : St → Prop) (L1 : St → Prop) (s : St) : Prop :=
  @sGrd (guardOf (s.τ 55) true) (some 61) s ⟨fun s K => @sOp (some 61) (xIx 1 (s.τ 59) (s.τ 60) s.H) s ⟨K⟩⟩ ⟨W112_c9 P Φ L0 L1⟩
def W112_c11 (P : Program) (Φ : Exit → St → Prop) (L0 : St → Prop) (L1 : St → Prop) (s : St) : Prop :=
  @sGrd (guardOf (s.τ 55) true) (some 60) s ⟨fun s K => @sOp (some 60) (xMov (s.τ 7) s.H) s ⟨K⟩⟩ ⟨W112_c10 P Φ L0 L1⟩
def W112_c12 (P : Program) (Φ : Exit → St → Prop) (L0 : St → Prop) (L1 : St → Prop) (s : St) : Prop :=
  @sGrd (guardOf (s.τ 55) true) (some 59) s ⟨fun s K => @sOp (some 59) (xLoad 1 false (s.τ 58) s.H) s ⟨K⟩⟩ ⟨W112_c11 P Φ L0 L1⟩
def W112_c13 (P : Program) (Φ : Exit → St → Prop) (L0 : St → Prop) (L1 : St → Prop) (s : St) : Prop :=
  @sGrd (guardOf (s.τ 55) true) (some 58) s ⟨fun s K => @sOp (some 58) (xFld 2 (s.τ 57) s.H) s ⟨K⟩⟩ ⟨W112_c12 P Φ L0 L1⟩
def W112_c14 (P : Program) (Φ : Exit → St → Prop) (L0 : St → Prop) (L1 : St → Prop) (s : St) : Prop :=
  @sGrd (guardOf (s.τ 55) true) (some 57) s ⟨fun s K => @sOp (some 57) (xNil (s.τ 56) s.H) s ⟨K⟩⟩ ⟨W112_c13 P Φ L0 L1⟩
def W112_c15 (P : Program) (Φ : Exit → St → Prop) (L0 : St → Prop) (L1 : St → Prop) (s : St) : Prop :=
  @sGrd (guardOf (s.τ 55) true) (some 56) s ⟨fun s K => @sOp (some 56) (xMov (s.τ 5) s.H) s ⟨K⟩⟩ ⟨W112_c14 P Φ L0 L1⟩
def W112_c16 (P : Program) (Φ : Exit → St → Prop) (L0 : St → Prop) (L1 : St → Prop) (s : St) : Prop :=
  @sGrd (guardOf (s.τ 53) false) (some 55) s ⟨fun s K => @sOp (some 55) (xMov (s.τ 54) s.H) s ⟨K⟩⟩ ⟨W112_c15 P Φ L0 L1⟩
def W112_c17 (P : Program) (Φ : Exit → St → Prop) (L0 : St → Prop) (L1 : St → Prop) (s : St) : Prop :=
  @sOp (some 52) (xPick (s.τ 43) (s.τ 51) (.bool false) s.H) s <| .mk fun s =>
  @sOp (some 53) (xMov (s.τ 52) s.H) s <| .mk fun s =>
  @sGrd (guardOf (s.τ 53) false) (some 54) s ⟨fun s K => @sOp (some 54) (xMov (s.τ 9) s.H) s ⟨K⟩⟩ ⟨W112_c16 P Φ L0 L1⟩
def W112_c18 (P : Program) (Φ : Exit → St → Prop) (L0 : St → Prop) (L1 : St → Prop) (s : St) : Prop :=
  @sGrd (guardOf (s.τ 43) true) (some 51) s ⟨fun s K => @sOp (some 51) (xNot (s.τ 50) s.H) s ⟨K⟩⟩ ⟨W112_c17 P Φ L0 L1⟩
def W112_c19 (P : Program) (Φ : Exit → St → Prop) (L0 : St → Prop) (L1 : St → Prop) (s : St) : Prop :=
  @sGrd (guardOf (s.τ 43) true) (some 50) s ⟨fun s K => @sOp (some 50) (xLoad 1 false (s.τ 49) s.H) s ⟨K⟩⟩ ⟨W112_c18 P Φ L0 L1⟩
def W112_c20 (P : Program) (Φ : Exit → St → Prop) (L0 : St → Prop) (L1 : St → Prop) (s : St) : Prop :=
  @sGrd (guardOf (s.τ 43) true) (some 49) s ⟨fun s K => @sOp (some 49) (xIx 1 (s.τ 47) (s.τ 48) s.H) s ⟨K⟩⟩ ⟨W112_c19 P Φ L0 L1⟩
def W112_c21 (P : Program) (Φ : Exit → St → Prop) (L0 : St → Prop) (L1 : St → Prop) (s : St) : Prop :=
  @sGrd (guardOf (s.τ 43) true) (some 48) s ⟨fun s K => @sOp (some 48) (xMov (s.τ 7) s.H) s ⟨K⟩⟩ ⟨W112_c20 P Φ L0 L1⟩
def W112_c22 (P : Program) (Φ : Exit → St → Prop) (L0 : St → Prop) (L1 : St → Prop) (s : St) : Prop :=
  @sGrd (guardOf (s.τ 43) true) (some 47) s ⟨fun s K => @sOp (some 47) (xLoad 1 false (s.τ 46) s.H) s ⟨K⟩⟩ ⟨W112_c21 P Φ L0 L1⟩
def W112_c23 (P : Program) (Φ : Exit → St → Prop) (L0 : St → Prop) (L1 : St → Prop) (s : St) : Prop :=
  @sGrd (guardOf (s.τ 43) true) (some 46) s ⟨fun s K => @sOp (some 46) (xFld 1 (s.τ 45) s.H) s ⟨K⟩⟩ ⟨W112_c22 P Φ L0 L1⟩
def W112_c24 (P : Program) (Φ : Exit → St → Prop) (L0 : St → Prop) (L1 : St → Prop) (s : St) : Prop :=
  @sGrd (guardOf (s.τ 43) true) (some 45) s ⟨fun s K => @sOp (some 45) (xNil (s.τ 44) s.H) s ⟨K⟩⟩ ⟨W112_c23 P Φ L0 L1⟩
def W112_c25 (P : Program) (Φ : Exit → St → Prop) (L0 : St → Prop) (L1 : St → Prop) (s : St) : Prop :=
  @sOp (some 31) (xMov (s.τ 39) s.H) s <| .mk fun s =>
  @sOp (some 40) (xExt (s.τ 31) 0 s.H) s <| .mk fun s =>
  @sOp (some 41) (xExt (s.τ 31) 1 s.H) s <| .mk fun s =>
  @sOp (some 8) (xMov (s.τ 40) s.H) s <| .mk fun s =>
  @sOp (some 9) (xMov (s.τ 41) s.H) s <| .mk fun s =>
  @sOp (some 42) (xMov (s.τ 8) s.H) s <| .mk fun s =>
  @sOp (some 43) (xMov (s.τ 42) s.H) s <| .mk fun s =>
  @sGrd (guardOf (s.τ 43) true) (some 44) s ⟨fun s K => @sOp (some 44) (xMov (s.τ 5) s.H) s ⟨K⟩⟩ ⟨W112_c24 P Φ L0 L1⟩
def W112_b26 (P : Program) (Φ : Exit → St → Prop) (L0 : St → Prop) (L1 : St → Prop) (s : St) : Prop :=
  @sOp (some 32) (xMov (s.τ 5) s.H) s <| .mk fun s =>
  @sOp (some 33) (xFld 2 (s.τ 1) s.H) s <| .mk fun s =>
  @sOp (some 34) (xLoad 1 false (s.τ 33) s.H) s <| .mk fun s =>
  @sOp (some 35) (xMov (s.τ 7) s.H) s <| .mk fun s =>
  @sOp (some 36) (xIx 9 (s.τ 34) (s.τ 35) s.H) s <| .mk fun s =>
  @sOp (some 37) (xFld 1 (s.τ 36) s.H) s <| .mk fun s =>
  @sOp (some 38) (xLoad 8 true (s.τ 37) s.H) s <| .mk fun s =>
  @sCall P (.func 115 []) [(s.τ 32), (s.τ 38)] (some 39) s ⟨W112_c25 P Φ L0 L1⟩
def W112_l27 (P : Program) (Φ : Exit → St → Prop) (L0 : St → Prop) (L1 : St → Prop) (s : St) : Prop :=
  @sOp (some 25) (xMov (s.τ 7) s.H) s <| .mk fun s =>
  @sOp (some 26) (xMov (s.τ 4) s.H) s <| .mk fun s =>
  @sOp (some 27) (xLen (s.τ 26) s.H) s <| .mk fun s =>
  @sOp (some 28) (xBin .lss false (s.τ 25) (s.τ 27) s.H) s <| .mk fun s =>
  @sIf (s.τ 28) ⟨W112_b26 P Φ L0 L1 s⟩ ⟨L0 s⟩
def W112_b28 (P : Program) (Φ : Exit → St → Prop) (L0 : St → Prop) (s : St) : Prop :=
  @sOp (some 6) (xMov (.bool false) s.H) s <| .mk fun s =>
  @sOp (some 7) (xMov (.int .i64 0) s.H) s <| .mk fun s =>
  @sLoop s ⟨fun L1 s => W112_l27 P Φ L0 L1 s⟩
def W112_l29 (P : Program) (Φ : Exit → St → Prop) (L0 : St → Prop) (s : St) : Prop :=
  @sOp (some 24) (xMov (s.τ 6) s.H) s <| .mk fun s =>
  @sIf (s.τ 24) ⟨W112_b28 P Φ L0 s⟩ ⟨W112_k1 P Φ s⟩
def W112_c30 (P : Program) (Φ : Exit → St → Prop) (s : St) : Prop :=
  @sOp (some 10) (xMov (s.τ 12) s.H) s <| .mk fun s =>
  @sOp (some 13) (xExt (s.τ 10) 0 s.H) s <| .mk fun s =>
  @sOp (some 14) (xExt (s.τ 10) 1 s.H) s <| .mk fun s =>
  @sOp (some 3) (xMov (s.τ 13) s.H) s <| .mk fun s =>
  @sOp (some 4) (xMov (s.τ 14) s.H) s <| .mk fun s =>
  @sOp (some 15) (xMov (s.τ 4) s.H) s <| .mk fun u1 =>
  @sOp (some 16) (xMov (u1.τ 4) u1.H) u1 <| .mk fun u2 =>
  @sOp (some 17) (xLen (u2.τ 16) u2.H) u2 <| .mk fun u3 =>
  @sOp (some 18) (xMks 18 4 1 1 [.bool false] (u3.τ 17) (u3.τ 17) u3.H) u3 <| .mk fun u4 =>
  @sOp (some 19) (xMov (u4.τ 4) u4.H) u4 <| .mk fun u5 =>
  @sChk (compat ([18], [18]) (occ (u5.τ 19), [])) <| .mk <|
  @sOp (some 20) (xLen (u5.τ 19) u5.H) u5 <| .mk fun u6 =>
  @sChk (compat (occ (u2.τ 16), []) ([21], [21])) <| .mk <|
  @sChk (compat ([18], [18]) ([21], [21])) <| .mk <|
  @sOp (some 21) (xMks 21 4 1 1 [.bool false] (u6.τ 20) (u6.τ 20) u6.H) u6 <| .mk fun u7 =>
  @sOp (some 22) (xBuild [.nils, .nils, .nils] [(0, 1, (u7.τ 15)), (1, 1, (u7.τ 18)), (2, 1, (u7.τ 21))] u7.H) u7 <| .mk fun u8 =>
  @sOp (some 23) (xBox 23 156 (u8.τ 22) u8.H) u8 <| .mk fun u9 =>
  @sOp (some 5) (xMov (u9.τ 23) u9.H) u9 <| .mk fun s =>
  @sOp (some 6) (xMov (.bool true) s.H) s <| .mk fun s =>
  @sLoop s ⟨fun L0 s => W112_l29 P Φ L0 s⟩
def W112 (P : Program) (Φ : Exit → St → Prop) (s : St) : Prop :=
  @sOp (some 1) (xBox 1 69 (s.τ 0) s.H) s <| .mk fun s =>
  @sOp (some 2) (xMov (.nilp) s.H) s <| .mk fun s =>
  @sOp (some 11) (xLoad 3 true (s.τ 1) s.H) s <| .mk fun s =>
  @sCall P (.func 89 []) [(s.τ 11)] (some 12) s ⟨W112_c30 P Φ⟩
theorem W112_rs (τ : Nat → AV) (H : Heap) : resV Try.prog τ H [.tmp 2] = some (τ 2) := by kernel_rfl
theorem W112_eq (Φ : Exit → St → Prop) (s : St) : awp Try.prog (Try.f112.body.getD .skip) Φ s = W112 Try.prog Φ s := by kernel_rfl

-- 113 "(*penance/penanceref4.may).front"
def W113_b1 (P : Program) (Φ : Exit → St → Prop) (s : St) : Prop :=
  @sOp (some 38) (xMov (s.τ 2) s.H) s <| .mk fun s =>
  @sOp (some 39) (xMov (s.τ 6) s.H) s <| .mk fun s =>
  @sOp (some 40) (xIx 1 (s.τ 38) (s.τ 39) s.H) s <| .mk fun s =>
  @sOp none (xStore 1 (s.τ 40) (.bool true) s.H) s <| .mk fun s =>
  Φ .normal s
def W113_c2 (P : Program) (Φ : Exit → St → Prop) (s : St) : Prop :=
  @sOp (some 6) (xMov (s.τ 35) s.H) s <| .mk fun s =>
  @sOp (some 36) (xMov (s.τ 6) s.H) s <| .mk fun s =>
  @sOp (some 37) (xBin .geq false (s.τ 36) (.int .i64 0) s.H) s <| .mk fun s =>
  @sIf (s.τ 37) ⟨W113_b1 P Φ s⟩ ⟨Φ .normal s⟩
def W113_b3 (P : Program) (Φ : Exit → St → Prop) (s : St) : Prop :=
  @sOp (some 29) (xMov (s.τ 0) s.H) s <| .mk fun s =>
  @sOp (some 30) (xNil (s.τ 29) s.H) s <| .mk fun s =>
  @sOp (some 31) (xFld 0 (s.τ 30) s.H) s <| .mk fun s =>
  @sOp (some 32) (xLoad 1 false (s.τ 31) s.H) s <| .mk fun s =>
  @sOp (some 33) (xFld 1 (s.τ 4) s.H) s <| .mk fun s =>
  @sOp (some 34) (xLoad 1 false (s.τ 33) s.H) s <| .mk fun s =>
  @sCall0 P (.func 91 []) [(s.τ 32), (s.τ 34)] (some 35) s ⟨W113_c2 P Φ⟩
def W113_c4 (P : Program) (Φ : Exit → St → Prop) (s : St) : Prop :=
  Φ .normal s
def W113_b5 (P : Program) (Φ : Exit → St → Prop) (s : St) : Prop :=
  @sOp (some 60) (xMov (s.τ 0) s.H) s <| .mk fun s =>
  @sOp (some 61) (xFld 7 (s.τ 4) s.H) s <| .mk fun s =>
  @sOp (some 62) (xLoad 1 false (s.τ 61) s.H) s <| .mk fun s =>
  @sOp (some 63) (xIx 8 (s.τ 62) (.int .i64 1) s.H) s <| .mk fun s =>
  @sOp (some 64) (xLoad 8 true (s.τ 63) s.H) s <| .mk fun s =>
  @sOp (some 65) (xMov (s.τ 2) s.H) s <| .mk fun s =>
  @sCall P (.func 113 []) [(s.τ 60), (s.τ 64), (s.τ 65)] (some 66) s ⟨W113_c4 P Φ⟩
def W113_c6 (P : Program) (Φ : Exit → St → Prop) (s : St) : Prop :=
  @sOp (some 50) (xMov (s.τ 56) s.H) s <| .mk fun s =>
  @sOp (some 57) (xExt (s.τ 50) 0 s.H) s <| .mk fun s =>
  @sOp (some 58) (xExt (s.τ 50) 1 s.H) s <| .mk fun s =>
  @sOp (some 7) (xMov (s.τ 57) s.H) s <| .mk fun s =>
  @sOp (some 8) (xMov (s.τ 58) s.H) s <| .mk fun s =>
  @sOp (some 59) (xMov (s.τ 7) s.H) s <| .mk fun s =>
  @sIf (s.τ 59) ⟨W113_b5 P Φ s⟩ ⟨Φ .normal s⟩
def W113_c7 (P : Program) (Φ : Exit → St → Prop) (s : St) : Prop :=
  @sOp (some 51) (xMov (s.τ 0) s.H) s <| .mk fun s =>
  @sOp (some 52) (xFld 7 (s.τ 4) s.H) s <| .mk fun s =>
  @sOp (some 53) (xLoad 1 false (s.τ 52) s.H) s <| .mk fun s =>
  @sOp (some 54) (xIx 8 (s.τ 53) (.int .i64 0) s.H) s <| .mk fun s =>
  @sOp (some 55) (xLoad 8 true (s.τ 54) s.H) s <| .mk fun s =>
  @sCall P (.func 115 []) [(s.τ 51), (s.τ 55)] (some 56) s ⟨W113_c6 P Φ⟩
def W113_b8 (P : Program) (Φ : Exit → St → Prop) (s : St) : Prop :=
  @sOp (some 43) (xMov (s.τ 0) s.H) s <| .mk fun s =>
  @sOp (some 44) (xFld 7 (s.τ 4) s.H) s <| .mk fun s =>
  @sOp (some 45) (xLoad 1 false (s.τ 44) s.H) s <| .mk fun s =>
  @sOp (some 46) (xIx 8 (s.τ 45) (.int .i64 0) s.H) s <| .mk fun s =>
  @sOp (some 47) (xLoad 8 true (s.τ 46) s.H) s <| .mk fun s =>
  @sOp (some 48) (xMov (s.τ 2) s.H) s <| .mk fun s =>
  @sCall P (.func 113 []) [(s.τ 43), (s.τ 47), (s.τ 48)] (some 49) s ⟨W113_c7 P Φ⟩
def W113_c9 (P : Program) (Φ : Exit → St → Prop) (L0 : St → Prop) (s : St) : Prop :=
  @sOp (some 17) (xMov (s.τ 9) s.H) s <| .mk fun s =>
  @sOp (some 18) (xBin .add false (s.τ 17) (.int .i64 1) s.H) s <| .mk fun s =>
  @sOp (some 9) (xMov (s.τ 18) s.H) s <| .mk fun s =>
  L0 s
def W113_b10 (P : Program) (Φ : Exit → St → Prop) (L0 : St → Prop) (s : St) : Prop :=
  @sOp (some 19) (xMov (s.τ 0) s.H) s <| .mk fun s =>
  @sOp (some 20) (xFld 7 (s.τ 4) s.H) s <| .mk fun s =>
  @sOp (some 21) (xLoad 1 false (s.τ 20) s.H) s <| .mk fun s =>
  @sOp (some 22) (xMov (s.τ 9) s.H) s <| .mk fun s =>
  @sOp (some 23) (xIx 8 (s.τ 21) (s.τ 22) s.H) s <| .mk fun s =>
  @sOp (some 24) (xLoad 8 true (s.τ 23) s.H) s <| .mk fun s =>
  @sOp (some 25) (xMov (s.τ 2) s.H) s <| .mk fun s =>
  @sCall P (.func 113 []) [(s.τ 19), (s.τ 24), (s.τ 25)] (some 26) s ⟨W113_c9 P Φ L0⟩
def W113_l11 (P : Program) (Φ : Exit → St → Prop) (L0 : St → Prop) (s : St) : Prop :=
  @sOp (some 12) (xMov (s.τ 9) s.H) s <| .mk fun s =>
  @sOp (some 13) (xFld 7 (s.τ 4) s.H) s <| .mk fun s =>
  @sOp (some 14) (xLoad 1 false (s.τ 13) s.H) s <| .mk fun s =>
  @sOp (some 15) (xLen (s.τ 14) s.H) s <| .mk fun s =>
  @sOp (some 16) (xBin .lss false (s.τ 12) (s.τ 15) s.H) s <| .mk fun s =>
  @sIf (s.τ 16) ⟨W113_b10 P Φ L0 s⟩ ⟨Φ .normal s⟩
def W113_b12 (P : Program) (Φ : Exit → St → Prop) (s : St) : Prop :=
  @sOp (some 9) (xMov (.int .i64 0) s.H) s <| .mk fun s =>
  @sLoop s ⟨fun L0 s => W113_l11 P Φ L0 s⟩
def W113_b13 (P : Program) (Φ : Exit → St → Prop) (s : St) : Prop :=
  @sOp (some 42) (xBin .eql false (s.τ 11) (.int .i64 12) s.H) s <| .mk fun s =>
  @sOp (some 41) (xMov (s.τ 42) s.H) s <| .mk fun s =>
  @sIf (s.τ 41) ⟨W113_b8 P Φ s⟩ ⟨W113_b12 P Φ s⟩
def W113 (P : Program) (Φ : Exit → St → Prop) (s : St) : Prop :=
  @sOp (some 4) (xBox 4 73 (s.τ 1) s.H) s <| .mk fun s =>
  @sOp (some 10) (xFld 0 (s.τ 4) s.H) s <| .mk fun s =>
  @sOp (some 11) (xLoad 1 false (s.τ 10) s.H) s <| .mk fun s =>
  @sOp (some 28) (xBin .eql false (s.τ 11) (.int .i64 13) s.H) s <| .mk fun s =>
  @sOp (some 27) (xMov (s.τ 28) s.H) s <| .mk fun s =>
  @sIf (s.τ 27) ⟨W113_b3 P Φ s⟩ ⟨W113_b13 P Φ s⟩
theorem W113_rs (τ : Nat → AV) (H : Heap) : resV Try.prog τ H [] = ob (some []) fun vs => some (.tup vs) := by kernel_rfl
theorem W113_eq (Φ : Exit → St → Prop) (s : St) : awp Try.prog (Try.f113.body.getD .skip) Φ s = W113 Try.prog Φ s := by kernel_rfl

-- 114 "slices.Index[[]string,string]"
def W114_k1 (P : Program) (Φ : Exit → St → Prop) (s : St) : Prop :=
  @sOp (some 4) (xMov (.int .i64 (-1)) s.H) s <| .mk fun s =>
  Φ .ret s
def W114_b2 (P : Program) (Φ : Exit → St → Prop) (L0 : St → Prop) (s : St) : Prop :=
  @sOp (some 17) (xMov (s.τ 5) s.H) s <| .mk fun s =>
  @sOp (some 4) (xMov (s.τ 17) s.H) s <| .mk fun s =>
  Φ .ret s
def W114_b3 (P : Program) (Φ : Exit → St → Prop) (L0 : St → Prop) (s : St) : Prop :=
  @sOp (some 18) (xBin .add false (s.τ 8) (.int .i64 1) s.H) s <| .mk fun s =>
  @sOp (some 8) (xMov (s.τ 18) s.H) s <| .mk fun s =>
  L0 s
def W114_b4 (P : Program) (Φ : Exit → St → Prop) (L0 : St → Prop) (s : St) : Prop :=
  @sOp (some 10) (xMov (s.τ 8) s.H) s <| .mk fun s =>
  @sOp (some 5) (xMov (s.τ 10) s.H) s <| .mk fun s =>
  @sOp (some 11) (xMov (s.τ 1) s.H) s <| .mk fun s =>
  @sOp (some 12) (xMov (s.τ 0) s.H) s <| .mk fun s =>
  @sOp (some 13) (xMov (s.τ 5) s.H) s <| .mk fun s =>
  @sOp (some 14) (xIx 1 (s.τ 12) (s.τ 13) s.H) s <| .mk fun s =>
  @sOp (some 15) (xLoad 1 false (s.τ 14) s.H) s <| .mk fun s =>
  @sOp (some 16) (xBin .eql false (s.τ 11) (s.τ 15) s.H) s <| .mk fun s =>
  @sIf (s.τ 16) ⟨W114_b2 P Φ L0 s⟩ ⟨W114_b3 P Φ L0 s⟩
def W114_l5 (P : Program) (Φ : Exit → St → Prop) (L0 : St → Prop) (s : St) : Prop :=
  @sOp (some 9) (xBin .lss false (s.τ 8) (s.τ 7) s.H) s <| .mk fun s =>
  @sIf (s.τ 9) ⟨W114_b4 P Φ L0 s⟩ ⟨W114_k1 P Φ s⟩
def W114 (P : Program) (Φ : Exit → St → Prop) (s : St) : Prop :=
  @sOp (some 4) (xMov (.int .i64 0) s.H) s <| .mk fun s =>
  @sOp (some 6) (xMov (s.τ 0) s.H) s <| .mk fun s =>
  @sOp (some 7) (xLen (s.τ 6) s.H) s <| .mk fun s =>
  @sOp (some 8) (xMov (.int .i64 0) s.H) s <| .mk fun s =>
  @sLoop s ⟨fun L0 s => W114_l5 P Φ L0 s⟩
theorem W114_rs (τ : Nat → AV) (H : Heap) : resV Try.prog τ H [.tmp 4] = some (τ 4) := by kernel_rfl
theorem W114_eq (Φ : Exit → St → Prop) (s : St) : awp Try.prog (Try.f114.body.getD .skip) Φ s = W114 Try.prog Φ s := by kernel_rfl

-- 115 "(*penance/penanceref4.may).both"
def W115_b1 (P : Program) (Φ : Exit → St → Prop) (s : St) : Prop :=
  @sOp (some 4) (xMov (.bool false) s.H) s <| .mk fun s =>
  @sOp (some 5) (xMov (.bool false) s.H) s <| .mk fun s =>
  Φ .ret s
def W115_b2 (P : Program) (Φ : Exit → St → Prop) (s : St) : Prop :=
  @sOp (some 4) (xMov (.bool false) s.H) s <| .mk fun s =>
  @sOp (some 5) (xMov (.bool true) s.H) s <| .mk fun s =>
  Φ .ret s
def W115_b3 (P : Program) (Φ : Exit → St → Prop) (s : St) : Prop :=
  @sOp (some 4) (xMov (.bool true) s.H) s <| .mk fun s =>
  @sOp (some 5) (xMov (.bool true) s.H) s <| .mk fun s =>
  Φ .ret s
def W115_c4 (P : Program) (Φ : Exit → St → Prop) (s : St) : Prop :=
  @sOp (some 50) (xPick (s.τ 47) (.bool true) (s.τ 49) s.H) s <| .mk fun s =>
  @sOp (some 4) (xMov (s.τ 50) s.H) s <| .mk fun s =>
  @sOp (some 5) (xMov (.bool false) s.H) s <| .mk fun s =>
  Φ .ret s
def W115_c5 (P : Program) (Φ : Exit → St → Prop) (s : St) : Prop :=
  @sGrd (guardOf (s.τ 47) false) (some 49) s ⟨fun s K => @sOp (some 49) (xLoad 1 false (s.τ 48) s.H) s ⟨K⟩⟩ ⟨W115_c4 P Φ⟩
def W115_b6 (P : Program) (Φ : Exit → St → Prop) (s : St) : Prop :=
  @sOp (some 45) (xIxA 2 1 (s.τ 6) (.int .i64 0) s.H) s <| .mk fun s =>
  @sOp (some 46) (xLoad 1 false (s.τ 45) s.H) s <| .mk fun s =>
  @sOp (some 47) (xMov (s.τ 46) s.H) s <| .mk fun s =>
  @sGrd (guardOf (s.τ 47) false) (some 48) s ⟨fun s K => @sOp (some 48) (xIxA 2 1 (s.τ 7) (.int .i64 0) s.H) s ⟨K⟩⟩ ⟨W115_c5 P Φ⟩
def W115_c7 (P : Program) (Φ : Exit → St → Prop) (s : St) : Prop :=
  @sOp (some 65) (xPick (s.τ 62) (.bool true) (s.τ 64) s.H) s <| .mk fun s =>
  @sOp (some 4) (xMov (s.τ 59) s.H) s <| .mk fun s =>
  @sOp (some 5) (xMov (s.τ 65) s.H) s <| .mk fun s =>
  Φ .ret s
def W115_c8 (P : Program) (Φ : Exit → St → Prop) (s : St) : Prop :=
  @sGrd (guardOf (s.τ 62) false) (some 64) s ⟨fun s K => @sOp (some 64) (xLoad 1 false (s.τ 63) s.H) s ⟨K⟩⟩ ⟨W115_c7 P Φ⟩
def W115_c9 (P : Program) (Φ : Exit → St → Prop) (s : St) : Prop :=
  @sOp (some 59) (xPick (s.τ 56) (.bool true) (s.τ 58) s.H) s <| .mk fun s =>
  @sOp (some 60) (xIxA 2 1 (s.τ 7) (.int .i64 0) s.H) s <| .mk fun s =>
  @sOp (some 61) (xLoad 1 false (s.τ 60) s.H) s <| .mk fun s =>
  @sOp (some 62) (xMov (s.τ 61) s.H) s <| .mk fun s =>
  @sGrd (guardOf (s.τ 62) false) (some 63) s ⟨fun s K => @sOp (some 63) (xIxA 2 1 (s.τ 7) (.int .i64 1) s.H) s ⟨K⟩⟩ ⟨W115_c8 P Φ⟩
def W115_c10 (P : Program) (Φ : Exit → St → Prop) (s : St) : Prop :=
  @sGrd (guardOf (s.τ 56) false) (some 58) s ⟨fun s K => @sOp (some 58) (xLoad 1 false (s.τ 57) s.H) s ⟨K⟩⟩ ⟨W115_c9 P Φ⟩
def W115_b11 (P : Program) (Φ : Exit → St → Prop) (s : St) : Prop :=
  @sOp (some 54) (xIxA 2 1 (s.τ 6) (.int .i64 0) s.H) s <| .mk fun s =>
  @sOp (some 55) (xLoad 1 false (s.τ 54) s.H) s <| .mk fun s =>
  @sOp (some 56) (xMov (s.τ 55) s.H) s <| .mk fun s =>
  @sGrd (guardOf (s.τ 56) false) (some 57) s ⟨fun s K => @sOp (some 57) (xIxA 2 1 (s.τ 6) (.int .i64 1) s.H) s ⟨K⟩⟩ ⟨W115_c10 P Φ⟩
def W115_c12 (P : Program) (Φ : Exit → St → Prop) (s : St) : Prop :=
  @sOp (some 79) (xPick (s.τ 76) (.bool true) (s.τ 78) s.H) s <| .mk fun s =>
  @sOp (some 4) (xMov (s.τ 73) s.H) s <| .mk fun s =>
  @sOp (some 5) (xMov (s.τ 79) s.H) s <| .mk fun s =>
  Φ .ret s
def W115_c13 (P : Program) (Φ : Exit → St → Prop) (s : St) : Prop :=
  @sGrd (guardOf (s.τ 76) false) (some 78) s ⟨fun s K => @sOp (some 78) (xLoad 1 false (s.τ 77) s.H) s ⟨K⟩⟩ ⟨W115_c12 P Φ⟩
def W115_c14 (P : Program) (Φ : Exit → St → Prop) (s : St) : Prop :=
  @sOp (some 73) (xPick (s.τ 70) (s.τ 72) (.bool false) s.H) s <| .mk fun s =>
  @sOp (some 74) (xIxA 2 1 (s.τ 7) (.int .i64 0) s.H) s <| .mk fun s =>
  @sOp (some 75) (xLoad 1 false (s.τ 74) s.H) s <| .mk fun s =>
  @sOp (some 76) (xMov (s.τ 75) s.H) s <| .mk fun s =>
  @sGrd (guardOf (s.τ 76) false) (some 77) s ⟨fun s K => @sOp (some 77) (xIxA 2 1 (s.τ 7) (.int .i64 1) s.H) s ⟨K⟩⟩ ⟨W115_c13 P Φ⟩
def W115_c15 (P : Program) (Φ : Exit → St → Prop) (s : St) : Prop :=
  @sGrd (guardOf (s.τ 70) true) (some 72) s ⟨fun s K => @sOp (some 72) (xLoad 1 false (s.τ 71) s.H) s ⟨K⟩⟩ ⟨W115_c14 P Φ⟩
def W115_b16 (P : Program) (Φ : Exit → St → Prop) (s : St) : Prop :=
  @sOp (some 68) (xIxA 2 1 (s.τ 6) (.int .i64 0) s.H) s <| .mk fun s =>
  @sOp (some 69) (xLoad 1 false (s.τ 68) s.H) s <| .mk fun s =>
  @sOp (some 70) (xMov (s.τ 69) s.H) s <| .mk fun s =>
  @sGrd (guardOf (s.τ 70) true) (some 71) s ⟨fun s K => @sOp (some 71) (xIxA 2 1 (s.τ 6) (.int .i64 1) s.H) s ⟨K⟩⟩ ⟨W115_c15 P Φ⟩
def W115_c17 (P : Program) (Φ : Exit → St → Prop) (s : St) : Prop :=
  @sOp (some 97) (xPick (s.τ 90) (.bool true) (s.τ 96) s.H) s <| .mk fun s =>
  @sOp (some 4) (xMov (s.τ 87) s.H) s <| .mk fun s =>
  @sOp (some 5) (xMov (s.τ 97) s.H) s <| .mk fun s =>
  Φ .ret s
def W115_c18 (P : Program) (Φ : Exit → St → Prop) (s : St) : Prop :=
  @sGrd (guardOf (s.τ 90) false) (some 96) s ⟨fun s K => @sOp (some 96) (xPick (s.τ 93) (s.τ 95) (.bool false) s.H) s ⟨K⟩⟩ ⟨W115_c17 P Φ⟩
def W115_c19 (P : Program) (Φ : Exit → St → Prop) (s : St) : Prop :=
  @sGrd (guardOf (s.τ 93) true) (some 95) s ⟨fun s K => @sOp (some 95) (xLoad 1 false (s.τ 94) s.H) s ⟨K⟩⟩ ⟨W115_c18 P Φ⟩
def W115_c20 (P : Program) (Φ : Exit → St → Prop) (s : St) : Prop :=
  @sGrd (guardOf (s.τ 93) true) (some 94) s ⟨fun s K => @sOp (some 94) (xIxA 2 1 (s.τ 7) (.int .i64 1) s.H) s ⟨K⟩⟩ ⟨W115_c19 P Φ⟩
def W115_c21 (P : Program) (Φ : Exit → St → Prop) (s : St) : Prop :=
  @sGrd (guardOf (s.τ 90) false) (some 93) s ⟨fun s K => @sOp (some 93) (xMov (s.τ 92) s.H) s ⟨K⟩⟩ ⟨W115_c20 P Φ⟩
def W115_c22 (P : Program) (Φ : Exit → St → Prop) (s : St) : Prop :=
  @sGrd (guardOf (s.τ 90) false) (some 92) s ⟨fun s K => @sOp (some 92) (xLoad 1 false (s.τ 91) s.H) s ⟨K⟩⟩ ⟨W115_c21 P Φ⟩
def W115_c23 (P : Program) (Φ : Exit → St → Prop) (s : St) : Prop :=
  @sOp (some 87) (xPick (s.τ 84) (s.τ 86) (.bool false) s.H) s <| .mk fun s =>
  @sOp (some 88) (xIxA 2 1 (s.τ 7) (.int .i64 0) s.H) s <| .mk fun s =>
  @sOp (some 89) (xLoad 1 false (s.τ 88) s.H) s <| .mk fun s =>
  @sOp (some 90) (xMov (s.τ 89) s.H) s <| .mk fun s =>
  @sGrd (guardOf (s.τ 90) false) (some 91) s ⟨fun s K => @sOp (some 91) (xIxA 2 1 (s.τ 6) (.int .i64 0) s.H) s ⟨K⟩⟩ ⟨W115_c22 P Φ⟩
def W115_c24 (P : Program) (Φ : Exit → St → Prop) (s : St) : Prop :=
  @sGrd (guardOf (s.τ 84) true) (some 86) s ⟨fun s K => @sOp (some 86) (xLoad 1 false (s.τ 85) s.H) s ⟨K⟩⟩ ⟨W115_c23 P Φ⟩
def W115_b25 (P : Program) (Φ : Exit → St → Prop) (s : St) : Prop :=
  @sOp (some 82) (xIxA 2 1 (s.τ 6) (.int .i64 0) s.H) s <| .mk fun s =>
  @sOp (some 83) (xLoad 1 false (s.τ 82) s.H) s <| .mk fun s =>
  @sOp (some 84) (xMov (s.τ 83) s.H) s <| .mk fun s =>
  @sGrd (guardOf (s.τ 84) true) (some 85) s ⟨fun s K => @sOp (some 85) (xIxA 2 1 (s.τ 6) (.int .i64 1) s.H) s ⟨K⟩⟩ ⟨W115_c24 P Φ⟩
def W115_c26 (P : Program) (Φ : Exit → St → Prop) (s : St) : Prop :=
  @sOp (some 128) (xPick (s.τ 120) (s.τ 127) (.bool false) s.H) s <| .mk fun s =>
  @sOp (some 4) (xMov (s.τ 117) s.H) s <| .mk fun s =>
  @sOp (some 5) (xMov (s.τ 128) s.H) s <| .mk fun s =>
  Φ .ret s
def W115_c27 (P : Program) (Φ : Exit → St → Prop) (s : St) : Prop :=
  @sGrd (guardOf (s.τ 120) true) (some 127) s ⟨fun s K => @sOp (some 127) (xLoad 1 false (s.τ 126) s.H) s ⟨K⟩⟩ ⟨W115_c26 P Φ⟩
def W115_c28 (P : Program) (Φ : Exit → St → Prop) (s : St) : Prop :=
  @sGrd (guardOf (s.τ 120) true) (some 126) s ⟨fun s K => @sOp (some 126) (xIx 1 (s.τ 124) (s.τ 125) s.H) s ⟨K⟩⟩ ⟨W115_c27 P Φ⟩
def W115_c29 (P : Program) (Φ : Exit → St → Prop) (s : St) : Prop :=
  @sGrd (guardOf (s.τ 120) true) (some 125) s ⟨fun s K => @sOp (some 125) (xMov (s.τ 9) s.H) s ⟨K⟩⟩ ⟨W115_c28 P Φ⟩
def W115_c30 (P : Program) (Φ : Exit → St → Prop) (s : St) : Prop :=
  @sGrd (guardOf (s.τ 120) true) (some 124) s ⟨fun s K => @sOp (some 124) (xLoad 1 false (s.τ 123) s.H) s ⟨K⟩⟩ ⟨W115_c29 P Φ⟩
def W115_c31 (P : Program) (Φ : Exit → St → Prop) (s : St) : Prop :=
  @sGrd (guardOf (s.τ 120) true) (some 123) s ⟨fun s K => @sOp (some 123) (xFld 2 (s.τ 122) s.H) s ⟨K⟩⟩ ⟨W115_c30 P Φ⟩
def W115_c32 (P : Program) (Φ : Exit → St → Prop) (s : St) : Prop :=
  @sGrd (guardOf (s.τ 120) true) (some 122) s ⟨fun s K => @sOp (some 122) (xNil (s.τ 121) s.H) s ⟨K⟩⟩ ⟨W115_c31 P Φ⟩
def W115_c33 (P : Program) (Φ : Exit → St → Prop) (s : St) : Prop :=
  @sOp (some 117) (xPick (s.τ 109) (s.τ 116) (.bool false) s.H) s <| .mk fun s =>
  @sOp (some 118) (xMov (s.τ 9) s.H) s <| .mk fun s =>
  @sOp (some 119) (xBin .geq false (s.τ 118) (.int .i64 0) s.H) s <| .mk fun s =>
  @sOp (some 120) (xMov (s.τ 119) s.H) s <| .mk fun s =>
  @sGrd (guardOf (s.τ 120) true) (some 121) s ⟨fun s K => @sOp (some 121) (xMov (s.τ 0) s.H) s ⟨K⟩⟩ ⟨W115_c32 P Φ⟩
def W115_c34 (P : Program) (Φ : Exit → St → Prop) (s : St) : Prop :=
  @sGrd (guardOf (s.τ 109) true) (some 116) s ⟨fun s K => @sOp (some 116) (xLoad 1 false (s.τ 115) s.H) s ⟨K⟩⟩ ⟨W115_c33 P Φ⟩
def W115_c35 (P : Program) (Φ : Exit → St → Prop) (s : St) : Prop :=
  @sGrd (guardOf (s.τ 109) true) (some 115) s ⟨fun s K => @sOp (some 115) (xIx 1 (s.τ 113) (s.τ 114) s.H) s ⟨K⟩⟩ ⟨W115_c34 P Φ⟩
def W115_c36 (P : Program) (Φ : Exit → St → Prop) (s : St) : Prop :=
  @sGrd (guardOf (s.τ 109) true) (some 114) s ⟨fun s K => @sOp (some 114) (xMov (s.τ 9) s.H) s ⟨K⟩⟩ ⟨W115_c35 P Φ⟩
def W115_c37 (P : Program) (Φ : Exit → St → Prop) (s : St) : Prop :=
  @sGrd (guardOf (s.τ 109) true) (some 113) s ⟨fun s K => @sOp (some 113) (xLoad 1 false (s.τ 112) s.H) s ⟨K⟩⟩ ⟨W115_c36 P Φ⟩
def W115_c38 (P : Program) (Φ : Exit → St → Prop) (s : St) : Prop :=
  @sGrd (guardOf (s.τ 109) true) (some 112) s ⟨fun s K => @sOp (some 112) (xFld 1 (s.τ 111) s.H) s ⟨K⟩⟩ ⟨W115_c37 P Φ⟩
def W115_c39 (P : Program) (Φ : Exit → St → Prop) (s : St) : Prop :=
  @sGrd (guardOf (s.τ 109) true) (some 111) s ⟨fun s K => @sOp (some 111) (xNil (s.τ 110) s.H) s ⟨K⟩⟩ ⟨W115_c38 P Φ⟩
def W115_c40 (P : Program) (Φ : Exit → St → Prop) (s : St) : Prop :=
  @sOp (some 9) (xMov (s.τ 106) s.H) s <| .mk fun s =>
  @sOp (some 107) (xMov (s.τ 9) s.H) s <| .mk fun s =>
  @sOp (some 108) (xBin .geq false (s.τ 107) (.int .i64 0) s.H) s <| .mk fun s =>
  @sOp (some 109) (xMov (s.τ 108) s.H) s <| .mk fun s =>
  @sGrd (guardOf (s.τ 109) true) (some 110) s ⟨fun s K => @sOp (some 110) (xMov (s.τ 0) s.H) s ⟨K⟩⟩ ⟨W115_c39 P Φ⟩
def W115_b41 (P : Program) (Φ : Exit → St → Prop) (s : St) : Prop :=
  @sOp (some 100) (xMov (s.τ 0) s.H) s <| .mk fun s =>
  @sOp (some 101) (xNil (s.τ 100) s.H) s <| .mk fun s =>
  @sOp (some 102) (xFld 0 (s.τ 101) s.H) s <| .mk fun s =>
  @sOp (some 103) (xLoad 1 false (s.τ 102) s.H) s <| .mk fun s =>
  @sOp (some 104) (xFld 1 (s.τ 3) s.H) s <| .mk fun s =>
  @sOp (some 105) (xLoad 1 false (s.τ 104) s.H) s <| .mk fun s =>
  @sCall0 P (.func 91 []) [(s.τ 103), (s.τ 105)] (some 106) s ⟨W115_c40 P Φ⟩
def W115_b42 (P : Program) (Φ : Exit → St → Prop) (s : St) : Prop :=
  @sOp (some 4) (xMov (.bool true) s.H) s <| .mk fun s =>
  @sOp (some 5) (xMov (.bool false) s.H) s <| .mk fun s =>
  Φ .ret s
def W115_b43 (P : Program) (Φ : Exit → St → Prop) (s : St) : Prop :=
  @sOp (some 99) (xBin .eql false (s.τ 36) (.int .i64 13) s.H) s <| .mk fun s =>
  @sOp (some 98) (xMov (s.τ 99) s.H) s <| .mk fun s =>
  @sIf (s.τ 98) ⟨W115_b41 P Φ s⟩ ⟨W115_b42 P Φ s⟩
def W115_b44 (P : Program) (Φ : Exit → St → Prop) (s : St) : Prop :=
  @sOp (some 81) (xBin .eql false (s.τ 36) (.int .i64 12) s.H) s <| .mk fun s =>
  @sOp (some 80) (xMov (s.τ 81) s.H) s <| .mk fun s =>
  @sIf (s.τ 80) ⟨W115_b25 P Φ s⟩ ⟨W115_b43 P Φ s⟩
def W115_b45 (P : Program) (Φ : Exit → St → Prop) (s : St) : Prop :=
  @sOp (some 67) (xBin .eql false (s.τ 36) (.int .i64 11) s.H) s <| .mk fun s =>
  @sOp (some 66) (xMov (s.τ 67) s.H) s <| .mk fun s =>
  @sIf (s.τ 66) ⟨W115_b16 P Φ s⟩ ⟨W115_b44 P Φ s⟩
def W115_k46 (P : Program) (Φ : Exit → St → Prop) (s : St) : Prop :=
  @sIf (s.τ 51) ⟨W115_b11 P Φ s⟩ ⟨W115_b45 P Φ s⟩
def W115_b47 (P : Program) (Φ : Exit → St → Prop) (s : St) : Prop :=
  @sOp (some 53) (xBin .eql false (s.τ 36) (.int .i64 10) s.H) s <| .mk fun s =>
  @sOp (some 51) (xMov (s.τ 53) s.H) s <| .mk fun s =>
  W115_k46 P Φ s
def W115_b48 (P : Program) (Φ : Exit → St → Prop) (s : St) : Prop :=
  @sOp (some 52) (xBin .eql false (s.τ 36) (.int .i64 9) s.H) s <| .mk fun s =>
  @sOp (some 51) (xMov (s.τ 52) s.H) s <| .mk fun s =>
  @sIf (s.τ 51) ⟨W115_k46 P Φ s⟩ ⟨W115_b47 P Φ s⟩
def W115_b49 (P : Program) (Φ : Exit → St → Prop) (s : St) : Prop :=
  @sOp (some 44) (xBin .eql false (s.τ 36) (.int .i64 7) s.H) s <| .mk fun s =>
  @sOp (some 43) (xMov (s.τ 44) s.H) s <| .mk fun s =>
  @sIf (s.τ 43) ⟨W115_b6 P Φ s⟩ ⟨W115_b48 P Φ s⟩
def W115_b50 (P : Program) (Φ : Exit → St → Prop) (s : St) : Prop :=
  @sOp (some 42) (xBin .eql false (s.τ 36) (.int .i64 4) s.H) s <| .mk fun s =>
  @sOp (some 41) (xMov (s.τ 42) s.H) s <| .mk fun s =>
  @sIf (s.τ 41) ⟨W115_b3 P Φ s⟩ ⟨W115_b49 P Φ s⟩
def W115_b51 (P : Program) (Φ : Exit → St → Prop) (s : St) : Prop :=
  @sOp (some 40) (xBin .eql false (s.τ 36) (.int .i64 8) s.H) s <| .mk fun s =>
  @sOp (some 39) (xMov (s.τ 40) s.H) s <| .mk fun s =>
  @sIf (s.τ 39) ⟨W115_b2 P Φ s⟩ ⟨W115_b50 P Φ s⟩
def W115_k52 (P : Program) (Φ : Exit → St → Prop) (s : St) : Prop :=
  @sOp (some 35) (xFld 0 (s.τ 3) s.H) s <| .mk fun s =>
  @sOp (some 36) (xLoad 1 false (s.τ 35) s.H) s <| .mk fun s =>
  @sOp (some 38) (xBin .eql false (s.τ 36) (.int .i64 1) s.H) s <| .mk fun s =>
  @sOp (some 37) (xMov (s.τ 38) s.H) s <| .mk fun s =>
  @sIf (s.τ 37) ⟨W115_b1 P Φ s⟩ ⟨W115_b51 P Φ s⟩
def W115_c53 (P : Program) (Φ : Exit → St → Prop) (L0 : St → Prop) (s : St) : Prop :=
  @sOp (some 21) (xMov (s.τ 30) s.H) s <| .mk fun s =>
  @sOp (some 31) (xExt (s.τ 21) 0 s.H) s <| .mk fun s =>
  @sOp (some 32) (xExt (s.τ 21) 1 s.H) s <| .mk fun s =>
  @sOp (some 33) (xIxA 2 1 (s.τ 6) (s.τ 22) s.H) s <| .mk fun s =>
  @sOp none (xStore 1 (s.τ 33) (s.τ 31) s.H) s <| .mk fun s =>
  @sOp (some 34) (xIxA 2 1 (s.τ 7) (s.τ 23) s.H) s <| .mk fun s =>
  @sOp none (xStore 1 (s.τ 34) (s.τ 32) s.H) s <| .mk fun s =>
  @sOp (some 19) (xMov (s.τ 8) s.H) s <| .mk fun s =>
  @sOp (some 20) (xBin .add false (s.τ 19) (.int .i64 1) s.H) s <| .mk fun s =>
  @sOp (some 8) (xMov (s.τ 20) s.H) s <| .mk fun s =>
  L0 s
def W115_b54 (P : Program) (Φ : Exit → St → Prop) (L0 : St → Prop) (s : St) : Prop :=
  @sOp (some 22) (xMov (s.τ 8) s.H) s <| .mk fun s =>
  @sOp (some 23) (xMov (s.τ 8) s.H) s <| .mk fun s =>
  @sOp (some 24) (xMov (s.τ 0) s.H) s <| .mk fun s =>
  @sOp (some 25) (xFld 7 (s.τ 3) s.H) s <| .mk fun s =>
  @sOp (some 26) (xLoad 1 false (s.τ 25) s.H) s <| .mk fun s =>
  @sOp (some 27) (xMov (s.τ 8) s.H) s <| .mk fun s =>
  @sOp (some 28) (xIx 8 (s.τ 26) (s.τ 27) s.H) s <| .mk fun s =>
  @sOp (some 29) (xLoad 8 true (s.τ 28) s.H) s <| .mk fun s =>
  @sCall P (.func 115 []) [(s.τ 24), (s.τ 29)] (some 30) s ⟨W115_c53 P Φ L0⟩
def W115_c55 (P : Program) (Φ : Exit → St → Prop) (L0 : St → Prop) (s : St) : Prop :=
  @sOp (some 18) (xPick (s.τ 15) (s.τ 17) (.bool false) s.H) s <| .mk fun s =>
  @sIf (s.τ 18) ⟨W115_b54 P Φ L0 s⟩ ⟨W115_k52 P Φ s⟩
def W115_c56 (P : Program) (Φ : Exit → St → Prop) (L0 : St → Prop) (s : St) : Prop :=
  @sGrd (guardOf (s.τ 15) true) (some 17) s ⟨fun s K => @sOp (some 17) (xBin .lss false (s.τ 16) (.int .i64 2) s.H) s ⟨K⟩⟩ ⟨W115_c55 P Φ L0⟩
def W115_l57 (P : Program) (Φ : Exit → St → Prop) (L0 : St → Prop) (s : St) : Prop :=
  @sOp (some 10) (xMov (s.τ 8) s.H) s <| .mk fun s =>
  @sOp (some 11) (xFld 7 (s.τ 3) s.H) s <| .mk fun s =>
  @sOp (some 12) (xLoad 1 false (s.τ 11) s.H) s <| .mk fun s =>
  @sOp (some 13) (xLen (s.τ 12) s.H) s <| .mk fun s =>
  @sOp (some 14) (xBin .lss false (s.τ 10) (s.τ 13) s.H) s <| .mk fun s =>
  @sOp (some 15) (xMov (s.τ 14) s.H) s <| .mk fun s =>
  @sGrd (guardOf (s.τ 15) true) (some 16) s ⟨fun s K => @sOp (some 16) (xMov (s.τ 8) s.H) s ⟨K⟩⟩ ⟨W115_c56 P Φ L0⟩
def W115 (P : Program) (Φ : Exit → St → Prop) (s : St) : Prop :=
  @sOp (some 3) (xBox 3 73 (s.τ 1) s.H) s <| .mk fun s =>
  @sOp (some 4) (xMov (.bool false) s.H) s <| .mk fun s =>
  @sOp (some 5) (xMov (.bool false) s.H) s <| .mk fun s =>
  @sOp (some 6) (xAlloc 6 160 [.bool false, .bool false] s.H) s <| .mk fun s =>
  @sOp (some 7) (xAlloc 7 160 [.bool false, .bool false] s.H) s <| .mk fun s =>
  @sOp (some 8) (xMov (.int .i64 0) s.H) s <| .mk fun s =>
  @sLoop s ⟨fun L0 s => W115_l57 P Φ L0 s⟩
theorem W115_rs (τ : Nat → AV) (H : Heap) : resV Try.prog τ H [.tmp 4, .tmp 5] = ob (ob (some (τ 4)) fun v => ob (ob (some (τ 5)) fun v => ob (some []) fun vs => some (v :: vs)) fun vs => some (v :: vs)) fun vs => some (.tup vs) := by kernel_rfl
theorem W115_eq (Φ : Exit → St → Prop) (s : St) : awp Try.prog (Try.f115.body.getD .skip) Φ s = W115 Try.prog Φ s := by kernel_rfl

end Go.Proofs.Ytkagfenchknjjaa
set_option linter.unusedVariables false
namespace Go.Proofs.Ytkagfenchknjjaa
open Go Go.Am
-- 15 "penance/penancelaw5.TermWaits"
def W15_b1 (P : Program) (Φ : Exit → St → Prop) (s : St) : Prop :=
  @sOp (some 8) (xMov (.bool false) s.H) s <| .mk fun s =>
  Φ .ret s
def W15_b2 (P : Program) (Φ : Exit → St → Prop) (s : St) : Prop :=
  @sOp (some 8) (xMov (.bool true) s.H) s <| .mk fun s =>
  Φ .ret s
def W15_c3 (P : Program) (Φ : Exit → St → Prop) (s : St) : Prop :=
  @sOp (some 67) (xPick (s.τ 61) (s.τ 66) (.bool false) s.H) s <| .mk fun s =>
  @sOp (some 8) (xMov (s.τ 67) s.H) s <| .mk fun s =>
  Φ .ret s
def W15_c4 (P : Program) (Φ : Exit → St → Prop) (s : St) : Prop :=
  @sGrd (guardOf (s.τ 61) true) (some 66) s ⟨fun s K => @sOp (some 66) (xBin .eql false (s.τ 65) (.int .i64 0) s.H) s ⟨K⟩⟩ ⟨W15_c3 P Φ⟩
def W15_c5 (P : Program) (Φ : Exit → St → Prop) (s : St) : Prop :=
  @sGrd (guardOf (s.τ 61) true) (some 65) s ⟨fun s K => @sOp (some 65) (xLen (s.τ 64) s.H) s ⟨K⟩⟩ ⟨W15_c4 P Φ⟩
def W15_c6 (P : Program) (Φ : Exit → St → Prop) (s : St) : Prop :=
  @sGrd (guardOf (s.τ 61) true) (some 64) s ⟨fun s K => @sCall P (.func 41 []) [(s.τ 63)] (some 64) s ⟨K⟩⟩ ⟨W15_c5 P Φ⟩
def W15_c7 (P : Program) (Φ : Exit → St → Prop) (s : St) : Prop :=
  @sGrd (guardOf (s.τ 61) true) (some 63) s ⟨fun s K => @sOp (some 63) (xBuild [.int .i64 0, .int .i64 0, .int .i64 0, .str ⟨#[]⟩, .int .i64 0, .int .i64 0, .str ⟨#[]⟩, .nils, .nils] [(0, 1, (.int .i64 10)), (8, 1, (s.τ 62))] s.H) s ⟨K⟩⟩ ⟨W15_c6 P Φ⟩
def W15_c8 (P : Program) (Φ : Exit → St → Prop) (s : St) : Prop :=
  @sOp (some 60) (xPick (s.τ 53) (s.τ 59) (.bool false) s.H) s <| .mk fun s =>
  @sOp (some 61) (xMov (s.τ 60) s.H) s <| .mk fun s =>
  @sGrd (guardOf (s.τ 61) true) (some 62) s ⟨fun s K => @sOp (some 62) (xMov (s.τ 14) s.H) s ⟨K⟩⟩ ⟨W15_c7 P Φ⟩
def W15_c9 (P : Program) (Φ : Exit → St → Prop) (s : St) : Prop :=
  @sGrd (guardOf (s.τ 53) true) (some 59) s ⟨fun s K => @sCall P (.func 27 []) [(s.τ 57), (s.τ 58)] (some 59) s ⟨K⟩⟩ ⟨W15_c8 P Φ⟩
def W15_c10 (P : Program) (Φ : Exit → St → Prop) (s : St) : Prop :=
  @sGrd (guardOf (s.τ 53) true) (some 58) s ⟨fun s K => @sOp (some 58) (xMov (s.τ 11) s.H) s ⟨K⟩⟩ ⟨W15_c9 P Φ⟩
def W15_c11 (P : Program) (Φ : Exit → St → Prop) (s : St) : Prop :=
  @sGrd (guardOf (s.τ 53) true) (some 57) s ⟨fun s K => @sCall P (.func 41 []) [(s.τ 56)] (some 57) s ⟨K⟩⟩ ⟨W15_c10 P Φ⟩
def W15_c12 (P : Program) (Φ : Exit → St → Prop) (s : St) : Prop :=
  @sGrd (guardOf (s.τ 53) true) (some 56) s ⟨fun s K => @sOp (some 56) (xBuild [.int .i64 0, .int .i64 0, .int .i64 0, .str ⟨#[]⟩, .int .i64 0, .int .i64 0, .str ⟨#[]⟩, .nils, .nils] [(0, 1, (.int .i64 7)), (8, 1, (s.τ 55))] s.H) s ⟨K⟩⟩ ⟨W15_c11 P Φ⟩
def W15_c13 (P : Program) (Φ : Exit → St → Prop) (s : St) : Prop :=
  @sGrd (guardOf (s.τ 53) true) (some 55) s ⟨fun s K => @sOp (some 55) (xLit 9 1 [.int .i64 0, .int .i64 0, .int .i64 0, .str ⟨#[]⟩, .int .i64 0, .int .i64 0, .str ⟨#[]⟩, .nils, .nils] [(0, (s.τ 54))] s.H) s ⟨K⟩⟩ ⟨W15_c12 P Φ⟩
def W15_c14 (P : Program) (Φ : Exit → St → Prop) (s : St) : Prop :=
  @sOp (some 52) (xPick (s.τ 46) (s.τ 51) (.bool false) s.H) s <| .mk fun s =>
  @sOp (some 53) (xMov (s.τ 52) s.H) s <| .mk fun s =>
  @sGrd (guardOf (s.τ 53) true) (some 54) s ⟨fun s K => @sOp (some 54) (xLoad 9 true (s.τ 9) s.H) s ⟨K⟩⟩ ⟨W15_c13 P Φ⟩
def W15_c15 (P : Program) (Φ : Exit → St → Prop) (s : St) : Prop :=
  @sGrd (guardOf (s.τ 46) true) (some 51) s ⟨fun s K => @sCall P (.func 27 []) [(s.τ 49), (s.τ 50)] (some 51) s ⟨K⟩⟩ ⟨W15_c14 P Φ⟩
def W15_c16 (P : Program) (Φ : Exit → St → Prop) (s : St) : Prop :=
  @sGrd (guardOf (s.τ 46) true) (some 50) s ⟨fun s K => @sOp (some 50) (xMov (s.τ 11) s.H) s ⟨K⟩⟩ ⟨W15_c15 P Φ⟩
def W15_c17 (P : Program) (Φ : Exit → St → Prop) (s : St) : Prop :=
  @sGrd (guardOf (s.τ 46) true) (some 49) s ⟨fun s K => @sCall P (.func 41 []) [(s.τ 48)] (some 49) s ⟨K⟩⟩ ⟨W15_c16 P Φ⟩
def W15_c18 (P : Program) (Φ : Exit → St → Prop) (s : St) : Prop :=
  @sGrd (guardOf (s.τ 46) true) (some 48) s ⟨fun s K => @sOp (some 48) (xBuild [.int .i64 0, .int .i64 0, .int .i64 0, .str ⟨#[]⟩, .int .i64 0, .int .i64 0, .str ⟨#[]⟩, .nils, .nils] [(0, 1, (.int .i64 12)), (8, 1, (s.τ 47))] s.H) s ⟨K⟩⟩ ⟨W15_c17 P Φ⟩
def W15_c19 (P : Program) (Φ : Exit → St → Prop) (s : St) : Prop :=
  @sOp (some 46) (xMov (s.τ 45) s.H) s <| .mk fun s =>
  @sGrd (guardOf (s.τ 46) true) (some 47) s ⟨fun s K => @sOp (some 47) (xMov (s.τ 14) s.H) s ⟨K⟩⟩ ⟨W15_c18 P Φ⟩
def W15_c20 (P : Program) (Φ : Exit → St → Prop) (s : St) : Prop :=
  @sOp (some 44) (xMov (s.τ 13) s.H) s <| .mk fun s =>
  @sCall P (.func 27 []) [(s.τ 43), (s.τ 44)] (some 45) s ⟨W15_c19 P Φ⟩
def W15_c21 (P : Program) (Φ : Exit → St → Prop) (s : St) : Prop :=
  @sOp (some 11) (xMov (s.τ 30) s.H) s <| .mk fun u5 =>
  @sOp (some 12) (xMov (u5.τ 32) u5.H) u5 <| .mk fun s =>
  @sOp (some 33) (xRow 33 3 1 0 [.int .i64 0] [] s.H) s <| .mk fun s =>
  @sOp (some 34) (xMov (s.τ 11) s.H) s <| .mk fun s =>
  @sOp (some 35) (xApp P 3 1 8 (some 35) (s.τ 33) (s.τ 34) s.H) s <| .mk fun s =>
  @sOp (some 36) (xMov (s.τ 12) s.H) s <| .mk fun s =>
  @sOp (some 37) (xApp P 3 1 8 (some 37) (s.τ 35) (s.τ 36) s.H) s <| .mk fun s =>
  @sOp (some 13) (xMov (s.τ 37) s.H) s <| .mk fun s =>
  @sOp (some 38) (xLoad 9 true (s.τ 9) s.H) s <| .mk fun s =>
  @sOp (some 39) (xLoad 9 true (s.τ 10) s.H) s <| .mk fun s =>
  @sOp (some 40) (xLit 9 2 [.int .i64 0, .int .i64 0, .int .i64 0, .str ⟨#[]⟩, .int .i64 0, .int .i64 0, .str ⟨#[]⟩, .nils, .nils] [(0, (s.τ 38)), (1, (s.τ 39))] s.H) s <| .mk fun s =>
  @sOp (some 14) (xMov (s.τ 40) s.H) s <| .mk fun s =>
  @sOp (some 41) (xMov (s.τ 14) s.H) s <| .mk fun s =>
  @sOp (some 42) (xBuild [.int .i64 0, .int .i64 0, .int .i64 0, .str ⟨#[]⟩, .int .i64 0, .int .i64 0, .str ⟨#[]⟩, .nils, .nils] [(0, 1, (.int .i64 11)), (8, 1, (s.τ 41))] s.H) s <| .mk fun s =>
  @sCall P (.func 41 []) [(s.τ 42)] (some 43) s ⟨W15_c20 P Φ⟩
def W15_c22 (P : Program) (Φ : Exit → St → Prop) (u1 : St) (s : St) : Prop :=
  @sChk (compat ([30] ++ (occ (.func 41 []) ++ occL [(u1.τ 29)]), [30] ++ (occ (.func 41 []) ++ occL [(u1.τ 29)])) (occ (s.τ 10), [])) <| .mk <|
  @sOp (some 31) (xLoad 9 true (s.τ 10) s.H) s <| .mk fun u3 =>
  @sCall0 P (.func 41 []) [(u3.τ 31)] (some 32) u3 ⟨W15_c21 P Φ⟩
def W15_c23 (P : Program) (Φ : Exit → St → Prop) (u0 : St) (u2 : St) (u3 : St) (u5 : St) (s : St) : Prop :=
  @sChk (compat (occ (u0.τ 4), []) ([9], [9])) <| .mk <|
  @sChk (compat ([25] ++ (occ (.func 23 []) ++ occL [(u2.τ 23), (u2.τ 24)]), [25] ++ (occ (.func 23 []) ++ occL [(u2.τ 23), (u2.τ 24)])) ([9], [9])) <| .mk <|
  @sChk (compat (occ (u3.τ 5), []) ([9], [9])) <| .mk <|
  @sChk (compat ([28] ++ (occ (.func 23 []) ++ occL [(u5.τ 26), (u5.τ 27)]), [28] ++ (occ (.func 23 []) ++ occL [(u5.τ 26), (u5.τ 27)])) ([9], [9])) <| .mk <|
  @sOp (some 9) (xAlloc 9 34 [.int .i64 0, .int .i64 0, .int .i64 0, .str ⟨#[]⟩, .int .i64 0, .int .i64 0, .str ⟨#[]⟩, .nils, .nils] s.H) s <| .mk fun u7 =>
  @sChk (compat (occ (u0.τ 4), []) ([10], [10])) <| .mk <|
  @sChk (compat ([25] ++ (occ (.func 23 []) ++ occL [(u2.τ 23), (u2.τ 24)]), [25] ++ (occ (.func 23 []) ++ occL [(u2.τ 23), (u2.τ 24)])) ([10], [10])) <| .mk <|
  @sChk (compat (occ (u3.τ 5), []) ([10], [10])) <| .mk <|
  @sChk (compat ([28] ++ (occ (.func 23 []) ++ occL [(u5.τ 26), (u5.τ 27)]), [28] ++ (occ (.func 23 []) ++ occL [(u5.τ 26), (u5.τ 27)])) ([10], [10])) <| .mk <|
  @sChk (compat ([9], [9]) ([10], [10])) <| .mk <|
  @sOp (some 10) (xAlloc 10 34 [.int .i64 0, .int .i64 0, .int .i64 0, .str ⟨#[]⟩, .int .i64 0, .int .i64 0, .str ⟨#[]⟩, .nils, .nils] u7.H) u7 <| .mk fun u8 =>
  @sOp none (xStore 9 (u8.τ 9) (u8.τ 25) u8.H) u8 <| .mk fun u9 =>
  @sOp none (xStore 9 (u9.τ 10) (u9.τ 28) u9.H) u9 <| .mk fun s =>
  @sOp (some 29) (xLoad 9 true (s.τ 9) s.H) s <| .mk fun u1 =>
  @sCall0 P (.func 41 []) [(u1.τ 29)] (some 30) u1 ⟨W15_c22 P Φ u1⟩
def W15_c24 (P : Program) (Φ : Exit → St → Prop) (u0 : St) (u2 : St) (s : St) : Prop :=
  @sChk (compat ([25] ++ (occ (.func 23 []) ++ occL [(u2.τ 23), (u2.τ 24)]), [25] ++ (occ (.func 23 []) ++ occL [(u2.τ 23), (u2.τ 24)])) (occ (s.τ 5), [])) <| .mk <|
  @sOp (some 26) (xLoad 5 true (s.τ 5) s.H) s <| .mk fun u4 =>
  @sOp (some 27) (xMov (u4.τ 3) u4.H) u4 <| .mk fun u5 =>
  @sCall0 P (.func 23 []) [(u5.τ 26), (u5.τ 27)] (some 28) u5 ⟨W15_c23 P Φ u0 u2 s u5⟩
def W15_b25 (P : Program) (Φ : Exit → St → Prop) (s : St) : Prop :=
  @sOp (some 23) (xLoad 5 true (s.τ 4) s.H) s <| .mk fun u1 =>
  @sOp (some 24) (xMov (u1.τ 2) u1.H) u1 <| .mk fun u2 =>
  @sCall0 P (.func 23 []) [(u2.τ 23), (u2.τ 24)] (some 25) u2 ⟨W15_c24 P Φ s u2⟩
def W15_c26 (P : Program) (Φ : Exit → St → Prop) (s : St) : Prop :=
  @sOp (some 22) (xNot (s.τ 21) s.H) s <| .mk fun s =>
  @sIf (s.τ 22) ⟨W15_b2 P Φ s⟩ ⟨W15_b25 P Φ s⟩
def W15_b27 (P : Program) (Φ : Exit → St → Prop) (s : St) : Prop :=
  @sOp (some 17) (xLoad 5 true (s.τ 4) s.H) s <| .mk fun s =>
  @sOp (some 18) (xLoad 5 true (s.τ 5) s.H) s <| .mk fun s =>
  @sOp (some 19) (xLit 5 2 [.int .i64 0, .int .i64 0, .int .i64 0, .nils, .nils] [(0, (s.τ 17)), (1, (s.τ 18))] s.H) s <| .mk fun s =>
  @sOp (some 20) (xBuild [.int .i64 0, .int .i64 0, .nils] [(2, 1, (s.τ 19))] s.H) s <| .mk fun s =>
  @sCall P (.func 21 []) [(s.τ 20)] (some 21) s ⟨W15_c26 P Φ⟩
def W15_c28 (P : Program) (Φ : Exit → St → Prop) (s : St) : Prop :=
  @sOp (some 16) (xNot (s.τ 15) s.H) s <| .mk fun s =>
  @sIf (s.τ 16) ⟨W15_b1 P Φ s⟩ ⟨W15_b27 P Φ s⟩
def W15 (P : Program) (Φ : Exit → St → Prop) (s : St) : Prop :=
  @sOp (some 4) (xBox 4 25 (s.τ 0) s.H) s <| .mk fun s =>
  @sOp (some 5) (xBox 5 25 (s.τ 1) s.H) s <| .mk fun s =>
  @sOp (some 8) (xMov (.bool false) s.H) s <| .mk fun s =>
  @sCall P (.func 32 []) [] (some 15) s ⟨W15_c28 P Φ⟩
theorem W15_rs (τ : Nat → AV) (H : Heap) : resV Try.prog τ H [.tmp 8] = some (τ 8) := by kernel_rfl
theorem W15_eq (Φ : Exit → St → Prop) (s : St) : awp Try.prog (Try.f15.body.getD .skip) Φ s = W15 Try.prog Φ s := by kernel_rfl

end Go.Proofs.Ytkagfenchknjjaa
set_option linter.unusedVariables false
namespace Go.Proofs.Ytkagfenchknjjaa
open Go Go.Am
-- 16 "penance/penancelaw5.TermSizes"
def W16_b1 (P : Program) (Φ : Exit → St → Prop) (s : St) : Prop :=
  @sOp (some 6) (xMov (.bool false) s.H) s <| .mk fun s =>
  Φ .ret s
def W16_b2 (P : Program) (Φ : Exit → St → Prop) (s : St) : Prop :=
  @sOp (some 6) (xMov (.bool true) s.H) s <| .mk fun s =>
  Φ .ret s
def W16_c3 (P : Program) (Φ : Exit → St → Prop) (s : St) : Prop :=
  @sOp (some 54) (xPick (s.τ 45) (s.τ 53) (.bool false) s.H) s <| .mk fun u28 =>
  @sOp (some 6) (xMov (u28.τ 54) u28.H) u28 <| .mk fun s =>
  Φ .ret s
def W16_c4 (P : Program) (Φ : Exit → St → Prop) (s : St) : Prop :=
  @sGrd (guardOf (s.τ 45) true) (some 53) s ⟨fun s K => @sOp (some 53) (xBin .eql false (s.τ 49) (s.τ 52) s.H) s ⟨K⟩⟩ ⟨W16_c3 P Φ⟩
def W16_c5 (P : Program) (Φ : Exit → St → Prop) (s : St) : Prop :=
  @sGrd (guardOf (s.τ 45) true) (some 52) s ⟨fun s K => @sOp (some 52) (xBin .add false (.int .i64 1) (s.τ 51) s.H) s ⟨K⟩⟩ ⟨W16_c4 P Φ⟩
def W16_c6 (P : Program) (Φ : Exit → St → Prop) (s : St) : Prop :=
  @sGrd (guardOf (s.τ 45) true) (some 51) s ⟨fun s K => @sCall0 P (.func 36 []) [(s.τ 50)] (some 51) s ⟨K⟩⟩ ⟨W16_c5 P Φ⟩
def W16_c7 (P : Program) (Φ : Exit → St → Prop) (u20 : St) (u22 : St) (s : St) : Prop :=
  @sChk (compat ([47] ++ occL [(u20.τ 46)], [47] ++ occL [(u20.τ 46)]) (occ (s.τ 7), [])) <| .mk <|
  @sChk (compat ([49] ++ (occ (.func 36 []) ++ occL [(u22.τ 48)]), [49] ++ (occ (.func 36 []) ++ occL [(u22.τ 48)])) (occ (s.τ 7), [])) <| .mk <|
  @sGrd (guardOf (s.τ 45) true) (some 50) s ⟨fun s K => @sOp (some 50) (xLoad 9 true (s.τ 7) s.H) s ⟨K⟩⟩ ⟨W16_c6 P Φ⟩
def W16_c8 (P : Program) (Φ : Exit → St → Prop) (u20 : St) (s : St) : Prop :=
  @sGrd (guardOf (s.τ 45) true) (some 49) s ⟨fun s K => @sCall0 P (.func 36 []) [(s.τ 48)] (some 49) s ⟨K⟩⟩ ⟨W16_c7 P Φ u20 s⟩
def W16_c9 (P : Program) (Φ : Exit → St → Prop) (u20 : St) (s : St) : Prop :=
  @sGrd (guardOf (s.τ 45) true) (some 48) s ⟨fun s K => @sOp (some 48) (xBuild [.int .i64 0, .int .i64 0, .int .i64 0, .str ⟨#[]⟩, .int .i64 0, .int .i64 0, .str ⟨#[]⟩, .nils, .nils] [(0, 1, (.int .i64 7)), (8, 1, (s.τ 47))] s.H) s ⟨K⟩⟩ ⟨W16_c8 P Φ u20⟩
def W16_c10 (P : Program) (Φ : Exit → St → Prop) (s : St) : Prop :=
  @sGrd (guardOf (s.τ 45) true) (some 47) s ⟨fun s K => @sOp (some 47) (xLit 9 1 [.int .i64 0, .int .i64 0, .int .i64 0, .str ⟨#[]⟩, .int .i64 0, .int .i64 0, .str ⟨#[]⟩, .nils, .nils] [(0, (s.τ 46))] s.H) s ⟨K⟩⟩ ⟨W16_c9 P Φ s⟩
def W16_c11 (P : Program) (Φ : Exit → St → Prop) (s : St) : Prop :=
  @sOp (some 44) (xPick (s.τ 30) (s.τ 43) (.bool false) s.H) s <| .mk fun u18 =>
  @sOp (some 45) (xMov (u18.τ 44) u18.H) u18 <| .mk fun u19 =>
  @sGrd (guardOf (u19.τ 45) true) (some 46) u19 ⟨fun s K => @sOp (some 46) (xLoad 9 true (s.τ 7) s.H) s ⟨K⟩⟩ ⟨W16_c10 P Φ⟩
def W16_c12 (P : Program) (Φ : Exit → St → Prop) (s : St) : Prop :=
  @sGrd (guardOf (s.τ 30) true) (some 43) s ⟨fun s K => @sOp (some 43) (xBin .eql false (s.τ 36) (s.τ 42) s.H) s ⟨K⟩⟩ ⟨W16_c11 P Φ⟩
def W16_c13 (P : Program) (Φ : Exit → St → Prop) (s : St) : Prop :=
  @sGrd (guardOf (s.τ 30) true) (some 42) s ⟨fun s K => @sOp (some 42) (xBin .add false (s.τ 39) (s.τ 41) s.H) s ⟨K⟩⟩ ⟨W16_c12 P Φ⟩
def W16_c14 (P : Program) (Φ : Exit → St → Prop) (s : St) : Prop :=
  @sGrd (guardOf (s.τ 30) true) (some 41) s ⟨fun s K => @sCall0 P (.func 36 []) [(s.τ 40)] (some 41) s ⟨K⟩⟩ ⟨W16_c13 P Φ⟩
def W16_c15 (P : Program) (Φ : Exit → St → Prop) (u7 : St) (u9 : St) (u11 : St) (s : St) : Prop :=
  @sChk (compat ([34] ++ occL [(u7.τ 32), (u7.τ 33)], [34] ++ occL [(u7.τ 32), (u7.τ 33)]) (occ (s.τ 8), [])) <| .mk <|
  @sChk (compat ([36] ++ (occ (.func 36 []) ++ occL [(u9.τ 35)]), [36] ++ (occ (.func 36 []) ++ occL [(u9.τ 35)])) (occ (s.τ 8), [])) <| .mk <|
  @sChk (compat ([38] ++ (occ (.func 36 []) ++ occL [(u11.τ 37)]), [38] ++ (occ (.func 36 []) ++ occL [(u11.τ 37)])) (occ (s.τ 8), [])) <| .mk <|
  @sGrd (guardOf (s.τ 30) true) (some 40) s ⟨fun s K => @sOp (some 40) (xLoad 9 true (s.τ 8) s.H) s ⟨K⟩⟩ ⟨W16_c14 P Φ⟩
def W16_c16 (P : Program) (Φ : Exit → St → Prop) (u7 : St) (u9 : St) (u11 : St) (s : St) : Prop :=
  @sGrd (guardOf (s.τ 30) true) (some 39) s ⟨fun s K => @sOp (some 39) (xBin .add false (.int .i64 1) (s.τ 38) s.H) s ⟨K⟩⟩ ⟨W16_c15 P Φ u7 u9 u11⟩
def W16_c17 (P : Program) (Φ : Exit → St → Prop) (u7 : St) (u9 : St) (s : St) : Prop :=
  @sGrd (guardOf (s.τ 30) true) (some 38) s ⟨fun s K => @sCall0 P (.func 36 []) [(s.τ 37)] (some 38) s ⟨K⟩⟩ ⟨W16_c16 P Φ u7 u9 s⟩
def W16_c18 (P : Program) (Φ : Exit → St → Prop) (u7 : St) (u9 : St) (s : St) : Prop :=
  @sChk (compat ([34] ++ occL [(u7.τ 32), (u7.τ 33)], [34] ++ occL [(u7.τ 32), (u7.τ 33)]) (occ (s.τ 7), [])) <| .mk <|
  @sChk (compat ([36] ++ (occ (.func 36 []) ++ occL [(u9.τ 35)]), [36] ++ (occ (.func 36 []) ++ occL [(u9.τ 35)])) (occ (s.τ 7), [])) <| .mk <|
  @sGrd (guardOf (s.τ 30) true) (some 37) s ⟨fun s K => @sOp (some 37) (xLoad 9 true (s.τ 7) s.H) s ⟨K⟩⟩ ⟨W16_c17 P Φ u7 u9⟩
def W16_c19 (P : Program) (Φ : Exit → St → Prop) (u7 : St) (s : St) : Prop :=
  @sGrd (guardOf (s.τ 30) true) (some 36) s ⟨fun s K => @sCall0 P (.func 36 []) [(s.τ 35)] (some 36) s ⟨K⟩⟩ ⟨W16_c18 P Φ u7 s⟩
def W16_c20 (P : Program) (Φ : Exit → St → Prop) (u7 : St) (s : St) : Prop :=
  @sGrd (guardOf (s.τ 30) true) (some 35) s ⟨fun s K => @sOp (some 35) (xBuild [.int .i64 0, .int .i64 0, .int .i64 0, .str ⟨#[]⟩, .int .i64 0, .int .i64 0, .str ⟨#[]⟩, .nils, .nils] [(0, 1, (s.τ 31)), (8, 1, (s.τ 34))] s.H) s ⟨K⟩⟩ ⟨W16_c19 P Φ u7⟩
def W16_c21 (P : Program) (Φ : Exit → St → Prop) (s : St) : Prop :=
  @sGrd (guardOf (s.τ 30) true) (some 34) s ⟨fun s K => @sOp (some 34) (xLit 9 2 [.int .i64 0, .int .i64 0, .int .i64 0, .str ⟨#[]⟩, .int .i64 0, .int .i64 0, .str ⟨#[]⟩, .nils, .nils] [(0, (s.τ 32)), (1, (s.τ 33))] s.H) s ⟨K⟩⟩ ⟨W16_c20 P Φ s⟩
def W16_c22 (P : Program) (Φ : Exit → St → Prop) (s : St) : Prop :=
  @sGrd (guardOf (s.τ 30) true) (some 33) s ⟨fun s K => @sOp (some 33) (xLoad 9 true (s.τ 8) s.H) s ⟨K⟩⟩ ⟨W16_c21 P Φ⟩
def W16_c23 (P : Program) (Φ : Exit → St → Prop) (s : St) : Prop :=
  @sGrd (guardOf (s.τ 30) true) (some 32) s ⟨fun s K => @sOp (some 32) (xLoad 9 true (s.τ 7) s.H) s ⟨K⟩⟩ ⟨W16_c22 P Φ⟩
def W16_c24 (P : Program) (Φ : Exit → St → Prop) (s : St) : Prop :=
  @sOp (some 29) (xBin .geq false (s.τ 28) (.int .i64 1) s.H) s <| .mk fun u3 =>
  @sOp (some 30) (xMov (u3.τ 29) u3.H) u3 <| .mk fun u4 =>
  @sGrd (guardOf (u4.τ 30) true) (some 31) u4 ⟨fun s K => @sOp (some 31) (xMov (s.τ 9) s.H) s ⟨K⟩⟩ ⟨W16_c23 P Φ⟩
def W16_c25 (P : Program) (Φ : Exit → St → Prop) (s : St) : Prop :=
  @sOp (some 25) (xIx 1 (s.τ 22) (s.τ 24) s.H) s <| .mk fun s =>
  @sOp (some 26) (xLoad 1 false (s.τ 25) s.H) s <| .mk fun s =>
  @sOp (some 9) (xMov (s.τ 26) s.H) s <| .mk fun s =>
  @sOp (some 27) (xLoad 9 true (s.τ 7) s.H) s <| .mk fun u1 =>
  @sCall0 P (.func 36 []) [(u1.τ 27)] (some 28) u1 ⟨W16_c24 P Φ⟩
def W16_c26 (P : Program) (Φ : Exit → St → Prop) (u0 : St) (u1 : St) (u2 : St) (u3 : St) (s : St) : Prop :=
  @sChk (compat (occ (u0.τ 3), []) ([7], [7])) <| .mk <|
  @sChk (compat ([19] ++ (occ (.func 23 []) ++ occL [(u1.τ 18), (.int .i64 0)]), [19] ++ (occ (.func 23 []) ++ occL [(u1.τ 18), (.int .i64 0)])) ([7], [7])) <| .mk <|
  @sChk (compat (occ (u2.τ 4), []) ([7], [7])) <| .mk <|
  @sChk (compat ([21] ++ (occ (.func 23 []) ++ occL [(u3.τ 20), (.int .i64 0)]), [21] ++ (occ (.func 23 []) ++ occL [(u3.τ 20), (.int .i64 0)])) ([7], [7])) <| .mk <|
  @sOp (some 7) (xAlloc 7 34 [.int .i64 0, .int .i64 0, .int .i64 0, .str ⟨#[]⟩, .int .i64 0, .int .i64 0, .str ⟨#[]⟩, .nils, .nils] s.H) s <| .mk fun u5 =>
  @sChk (compat (occ (u0.τ 3), []) ([8], [8])) <| .mk <|
  @sChk (compat ([19] ++ (occ (.func 23 []) ++ occL [(u1.τ 18), (.int .i64 0)]), [19] ++ (occ (.func 23 []) ++ occL [(u1.τ 18), (.int .i64 0)])) ([8], [8])) <| .mk <|
  @sChk (compat (occ (u2.τ 4), []) ([8], [8])) <| .mk <|
  @sChk (compat ([21] ++ (occ (.func 23 []) ++ occL [(u3.τ 20), (.int .i64 0)]), [21] ++ (occ (.func 23 []) ++ occL [(u3.τ 20), (.int .i64 0)])) ([8], [8])) <| .mk <|
  @sChk (compat ([7], [7]) ([8], [8])) <| .mk <|
  @sOp (some 8) (xAlloc 8 34 [.int .i64 0, .int .i64 0, .int .i64 0, .str ⟨#[]⟩, .int .i64 0, .int .i64 0, .str ⟨#[]⟩, .nils, .nils] u5.H) u5 <| .mk fun u6 =>
  @sOp none (xStore 9 (u6.τ 7) (u6.τ 19) u6.H) u6 <| .mk fun u7 =>
  @sOp none (xStore 9 (u7.τ 8) (u7.τ 21) u7.H) u7 <| .mk fun s =>
  @sOp (some 22) (xLit 1 3 [.int .i64 0] [(0, (.int .i64 12)), (1, (.int .i64 11)), (2, (.int .i64 10))] s.H) s <| .mk fun s =>
  @sOp (some 23) (xMov (s.τ 2) s.H) s <| .mk fun s =>
  @sCall P (.func 43 []) [(s.τ 23), (.int .i64 3)] (some 24) s ⟨W16_c25 P Φ⟩
def W16_c27 (P : Program) (Φ : Exit → St → Prop) (u0 : St) (u1 : St) (s : St) : Prop :=
  @sChk (compat ([19] ++ (occ (.func 23 []) ++ occL [(u1.τ 18), (.int .i64 0)]), [19] ++ (occ (.func 23 []) ++ occL [(u1.τ 18), (.int .i64 0)])) (occ (s.τ 4), [])) <| .mk <|
  @sOp (some 20) (xLoad 5 true (s.τ 4) s.H) s <| .mk fun u3 =>
  @sCall0 P (.func 23 []) [(u3.τ 20), (.int .i64 0)] (some 21) u3 ⟨W16_c26 P Φ u0 u1 s u3⟩
def W16_b28 (P : Program) (Φ : Exit → St → Prop) (s : St) : Prop :=
  @sOp (some 18) (xLoad 5 true (s.τ 3) s.H) s <| .mk fun u1 =>
  @sCall0 P (.func 23 []) [(u1.τ 18), (.int .i64 0)] (some 19) u1 ⟨W16_c27 P Φ s u1⟩
def W16_c29 (P : Program) (Φ : Exit → St → Prop) (s : St) : Prop :=
  @sOp (some 17) (xNot (s.τ 16) s.H) s <| .mk fun s =>
  @sIf (s.τ 17) ⟨W16_b2 P Φ s⟩ ⟨W16_b28 P Φ s⟩
def W16_b30 (P : Program) (Φ : Exit → St → Prop) (s : St) : Prop :=
  @sOp (some 12) (xLoad 5 true (s.τ 3) s.H) s <| .mk fun s =>
  @sOp (some 13) (xLoad 5 true (s.τ 4) s.H) s <| .mk fun s =>
  @sOp (some 14) (xLit 5 2 [.int .i64 0, .int .i64 0, .int .i64 0, .nils, .nils] [(0, (s.τ 12)), (1, (s.τ 13))] s.H) s <| .mk fun s =>
  @sOp (some 15) (xBuild [.int .i64 0, .int .i64 0, .nils] [(2, 1, (s.τ 14))] s.H) s <| .mk fun s =>
  @sCall P (.func 21 []) [(s.τ 15)] (some 16) s ⟨W16_c29 P Φ⟩
def W16_c31 (P : Program) (Φ : Exit → St → Prop) (s : St) : Prop :=
  @sOp (some 11) (xNot (s.τ 10) s.H) s <| .mk fun s =>
  @sIf (s.τ 11) ⟨W16_b1 P Φ s⟩ ⟨W16_b30 P Φ s⟩
def W16 (P : Program) (Φ : Exit → St → Prop) (s : St) : Prop :=
  @sOp (some 3) (xBox 3 25 (s.τ 0) s.H) s <| .mk fun s =>
  @sOp (some 4) (xBox 4 25 (s.τ 1) s.H) s <| .mk fun s =>
  @sOp (some 6) (xMov (.bool false) s.H) s <| .mk fun s =>
  @sCall P (.func 32 []) [] (some 10) s ⟨W16_c31 P Φ⟩
theorem W16_rs (τ : Nat → AV) (H : Heap) : resV Try.prog τ H [.tmp 6] = some (τ 6) := by kernel_rfl
theorem W16_eq (Φ : Exit → St → Prop) (s : St) : awp Try.prog (Try.f16.body.getD .skip) Φ s = W16 Try.prog Φ s := by kernel_rfl

-- 19 "penance/penancelaw5.TermSkips"
def W19_b1 (P : Program) (Φ : Exit → St → Prop) (s : St) : Prop :=
  @sOp (some 2) (xMov (.bool false) s.H) s <| .mk fun s =>
  Φ .ret s
def W19_c2 (P : Program) (Φ : Exit → St → Prop) (s : St) : Prop :=
  @sOp (some 68) (xPick (s.τ 63) (s.τ 67) (.bool false) s.H) s <| .mk fun u16 =>
  @sOp (some 2) (xMov (u16.τ 68) u16.H) u16 <| .mk fun s =>
  Φ .ret s
def W19_c3 (P : Program) (Φ : Exit → St → Prop) (s : St) : Prop :=
  @sGrd (guardOf (s.τ 63) true) (some 67) s ⟨fun s K => @sOp (some 67) (xBin .eql false (s.τ 66) (.int .i64 0) s.H) s ⟨K⟩⟩ ⟨W19_c2 P Φ⟩
def W19_c4 (P : Program) (Φ : Exit → St → Prop) (s : St) : Prop :=
  @sGrd (guardOf (s.τ 63) true) (some 66) s ⟨fun s K => @sOp (some 66) (xLen (s.τ 65) s.H) s ⟨K⟩⟩ ⟨W19_c3 P Φ⟩
def W19_c5 (P : Program) (Φ : Exit → St → Prop) (s : St) : Prop :=
  @sGrd (guardOf (s.τ 63) true) (some 65) s ⟨fun s K => @sCall0 P (.func 41 []) [(s.τ 64)] (some 65) s ⟨K⟩⟩ ⟨W19_c4 P Φ⟩
def W19_c6 (P : Program) (Φ : Exit → St → Prop) (s : St) : Prop :=
  @sOp (some 62) (xPick (s.τ 57) (s.τ 61) (.bool false) s.H) s <| .mk fun u10 =>
  @sOp (some 63) (xMov (u10.τ 62) u10.H) u10 <| .mk fun u11 =>
  @sGrd (guardOf (u11.τ 63) true) (some 64) u11 ⟨fun s K => @sOp (some 64) (xLoad 9 true (s.τ 3) s.H) s ⟨K⟩⟩ ⟨W19_c5 P Φ⟩
def W19_c7 (P : Program) (Φ : Exit → St → Prop) (s : St) : Prop :=
  @sGrd (guardOf (s.τ 57) true) (some 61) s ⟨fun s K => @sCall0 P (.func 38 []) [(s.τ 59), (s.τ 60)] (some 61) s ⟨K⟩⟩ ⟨W19_c6 P Φ⟩
def W19_c8 (P : Program) (Φ : Exit → St → Prop) (u6 : St) (s : St) : Prop :=
  @sChk (compat ([59] ++ (occ (.func 40 []) ++ occL [(u6.τ 58)]), [59] ++ (occ (.func 40 []) ++ occL [(u6.τ 58)])) (occ (s.τ 5), [])) <| .mk <|
  @sGrd (guardOf (s.τ 57) true) (some 60) s ⟨fun s K => @sOp (some 60) (xLoad 9 true (s.τ 5) s.H) s ⟨K⟩⟩ ⟨W19_c7 P Φ⟩
def W19_c9 (P : Program) (Φ : Exit → St → Prop) (s : St) : Prop :=
  @sGrd (guardOf (s.τ 57) true) (some 59) s ⟨fun s K => @sCall0 P (.func 40 []) [(s.τ 58)] (some 59) s ⟨K⟩⟩ ⟨W19_c8 P Φ s⟩
def W19_c10 (P : Program) (Φ : Exit → St → Prop) (s : St) : Prop :=
  @sOp (some 57) (xMov (s.τ 56) s.H) s <| .mk fun u5 =>
  @sGrd (guardOf (u5.τ 57) true) (some 58) u5 ⟨fun s K => @sOp (some 58) (xLoad 9 true (s.τ 6) s.H) s ⟨K⟩⟩ ⟨W19_c9 P Φ⟩
def W19_c11 (P : Program) (Φ : Exit → St → Prop) (s : St) : Prop :=
  @sOp (some 55) (xBuild [.int .i64 0, .int .i64 0, .int .i64 0, .str ⟨#[]⟩, .int .i64 0, .int .i64 0, .str ⟨#[]⟩, .nils, .nils] [] s.H) s <| .mk fun u3 =>
  @sCall0 P (.func 38 []) [(u3.τ 54), (u3.τ 55)] (some 56) u3 ⟨W19_c10 P Φ⟩
def W19_k12 (P : Program) (Φ : Exit → St → Prop) (s : St) : Prop :=
  @sOp (some 48) (xBuild [.int .i64 0, .int .i64 0, .int .i64 0, .str ⟨#[]⟩, .int .i64 0, .int .i64 0, .str ⟨#[]⟩, .nils, .nils] [(0, 1, (.int .i64 8))] s.H) s <| .mk fun s =>
  @sOp (some 5) (xAlloc 5 34 [.int .i64 0, .int .i64 0, .int .i64 0, .str ⟨#[]⟩, .int .i64 0, .int .i64 0, .str ⟨#[]⟩, .nils, .nils] s.H) s <| .mk fun s =>
  @sOp none (xStore 9 (s.τ 5) (s.τ 48) s.H) s <| .mk fun s =>
  @sOp (some 49) (xLoad 9 true (s.τ 3) s.H) s <| .mk fun s =>
  @sOp (some 50) (xLoad 9 true (s.τ 5) s.H) s <| .mk fun s =>
  @sOp (some 51) (xLit 9 2 [.int .i64 0, .int .i64 0, .int .i64 0, .str ⟨#[]⟩, .int .i64 0, .int .i64 0, .str ⟨#[]⟩, .nils, .nils] [(0, (s.τ 49)), (1, (s.τ 50))] s.H) s <| .mk fun s =>
  @sOp (some 52) (xBuild [.int .i64 0, .int .i64 0, .int .i64 0, .str ⟨#[]⟩, .int .i64 0, .int .i64 0, .str ⟨#[]⟩, .nils, .nils] [(0, 1, (.int .i64 12)), (8, 1, (s.τ 51))] s.H) s <| .mk fun s =>
  @sOp (some 6) (xAlloc 6 34 [.int .i64 0, .int .i64 0, .int .i64 0, .str ⟨#[]⟩, .int .i64 0, .int .i64 0, .str ⟨#[]⟩, .nils, .nils] s.H) s <| .mk fun s =>
  @sOp none (xStore 9 (s.τ 6) (s.τ 52) s.H) s <| .mk fun s =>
  @sOp (some 53) (xLoad 9 true (s.τ 3) s.H) s <| .mk fun u1 =>
  @sCall0 P (.func 40 []) [(u1.τ 53)] (some 54) u1 ⟨W19_c11 P Φ⟩
def W19_k13 (P : Program) (Φ : Exit → St → Prop) (L0 : St → Prop) (s : St) : Prop :=
  @sOp (some 18) (xMov (s.τ 4) s.H) s <| .mk fun s =>
  @sOp (some 19) (xBin .add false (s.τ 18) (.int .i64 1) s.H) s <| .mk fun s =>
  @sOp (some 4) (xMov (s.τ 19) s.H) s <| .mk fun s =>
  L0 s
def W19_b14 (P : Program) (Φ : Exit → St → Prop) (L0 : St → Prop) (s : St) : Prop :=
  @sOp (some 27) (xLoad 9 true (s.τ 3) s.H) s <| .mk fun s =>
  @sOp (some 28) (xLit 9 1 [.int .i64 0, .int .i64 0, .int .i64 0, .str ⟨#[]⟩, .int .i64 0, .int .i64 0, .str ⟨#[]⟩, .nils, .nils] [(0, (s.τ 27))] s.H) s <| .mk fun s =>
  @sOp (some 29) (xBuild [.int .i64 0, .int .i64 0, .int .i64 0, .str ⟨#[]⟩, .int .i64 0, .int .i64 0, .str ⟨#[]⟩, .nils, .nils] [(0, 1, (.int .i64 7)), (8, 1, (s.τ 28))] s.H) s <| .mk fun s =>
  @sOp none (xStore 9 (s.τ 3) (s.τ 29) s.H) s <| .mk fun s =>
  W19_k13 P Φ L0 s
def W19_b15 (P : Program) (Φ : Exit → St → Prop) (L0 : St → Prop) (s : St) : Prop :=
  @sOp (some 32) (xLoad 9 true (s.τ 3) s.H) s <| .mk fun s =>
  @sOp (some 33) (xBuild [.int .i64 0, .int .i64 0, .int .i64 0, .str ⟨#[]⟩, .int .i64 0, .int .i64 0, .str ⟨#[]⟩, .nils, .nils] [] s.H) s <| .mk fun s =>
  @sOp (some 34) (xLit 9 2 [.int .i64 0, .int .i64 0, .int .i64 0, .str ⟨#[]⟩, .int .i64 0, .int .i64 0, .str ⟨#[]⟩, .nils, .nils] [(0, (s.τ 32)), (1, (s.τ 33))] s.H) s <| .mk fun s =>
  @sOp (some 35) (xBuild [.int .i64 0, .int .i64 0, .int .i64 0, .str ⟨#[]⟩, .int .i64 0, .int .i64 0, .str ⟨#[]⟩, .nils, .nils] [(0, 1, (.int .i64 12)), (8, 1, (s.τ 34))] s.H) s <| .mk fun s =>
  @sOp none (xStore 9 (s.τ 3) (s.τ 35) s.H) s <| .mk fun s =>
  W19_k13 P Φ L0 s
def W19_b16 (P : Program) (Φ : Exit → St → Prop) (L0 : St → Prop) (s : St) : Prop :=
  @sOp (some 38) (xBuild [.int .i64 0, .int .i64 0, .int .i64 0, .str ⟨#[]⟩, .int .i64 0, .int .i64 0, .str ⟨#[]⟩, .nils, .nils] [] s.H) s <| .mk fun s =>
  @sOp (some 39) (xLoad 9 true (s.τ 3) s.H) s <| .mk fun s =>
  @sOp (some 40) (xLit 9 2 [.int .i64 0, .int .i64 0, .int .i64 0, .str ⟨#[]⟩, .int .i64 0, .int .i64 0, .str ⟨#[]⟩, .nils, .nils] [(0, (s.τ 38)), (1, (s.τ 39))] s.H) s <| .mk fun s =>
  @sOp (some 41) (xBuild [.int .i64 0, .int .i64 0, .int .i64 0, .str ⟨#[]⟩, .int .i64 0, .int .i64 0, .str ⟨#[]⟩, .nils, .nils] [(0, 1, (.int .i64 12)), (8, 1, (s.τ 40))] s.H) s <| .mk fun s =>
  @sOp none (xStore 9 (s.τ 3) (s.τ 41) s.H) s <| .mk fun s =>
  W19_k13 P Φ L0 s
def W19_b17 (P : Program) (Φ : Exit → St → Prop) (L0 : St → Prop) (s : St) : Prop :=
  @sOp (some 44) (xLoad 9 true (s.τ 3) s.H) s <| .mk fun s =>
  @sOp (some 45) (xBuild [.int .i64 0, .int .i64 0, .int .i64 0, .str ⟨#[]⟩, .int .i64 0, .int .i64 0, .str ⟨#[]⟩, .nils, .nils] [] s.H) s <| .mk fun s =>
  @sOp (some 46) (xLit 9 2 [.int .i64 0, .int .i64 0, .int .i64 0, .str ⟨#[]⟩, .int .i64 0, .int .i64 0, .str ⟨#[]⟩, .nils, .nils] [(0, (s.τ 44)), (1, (s.τ 45))] s.H) s <| .mk fun s =>
  @sOp (some 47) (xBuild [.int .i64 0, .int .i64 0, .int .i64 0, .str ⟨#[]⟩, .int .i64 0, .int .i64 0, .str ⟨#[]⟩, .nils, .nils] [(0, 1, (.int .i64 11)), (8, 1, (s.τ 46))] s.H) s <| .mk fun s =>
  @sOp none (xStore 9 (s.τ 3) (s.τ 47) s.H) s <| .mk fun s =>
  W19_k13 P Φ L0 s
def W19_b18 (P : Program) (Φ : Exit → St → Prop) (L0 : St → Prop) (s : St) : Prop :=
  @sOp (some 43) (xBin .eql false (s.τ 24) (.int .i64 3) s.H) s <| .mk fun s =>
  @sOp (some 42) (xMov (s.τ 43) s.H) s <| .mk fun s =>
  @sIf (s.τ 42) ⟨W19_b17 P Φ L0 s⟩ ⟨W19_k13 P Φ L0 s⟩
def W19_b19 (P : Program) (Φ : Exit → St → Prop) (L0 : St → Prop) (s : St) : Prop :=
  @sOp (some 37) (xBin .eql false (s.τ 24) (.int .i64 2) s.H) s <| .mk fun s =>
  @sOp (some 36) (xMov (s.τ 37) s.H) s <| .mk fun s =>
  @sIf (s.τ 36) ⟨W19_b16 P Φ L0 s⟩ ⟨W19_b18 P Φ L0 s⟩
def W19_b20 (P : Program) (Φ : Exit → St → Prop) (L0 : St → Prop) (s : St) : Prop :=
  @sOp (some 31) (xBin .eql false (s.τ 24) (.int .i64 1) s.H) s <| .mk fun s =>
  @sOp (some 30) (xMov (s.τ 31) s.H) s <| .mk fun s =>
  @sIf (s.τ 30) ⟨W19_b15 P Φ L0 s⟩ ⟨W19_b19 P Φ L0 s⟩
def W19_c21 (P : Program) (Φ : Exit → St → Prop) (L0 : St → Prop) (s : St) : Prop :=
  @sOp (some 26) (xBin .eql false (s.τ 24) (.int .i64 0) s.H) s <| .mk fun s =>
  @sOp (some 25) (xMov (s.τ 26) s.H) s <| .mk fun s =>
  @sIf (s.τ 25) ⟨W19_b14 P Φ L0 s⟩ ⟨W19_b20 P Φ L0 s⟩
def W19_b22 (P : Program) (Φ : Exit → St → Prop) (L0 : St → Prop) (s : St) : Prop :=
  @sOp (some 20) (xMov (s.τ 0) s.H) s <| .mk fun s =>
  @sOp (some 21) (xMov (s.τ 4) s.H) s <| .mk fun s =>
  @sOp (some 22) (xIx 1 (s.τ 20) (s.τ 21) s.H) s <| .mk fun s =>
  @sOp (some 23) (xLoad 1 false (s.τ 22) s.H) s <| .mk fun s =>
  @sCall P (.func 43 []) [(s.τ 23), (.int .i64 4)] (some 24) s ⟨W19_c21 P Φ L0⟩
def W19_c23 (P : Program) (Φ : Exit → St → Prop) (L0 : St → Prop) (s : St) : Prop :=
  @sOp (some 17) (xPick (s.τ 14) (s.τ 16) (.bool false) s.H) s <| .mk fun s =>
  @sIf (s.τ 17) ⟨W19_b22 P Φ L0 s⟩ ⟨W19_k12 P Φ s⟩
def W19_c24 (P : Program) (Φ : Exit → St → Prop) (L0 : St → Prop) (s : St) : Prop :=
  @sGrd (guardOf (s.τ 14) true) (some 16) s ⟨fun s K => @sOp (some 16) (xBin .lss false (s.τ 15) (.int .i64 30) s.H) s ⟨K⟩⟩ ⟨W19_c23 P Φ L0⟩
def W19_l25 (P : Program) (Φ : Exit → St → Prop) (L0 : St → Prop) (s : St) : Prop :=
  @sOp (some 10) (xMov (s.τ 4) s.H) s <| .mk fun s =>
  @sOp (some 11) (xMov (s.τ 0) s.H) s <| .mk fun s =>
  @sOp (some 12) (xLen (s.τ 11) s.H) s <| .mk fun s =>
  @sOp (some 13) (xBin .lss false (s.τ 10) (s.τ 12) s.H) s <| .mk fun s =>
  @sOp (some 14) (xMov (s.τ 13) s.H) s <| .mk fun s =>
  @sGrd (guardOf (s.τ 14) true) (some 15) s ⟨fun s K => @sOp (some 15) (xMov (s.τ 4) s.H) s ⟨K⟩⟩ ⟨W19_c24 P Φ L0⟩
def W19_b26 (P : Program) (Φ : Exit → St → Prop) (s : St) : Prop :=
  @sOp (some 9) (xBuild [.int .i64 0, .int .i64 0, .int .i64 0, .str ⟨#[]⟩, .int .i64 0, .int .i64 0, .str ⟨#[]⟩, .nils, .nils] [] s.H) s <| .mk fun s =>
  @sOp (some 3) (xAlloc 3 34 [.int .i64 0, .int .i64 0, .int .i64 0, .str ⟨#[]⟩, .int .i64 0, .int .i64 0, .str ⟨#[]⟩, .nils, .nils] s.H) s <| .mk fun s =>
  @sOp none (xStore 9 (s.τ 3) (s.τ 9) s.H) s <| .mk fun s =>
  @sOp (some 4) (xMov (.int .i64 0) s.H) s <| .mk fun s =>
  @sLoop s ⟨fun L0 s => W19_l25 P Φ L0 s⟩
def W19_c27 (P : Program) (Φ : Exit → St → Prop) (s : St) : Prop :=
  @sOp (some 8) (xNot (s.τ 7) s.H) s <| .mk fun s =>
  @sIf (s.τ 8) ⟨W19_b1 P Φ s⟩ ⟨W19_b26 P Φ s⟩
def W19 (P : Program) (Φ : Exit → St → Prop) (s : St) : Prop :=
  @sOp (some 2) (xMov (.bool false) s.H) s <| .mk fun s =>
  @sCall P (.func 32 []) [] (some 7) s ⟨W19_c27 P Φ⟩
theorem W19_rs (τ : Nat → AV) (H : Heap) : resV Try.prog τ H [.tmp 2] = some (τ 2) := by kernel_rfl
theorem W19_eq (Φ : Exit → St → Prop) (s : St) : awp Try.prog (Try.f19.body.getD .skip) Φ s = W19 Try.prog Φ s := by kernel_rfl

-- 21 "(penance/penancelaw3.Shape).Few"
def W21_c1 (P : Program) (Φ : Exit → St → Prop) (s : St) : Prop :=
  @sOp (some 27) (xPick (s.τ 24) (s.τ 26) (.bool false) s.H) s <| .mk fun s =>
  @sOp (some 2) (xMov (s.τ 27) s.H) s <| .mk fun s =>
  Φ .ret s
def W21_c2 (P : Program) (Φ : Exit → St → Prop) (s : St) : Prop :=
  @sGrd (guardOf (s.τ 24) true) (some 26) s ⟨fun s K => @sOp (some 26) (xBin .leq false (s.τ 25) (.int .i64 40) s.H) s ⟨K⟩⟩ ⟨W21_c1 P Φ⟩
def W21_k3 (P : Program) (Φ : Exit → St → Prop) (s : St) : Prop :=
  @sOp (some 20) (xFld 2 (s.τ 1) s.H) s <| .mk fun s =>
  @sOp (some 21) (xLoad 1 false (s.τ 20) s.H) s <| .mk fun s =>
  @sOp (some 22) (xLen (s.τ 21) s.H) s <| .mk fun s =>
  @sOp (some 23) (xBin .leq false (s.τ 22) (.int .i64 5) s.H) s <| .mk fun s =>
  @sOp (some 24) (xMov (s.τ 23) s.H) s <| .mk fun s =>
  @sGrd (guardOf (s.τ 24) true) (some 25) s ⟨fun s K => @sOp (some 25) (xMov (s.τ 3) s.H) s ⟨K⟩⟩ ⟨W21_c2 P Φ⟩
def W21_c4 (P : Program) (Φ : Exit → St → Prop) (L0 : St → Prop) (s : St) : Prop :=
  @sOp (some 19) (xBin .add false (s.τ 12) (s.τ 18) s.H) s <| .mk fun s =>
  @sOp (some 3) (xMov (s.τ 19) s.H) s <| .mk fun s =>
  @sOp (some 10) (xMov (s.τ 4) s.H) s <| .mk fun s =>
  @sOp (some 11) (xBin .add false (s.τ 10) (.int .i64 1) s.H) s <| .mk fun s =>
  @sOp (some 4) (xMov (s.τ 11) s.H) s <| .mk fun s =>
  L0 s
def W21_b5 (P : Program) (Φ : Exit → St → Prop) (L0 : St → Prop) (s : St) : Prop :=
  @sOp (some 12) (xMov (s.τ 3) s.H) s <| .mk fun s =>
  @sOp (some 13) (xFld 2 (s.τ 1) s.H) s <| .mk fun s =>
  @sOp (some 14) (xLoad 1 false (s.τ 13) s.H) s <| .mk fun s =>
  @sOp (some 15) (xMov (s.τ 4) s.H) s <| .mk fun s =>
  @sOp (some 16) (xIx 5 (s.τ 14) (s.τ 15) s.H) s <| .mk fun s =>
  @sOp (some 17) (xLoad 5 true (s.τ 16) s.H) s <| .mk fun s =>
  @sCall P (.func 44 []) [(s.τ 17), (.int .i64 0)] (some 18) s ⟨W21_c4 P Φ L0⟩
def W21_l6 (P : Program) (Φ : Exit → St → Prop) (L0 : St → Prop) (s : St) : Prop :=
  @sOp (some 5) (xMov (s.τ 4) s.H) s <| .mk fun s =>
  @sOp (some 6) (xFld 2 (s.τ 1) s.H) s <| .mk fun s =>
  @sOp (some 7) (xLoad 1 false (s.τ 6) s.H) s <| .mk fun s =>
  @sOp (some 8) (xLen (s.τ 7) s.H) s <| .mk fun s =>
  @sOp (some 9) (xBin .lss false (s.τ 5) (s.τ 8) s.H) s <| .mk fun s =>
  @sIf (s.τ 9) ⟨W21_b5 P Φ L0 s⟩ ⟨W21_k3 P Φ s⟩
def W21 (P : Program) (Φ : Exit → St → Prop) (s : St) : Prop :=
  @sOp (some 1) (xBox 1 28 (s.τ 0) s.H) s <| .mk fun s =>
  @sOp (some 2) (xMov (.bool false) s.H) s <| .mk fun s =>
  @sOp (some 3) (xMov (.int .i64 0) s.H) s <| .mk fun s =>
  @sOp (some 4) (xMov (.int .i64 0) s.H) s <| .mk fun s =>
  @sLoop s ⟨fun L0 s => W21_l6 P Φ L0 s⟩
theorem W21_rs (τ : Nat → AV) (H : Heap) : resV Try.prog τ H [.tmp 2] = some (τ 2) := by kernel_rfl
theorem W21_eq (Φ : Exit → St → Prop) (s : St) : awp Try.prog (Try.f21.body.getD .skip) Φ s = W21 Try.prog Φ s := by kernel_rfl

-- 23 "penance/penancelaw5.Make"
def W23_b1 (P : Program) (Φ : Exit → St → Prop) (s : St) : Prop :=
  @sOp (some 34) (xBuild [.int .i64 0, .int .i64 0, .int .i64 0, .str ⟨#[]⟩, .int .i64 0, .int .i64 0, .str ⟨#[]⟩, .nils, .nils] [(0, 1, (.int .i64 1)), (1, 1, (.int .i64 (-1))), (3, 1, (.str ⟨#[97, 115, 107]⟩))] s.H) s <| .mk fun s =>
  @sOp none (xStore 9 (s.τ 4) (s.τ 34) s.H) s <| .mk fun s =>
  Φ .ret s
def W23_c2 (P : Program) (Φ : Exit → St → Prop) (s : St) : Prop :=
  @sOp none (xStore 9 (s.τ 4) (s.τ 37) s.H) s <| .mk fun s =>
  Φ .ret s
def W23_b3 (P : Program) (Φ : Exit → St → Prop) (s : St) : Prop :=
  @sOp (some 9) (xAlloc 9 3 [.int .i64 0] s.H) s <| .mk fun s =>
  @sOp none (xStore 1 (s.τ 9) (.int .i64 0) s.H) s <| .mk fun s =>
  @sOp (some 35) (xLoad 9 true (s.τ 7) s.H) s <| .mk fun s =>
  @sOp (some 36) (xMov (s.τ 1) s.H) s <| .mk fun s =>
  @sCall P (.func 47 []) [(s.τ 35), (s.τ 36), (s.τ 9), (.bool false)] (some 37) s ⟨W23_c2 P Φ⟩
def W23_c4 (P : Program) (Φ : Exit → St → Prop) (s : St) : Prop :=
  @sOp (some 27) (xMov (s.τ 29) s.H) s <| .mk fun s =>
  @sOp (some 30) (xExt (s.τ 27) 0 s.H) s <| .mk fun s =>
  @sOp (some 31) (xExt (s.τ 27) 1 s.H) s <| .mk fun s =>
  @sOp (some 7) (xAlloc 7 34 [.int .i64 0, .int .i64 0, .int .i64 0, .str ⟨#[]⟩, .int .i64 0, .int .i64 0, .str ⟨#[]⟩, .nils, .nils] s.H) s <| .mk fun s =>
  @sOp none (xStore 9 (s.τ 7) (s.τ 30) s.H) s <| .mk fun s =>
  @sOp (some 8) (xMov (s.τ 31) s.H) s <| .mk fun s =>
  @sOp (some 32) (xMov (s.τ 8) s.H) s <| .mk fun s =>
  @sOp (some 33) (xNot (s.τ 32) s.H) s <| .mk fun s =>
  @sIf (s.τ 33) ⟨W23_b1 P Φ s⟩ ⟨W23_b3 P Φ s⟩
def W23_k5 (P : Program) (Φ : Exit → St → Prop) (s : St) : Prop :=
  @sOp (some 28) (xLoad 3 true (s.τ 5) s.H) s <| .mk fun s =>
  @sCall P (.func 46 []) [(s.τ 28)] (some 29) s ⟨W23_c4 P Φ⟩
def W23_b6 (P : Program) (Φ : Exit → St → Prop) (L0 : St → Prop) (s : St) : Prop :=
  @sOp (some 21) (xFld 2 (s.τ 5) s.H) s <| .mk fun s =>
  @sOp (some 22) (xLoad 1 false (s.τ 21) s.H) s <| .mk fun s =>
  @sOp (some 23) (xMov (s.τ 6) s.H) s <| .mk fun s =>
  @sOp (some 24) (xBuild [.int .i64 0, .str ⟨#[]⟩, .str ⟨#[]⟩, .int .i64 0, .int .i64 0, .str ⟨#[]⟩, .nils, .nils] [(0, 1, (.int .i64 1)), (1, 1, (.str ⟨#[112, 97, 121]⟩))] s.H) s <| .mk fun s =>
  @sOp (some 25) (xIx 9 (s.τ 22) (s.τ 23) s.H) s <| .mk fun s =>
  @sOp (some 26) (xFld 1 (s.τ 25) s.H) s <| .mk fun s =>
  @sOp none (xStore 8 (s.τ 26) (s.τ 24) s.H) s <| .mk fun s =>
  @sOp (some 19) (xMov (s.τ 6) s.H) s <| .mk fun s =>
  @sOp (some 20) (xBin .add false (s.τ 19) (.int .i64 1) s.H) s <| .mk fun s =>
  @sOp (some 6) (xMov (s.τ 20) s.H) s <| .mk fun s =>
  L0 s
def W23_l7 (P : Program) (Φ : Exit → St → Prop) (L0 : St → Prop) (s : St) : Prop :=
  @sOp (some 14) (xMov (s.τ 6) s.H) s <| .mk fun s =>
  @sOp (some 15) (xFld 2 (s.τ 5) s.H) s <| .mk fun s =>
  @sOp (some 16) (xLoad 1 false (s.τ 15) s.H) s <| .mk fun s =>
  @sOp (some 17) (xLen (s.τ 16) s.H) s <| .mk fun s =>
  @sOp (some 18) (xBin .lss false (s.τ 14) (s.τ 17) s.H) s <| .mk fun s =>
  @sIf (s.τ 18) ⟨W23_b6 P Φ L0 s⟩ ⟨W23_k5 P Φ s⟩
def W23_c8 (P : Program) (Φ : Exit → St → Prop) (s : St) : Prop :=
  @sOp (some 5) (xAlloc 5 69 [.nils, .nils, .nils] s.H) s <| .mk fun s =>
  @sOp none (xStore 3 (s.τ 5) (s.τ 13) s.H) s <| .mk fun s =>
  @sOp (some 6) (xMov (.int .i64 1) s.H) s <| .mk fun s =>
  @sLoop s ⟨fun L0 s => W23_l7 P Φ L0 s⟩
def W23 (P : Program) (Φ : Exit → St → Prop) (s : St) : Prop :=
  @sOp (some 2) (xBox 2 25 (s.τ 0) s.H) s <| .mk fun s =>
  @sOp (some 4) (xAlloc 4 34 [.int .i64 0, .int .i64 0, .int .i64 0, .str ⟨#[]⟩, .int .i64 0, .int .i64 0, .str ⟨#[]⟩, .nils, .nils] s.H) s <| .mk fun s =>
  @sOp (some 10) (xLoad 5 true (s.τ 2) s.H) s <| .mk fun s =>
  @sOp (some 11) (xLit 5 1 [.int .i64 0, .int .i64 0, .int .i64 0, .nils, .nils] [(0, (s.τ 10))] s.H) s <| .mk fun s =>
  @sOp (some 12) (xBuild [.int .i64 0, .int .i64 0, .nils] [(2, 1, (s.τ 11))] s.H) s <| .mk fun s =>
  @sCall P (.func 45 []) [(s.τ 12)] (some 13) s ⟨W23_c8 P Φ⟩
theorem W23_rs (τ : Nat → AV) (H : Heap) : resV Try.prog τ H [.cell 4 34] = rdV H 9 true (τ 4) := by kernel_rfl
theorem W23_eq (Φ : Exit → St → Prop) (s : St) : awp Try.prog (Try.f23.body.getD .skip) Φ s = W23 Try.prog Φ s := by kernel_rfl

end Go.Proofs.Ytkagfenchknjjaa
set_option linter.unusedVariables false
namespace Go.Proofs.Ytkagfenchknjjaa
open Go Go.Am
-- 27 "penance/penanceref1.Ints"
def W27_b1 (P : Program) (Φ : Exit → St → Prop) (s : St) : Prop :=
  @sOp (some 4) (xMov (.bool false) s.H) s <| .mk fun s =>
  Φ .ret s
def W27_k2 (P : Program) (Φ : Exit → St → Prop) (s : St) : Prop :=
  @sOp (some 4) (xMov (.bool true) s.H) s <| .mk fun s =>
  Φ .ret s
def W27_b3 (P : Program) (Φ : Exit → St → Prop) (L0 : St → Prop) (s : St) : Prop :=
  @sOp (some 4) (xMov (.bool false) s.H) s <| .mk fun s =>
  Φ .ret s
def W27_b4 (P : Program) (Φ : Exit → St → Prop) (L0 : St → Prop) (s : St) : Prop :=
  @sOp (some 15) (xMov (s.τ 5) s.H) s <| .mk fun s =>
  @sOp (some 16) (xBin .add false (s.τ 15) (.int .i64 1) s.H) s <| .mk fun s =>
  @sOp (some 5) (xMov (s.τ 16) s.H) s <| .mk fun s =>
  L0 s
def W27_b5 (P : Program) (Φ : Exit → St → Prop) (L0 : St → Prop) (s : St) : Prop :=
  @sOp (some 17) (xMov (s.τ 0) s.H) s <| .mk fun s =>
  @sOp (some 18) (xMov (s.τ 5) s.H) s <| .mk fun s =>
  @sOp (some 19) (xIx 1 (s.τ 17) (s.τ 18) s.H) s <| .mk fun s =>
  @sOp (some 20) (xLoad 1 false (s.τ 19) s.H) s <| .mk fun s =>
  @sOp (some 21) (xMov (s.τ 1) s.H) s <| .mk fun s =>
  @sOp (some 22) (xMov (s.τ 5) s.H) s <| .mk fun s =>
  @sOp (some 23) (xIx 1 (s.τ 21) (s.τ 22) s.H) s <| .mk fun s =>
  @sOp (some 24) (xLoad 1 false (s.τ 23) s.H) s <| .mk fun s =>
  @sOp (some 25) (xBin .neq false (s.τ 20) (s.τ 24) s.H) s <| .mk fun s =>
  @sIf (s.τ 25) ⟨W27_b3 P Φ L0 s⟩ ⟨W27_b4 P Φ L0 s⟩
def W27_l6 (P : Program) (Φ : Exit → St → Prop) (L0 : St → Prop) (s : St) : Prop :=
  @sOp (some 11) (xMov (s.τ 5) s.H) s <| .mk fun s =>
  @sOp (some 12) (xMov (s.τ 0) s.H) s <| .mk fun s =>
  @sOp (some 13) (xLen (s.τ 12) s.H) s <| .mk fun s =>
  @sOp (some 14) (xBin .lss false (s.τ 11) (s.τ 13) s.H) s <| .mk fun s =>
  @sIf (s.τ 14) ⟨W27_b5 P Φ L0 s⟩ ⟨W27_k2 P Φ s⟩
def W27_b7 (P : Program) (Φ : Exit → St → Prop) (s : St) : Prop :=
  @sOp (some 5) (xMov (.int .i64 0) s.H) s <| .mk fun s =>
  @sLoop s ⟨fun L0 s => W27_l6 P Φ L0 s⟩
def W27 (P : Program) (Φ : Exit → St → Prop) (s : St) : Prop :=
  @sOp (some 4) (xMov (.bool false) s.H) s <| .mk fun s =>
  @sOp (some 6) (xMov (s.τ 0) s.H) s <| .mk fun s =>
  @sOp (some 7) (xLen (s.τ 6) s.H) s <| .mk fun s =>
  @sOp (some 8) (xMov (s.τ 1) s.H) s <| .mk fun s =>
  @sOp (some 9) (xLen (s.τ 8) s.H) s <| .mk fun s =>
  @sOp (some 10) (xBin .neq false (s.τ 7) (s.τ 9) s.H) s <| .mk fun s =>
  @sIf (s.τ 10) ⟨W27_b1 P Φ s⟩ ⟨W27_b7 P Φ s⟩
theorem W27_rs (τ : Nat → AV) (H : Heap) : resV Try.prog τ H [.tmp 4] = some (τ 4) := by kernel_rfl
theorem W27_eq (Φ : Exit → St → Prop) (s : St) : awp Try.prog (Try.f27.body.getD .skip) Φ s = W27 Try.prog Φ s := by kernel_rfl

-- 32 "penance/penancelaw5.known"
def W32_c1 (P : Program) (Φ : Exit → St → Prop) (s : St) : Prop :=
  @sOp (some 36) (xPick (s.τ 31) (s.τ 35) (.bool false) s.H) s <| .mk fun s =>
  @sOp (some 0) (xMov (s.τ 36) s.H) s <| .mk fun s =>
  Φ .ret s
def W32_c2 (P : Program) (Φ : Exit → St → Prop) (s : St) : Prop :=
  @sGrd (guardOf (s.τ 31) true) (some 35) s ⟨fun s K => @sOp (some 35) (xBin .eql false (s.τ 34) (.int .i64 3) s.H) s ⟨K⟩⟩ ⟨W32_c1 P Φ⟩
def W32_c3 (P : Program) (Φ : Exit → St → Prop) (s : St) : Prop :=
  @sGrd (guardOf (s.τ 31) true) (some 34) s ⟨fun s K => @sOp (some 34) (xLoad 1 false (s.τ 33) s.H) s ⟨K⟩⟩ ⟨W32_c2 P Φ⟩
def W32_c4 (P : Program) (Φ : Exit → St → Prop) (s : St) : Prop :=
  @sGrd (guardOf (s.τ 31) true) (some 33) s ⟨fun s K => @sOp (some 33) (xIx 1 (s.τ 32) (.int .i64 0) s.H) s ⟨K⟩⟩ ⟨W32_c3 P Φ⟩
def W32_c5 (P : Program) (Φ : Exit → St → Prop) (s : St) : Prop :=
  @sOp (some 30) (xPick (s.τ 26) (s.τ 29) (.bool false) s.H) s <| .mk fun s =>
  @sOp (some 31) (xMov (s.τ 30) s.H) s <| .mk fun s =>
  @sGrd (guardOf (s.τ 31) true) (some 32) s ⟨fun s K => @sOp (some 32) (xMov (s.τ 3) s.H) s ⟨K⟩⟩ ⟨W32_c4 P Φ⟩
def W32_c6 (P : Program) (Φ : Exit → St → Prop) (s : St) : Prop :=
  @sGrd (guardOf (s.τ 26) true) (some 29) s ⟨fun s K => @sOp (some 29) (xBin .eql false (s.τ 28) (.int .i64 1) s.H) s ⟨K⟩⟩ ⟨W32_c5 P Φ⟩
def W32_c7 (P : Program) (Φ : Exit → St → Prop) (s : St) : Prop :=
  @sGrd (guardOf (s.τ 26) true) (some 28) s ⟨fun s K => @sOp (some 28) (xLen (s.τ 27) s.H) s ⟨K⟩⟩ ⟨W32_c6 P Φ⟩
def W32_c8 (P : Program) (Φ : Exit → St → Prop) (s : St) : Prop :=
  @sOp (some 25) (xPick (s.τ 22) (s.τ 24) (.bool false) s.H) s <| .mk fun s =>
  @sOp (some 26) (xMov (s.τ 25) s.H) s <| .mk fun s =>
  @sGrd (guardOf (s.τ 26) true) (some 27) s ⟨fun s K => @sOp (some 27) (xMov (s.τ 3) s.H) s ⟨K⟩⟩ ⟨W32_c7 P Φ⟩
def W32_c9 (P : Program) (Φ : Exit → St → Prop) (s : St) : Prop :=
  @sGrd (guardOf (s.τ 22) true) (some 24) s ⟨fun s K => @sCall P (.func 34 []) [(s.τ 23), (.int .i64 0), (.int .i64 0), (.int .i64 0)] (some 24) s ⟨K⟩⟩ ⟨W32_c8 P Φ⟩
def W32_c10 (P : Program) (Φ : Exit → St → Prop) (s : St) : Prop :=
  @sOp (some 21) (xPick (s.τ 17) (s.τ 20) (.bool false) s.H) s <| .mk fun s =>
  @sOp (some 22) (xMov (s.τ 21) s.H) s <| .mk fun s =>
  @sGrd (guardOf (s.τ 22) true) (some 23) s ⟨fun s K => @sOp (some 23) (xLoad 9 true (s.τ 2) s.H) s ⟨K⟩⟩ ⟨W32_c9 P Φ⟩
def W32_c11 (P : Program) (Φ : Exit → St → Prop) (s : St) : Prop :=
  @sGrd (guardOf (s.τ 17) true) (some 20) s ⟨fun s K => @sOp (some 20) (xBin .eql false (s.τ 19) (.int .i64 2) s.H) s ⟨K⟩⟩ ⟨W32_c10 P Φ⟩
def W32_c12 (P : Program) (Φ : Exit → St → Prop) (s : St) : Prop :=
  @sGrd (guardOf (s.τ 17) true) (some 19) s ⟨fun s K => @sCall P (.func 36 []) [(s.τ 18)] (some 19) s ⟨K⟩⟩ ⟨W32_c11 P Φ⟩
def W32_c13 (P : Program) (Φ : Exit → St → Prop) (s : St) : Prop :=
  @sOp (some 17) (xMov (s.τ 16) s.H) s <| .mk fun s =>
  @sGrd (guardOf (s.τ 17) true) (some 18) s ⟨fun s K => @sOp (some 18) (xLoad 9 true (s.τ 1) s.H) s ⟨K⟩⟩ ⟨W32_c12 P Φ⟩
def W32_c14 (P : Program) (Φ : Exit → St → Prop) (s : St) : Prop :=
  @sOp (some 15) (xBuild [.int .i64 0, .int .i64 0, .int .i64 0, .str ⟨#[]⟩, .int .i64 0, .int .i64 0, .str ⟨#[]⟩, .nils, .nils] [] s.H) s <| .mk fun s =>
  @sCall P (.func 38 []) [(s.τ 14), (s.τ 15)] (some 16) s ⟨W32_c13 P Φ⟩
def W32_c15 (P : Program) (Φ : Exit → St → Prop) (s : St) : Prop :=
  @sOp (some 3) (xMov (s.τ 12) s.H) s <| .mk fun s =>
  @sOp (some 13) (xLoad 9 true (s.τ 1) s.H) s <| .mk fun s =>
  @sCall P (.func 40 []) [(s.τ 13)] (some 14) s ⟨W32_c14 P Φ⟩
def W32 (P : Program) (Φ : Exit → St → Prop) (s : St) : Prop :=
  @sOp (some 0) (xMov (.bool false) s.H) s <| .mk fun s =>
  @sOp (some 4) (xBuild [.int .i64 0, .int .i64 0, .int .i64 0, .str ⟨#[]⟩, .int .i64 0, .int .i64 0, .str ⟨#[]⟩, .nils, .nils] [] s.H) s <| .mk fun s =>
  @sOp (some 5) (xLit 9 1 [.int .i64 0, .int .i64 0, .int .i64 0, .str ⟨#[]⟩, .int .i64 0, .int .i64 0, .str ⟨#[]⟩, .nils, .nils] [(0, (s.τ 4))] s.H) s <| .mk fun s =>
  @sOp (some 6) (xBuild [.int .i64 0, .int .i64 0, .int .i64 0, .str ⟨#[]⟩, .int .i64 0, .int .i64 0, .str ⟨#[]⟩, .nils, .nils] [(0, 1, (.int .i64 7)), (8, 1, (s.τ 5))] s.H) s <| .mk fun s =>
  @sOp (some 1) (xAlloc 1 34 [.int .i64 0, .int .i64 0, .int .i64 0, .str ⟨#[]⟩, .int .i64 0, .int .i64 0, .str ⟨#[]⟩, .nils, .nils] s.H) s <| .mk fun s =>
  @sOp none (xStore 9 (s.τ 1) (s.τ 6) s.H) s <| .mk fun s =>
  @sOp (some 7) (xBuild [.int .i64 0, .int .i64 0, .int .i64 0, .str ⟨#[]⟩, .int .i64 0, .int .i64 0, .str ⟨#[]⟩, .nils, .nils] [(0, 1, (.int .i64 14)), (1, 1, (.int .i64 3)), (2, 1, (.int .i64 (-1))), (3, 1, (.str ⟨#[112, 97, 121]⟩))] s.H) s <| .mk fun s =>
  @sOp (some 2) (xAlloc 2 34 [.int .i64 0, .int .i64 0, .int .i64 0, .str ⟨#[]⟩, .int .i64 0, .int .i64 0, .str ⟨#[]⟩, .nils, .nils] s.H) s <| .mk fun s =>
  @sOp none (xStore 9 (s.τ 2) (s.τ 7) s.H) s <| .mk fun s =>
  @sOp (some 8) (xLoad 9 true (s.τ 2) s.H) s <| .mk fun s =>
  @sOp (some 9) (xBuild [.int .i64 0, .int .i64 0, .int .i64 0, .str ⟨#[]⟩, .int .i64 0, .int .i64 0, .str ⟨#[]⟩, .nils, .nils] [] s.H) s <| .mk fun s =>
  @sOp (some 10) (xLit 9 2 [.int .i64 0, .int .i64 0, .int .i64 0, .str ⟨#[]⟩, .int .i64 0, .int .i64 0, .str ⟨#[]⟩, .nils, .nils] [(0, (s.τ 8)), (1, (s.τ 9))] s.H) s <| .mk fun s =>
  @sOp (some 11) (xBuild [.int .i64 0, .int .i64 0, .int .i64 0, .str ⟨#[]⟩, .int .i64 0, .int .i64 0, .str ⟨#[]⟩, .nils, .nils] [(0, 1, (.int .i64 12)), (8, 1, (s.τ 10))] s.H) s <| .mk fun s =>
  @sCall P (.func 41 []) [(s.τ 11)] (some 12) s ⟨W32_c15 P Φ⟩
theorem W32_rs (τ : Nat → AV) (H : Heap) : resV Try.prog τ H [.tmp 0] = some (τ 0) := by kernel_rfl
theorem W32_eq (Φ : Exit → St → Prop) (s : St) : awp Try.prog (Try.f32.body.getD .skip) Φ s = W32 Try.prog Φ s := by kernel_rfl

-- 34 "penance/term.Right"
def W34_c1 (P : Program) (Φ : Exit → St → Prop) (s : St) : Prop :=
  @sOp (some 8) (xMov (s.τ 14) s.H) s <| .mk fun s =>
  Φ .ret s
def W34 (P : Program) (Φ : Exit → St → Prop) (s : St) : Prop :=
  @sOp (some 4) (xBox 4 34 (s.τ 0) s.H) s <| .mk fun s =>
  @sOp (some 8) (xMov (.bool false) s.H) s <| .mk fun s =>
  @sOp (some 9) (xMov (s.τ 1) s.H) s <| .mk fun s =>
  @sOp (some 10) (xMov (s.τ 2) s.H) s <| .mk fun s =>
  @sOp (some 11) (xMov (s.τ 3) s.H) s <| .mk fun s =>
  @sOp (some 12) (xBuild [.int .i64 0, .int .i64 0, .int .i64 0] [(0, 1, (s.τ 9)), (1, 1, (s.τ 10)), (2, 1, (s.τ 11))] s.H) s <| .mk fun s =>
  @sOp (some 13) (xLoad 9 true (s.τ 4) s.H) s <| .mk fun s =>
  @sCall P (.func 51 []) [(s.τ 12), (s.τ 13), (.bool false)] (some 14) s ⟨W34_c1 P Φ⟩
theorem W34_rs (τ : Nat → AV) (H : Heap) : resV Try.prog τ H [.tmp 8] = some (τ 8) := by kernel_rfl
theorem W34_eq (Φ : Exit → St → Prop) (s : St) : awp Try.prog (Try.f34.body.getD .skip) Φ s = W34 Try.prog Φ s := by kernel_rfl

end Go.Proofs.Ytkagfenchknjjaa
set_option linter.unusedVariables false
namespace Go.Proofs.Ytkagfenchknjjaa
open Go Go.Am
-- 36 "penance/term.Size"
def W36_k1 (P : Program) (Φ : Exit → St → Prop) (s : St) : Prop :=
  @sOp (some 18) (xMov (s.τ 3) s.H) s <| .mk fun s =>
  @sOp (some 2) (xMov (s.τ 18) s.H) s <| .mk fun s =>
  Φ .ret s
def W36_c2 (P : Program) (Φ : Exit → St → Prop) (L0 : St → Prop) (s : St) : Prop :=
  @sOp (some 16) (xBin .add false (s.τ 13) (s.τ 15) s.H) s <| .mk fun s =>
  @sOp (some 3) (xMov (s.τ 16) s.H) s <| .mk fun s =>
  @sOp (some 17) (xBin .add false (s.τ 9) (.int .i64 1) s.H) s <| .mk fun s =>
  @sOp (some 9) (xMov (s.τ 17) s.H) s <| .mk fun s =>
  L0 s
def W36_b3 (P : Program) (Φ : Exit → St → Prop) (L0 : St → Prop) (s : St) : Prop :=
  @sOp (some 11) (xIx 9 (s.τ 7) (s.τ 9) s.H) s <| .mk fun s =>
  @sOp (some 12) (xLoad 9 true (s.τ 11) s.H) s <| .mk fun s =>
  @sOp (some 5) (xAlloc 5 34 [.int .i64 0, .int .i64 0, .int .i64 0, .str ⟨#[]⟩, .int .i64 0, .int .i64 0, .str ⟨#[]⟩, .nils, .nils] s.H) s <| .mk fun s =>
  @sOp none (xStore 9 (s.τ 5) (s.τ 12) s.H) s <| .mk fun s =>
  @sOp (some 13) (xMov (s.τ 3) s.H) s <| .mk fun s =>
  @sOp (some 14) (xLoad 9 true (s.τ 5) s.H) s <| .mk fun s =>
  @sCall P (.func 36 []) [(s.τ 14)] (some 15) s ⟨W36_c2 P Φ L0⟩
def W36_l4 (P : Program) (Φ : Exit → St → Prop) (L0 : St → Prop) (s : St) : Prop :=
  @sOp (some 10) (xBin .lss false (s.τ 9) (s.τ 8) s.H) s <| .mk fun s =>
  @sIf (s.τ 10) ⟨W36_b3 P Φ L0 s⟩ ⟨W36_k1 P Φ s⟩
def W36 (P : Program) (Φ : Exit → St → Prop) (s : St) : Prop :=
  @sOp (some 1) (xBox 1 34 (s.τ 0) s.H) s <| .mk fun s =>
  @sOp (some 2) (xMov (.int .i64 0) s.H) s <| .mk fun s =>
  @sOp (some 3) (xMov (.int .i64 1) s.H) s <| .mk fun s =>
  @sOp (some 6) (xFld 8 (s.τ 1) s.H) s <| .mk fun s =>
  @sOp (some 7) (xLoad 1 false (s.τ 6) s.H) s <| .mk fun s =>
  @sOp (some 8) (xLen (s.τ 7) s.H) s <| .mk fun s =>
  @sOp (some 9) (xMov (.int .i64 0) s.H) s <| .mk fun s =>
  @sLoop s ⟨fun L0 s => W36_l4 P Φ L0 s⟩
theorem W36_rs (τ : Nat → AV) (H : Heap) : resV Try.prog τ H [.tmp 2] = some (τ 2) := by kernel_rfl
theorem W36_eq (Φ : Exit → St → Prop) (s : St) : awp Try.prog (Try.f36.body.getD .skip) Φ s = W36 Try.prog Φ s := by kernel_rfl

-- 38 "penance/term.Same"
def W38_c1 (P : Program) (Φ : Exit → St → Prop) (s : St) : Prop :=
  @sOp (some 40) (xPick (s.τ 34) (s.τ 39) (.bool false) s.H) s <| .mk fun s =>
  @sOp (some 4) (xMov (s.τ 40) s.H) s <| .mk fun s =>
  Φ .ret s
def W38_c2 (P : Program) (Φ : Exit → St → Prop) (s : St) : Prop :=
  @sGrd (guardOf (s.τ 34) true) (some 39) s ⟨fun s K => @sCall P (.func 59 []) [(s.τ 36), (s.τ 38), (.func 38 [])] (some 39) s ⟨K⟩⟩ ⟨W38_c1 P Φ⟩
def W38_c3 (P : Program) (Φ : Exit → St → Prop) (s : St) : Prop :=
  @sGrd (guardOf (s.τ 34) true) (some 38) s ⟨fun s K => @sOp (some 38) (xLoad 1 false (s.τ 37) s.H) s ⟨K⟩⟩ ⟨W38_c2 P Φ⟩
def W38_c4 (P : Program) (Φ : Exit → St → Prop) (s : St) : Prop :=
  @sGrd (guardOf (s.τ 34) true) (some 37) s ⟨fun s K => @sOp (some 37) (xFld 8 (s.τ 3) s.H) s ⟨K⟩⟩ ⟨W38_c3 P Φ⟩
def W38_c5 (P : Program) (Φ : Exit → St → Prop) (s : St) : Prop :=
  @sGrd (guardOf (s.τ 34) true) (some 36) s ⟨fun s K => @sOp (some 36) (xLoad 1 false (s.τ 35) s.H) s ⟨K⟩⟩ ⟨W38_c4 P Φ⟩
def W38_c6 (P : Program) (Φ : Exit → St → Prop) (s : St) : Prop :=
  @sOp (some 33) (xPick (s.τ 27) (s.τ 32) (.bool false) s.H) s <| .mk fun s =>
  @sOp (some 34) (xMov (s.τ 33) s.H) s <| .mk fun s =>
  @sGrd (guardOf (s.τ 34) true) (some 35) s ⟨fun s K => @sOp (some 35) (xFld 8 (s.τ 2) s.H) s ⟨K⟩⟩ ⟨W38_c5 P Φ⟩
def W38_c7 (P : Program) (Φ : Exit → St → Prop) (s : St) : Prop :=
  @sGrd (guardOf (s.τ 27) true) (some 32) s ⟨fun s K => @sCall P (.func 58 []) [(s.τ 29), (s.τ 31)] (some 32) s ⟨K⟩⟩ ⟨W38_c6 P Φ⟩
def W38_c8 (P : Program) (Φ : Exit → St → Prop) (s : St) : Prop :=
  @sGrd (guardOf (s.τ 27) true) (some 31) s ⟨fun s K => @sOp (some 31) (xLoad 4 true (s.τ 30) s.H) s ⟨K⟩⟩ ⟨W38_c7 P Φ⟩
def W38_c9 (P : Program) (Φ : Exit → St → Prop) (s : St) : Prop :=
  @sGrd (guardOf (s.τ 27) true) (some 30) s ⟨fun s K => @sOp (some 30) (xFld 4 (s.τ 3) s.H) s ⟨K⟩⟩ ⟨W38_c8 P Φ⟩
def W38_c10 (P : Program) (Φ : Exit → St → Prop) (s : St) : Prop :=
  @sGrd (guardOf (s.τ 27) true) (some 29) s ⟨fun s K => @sOp (some 29) (xLoad 4 true (s.τ 28) s.H) s ⟨K⟩⟩ ⟨W38_c9 P Φ⟩
def W38_c11 (P : Program) (Φ : Exit → St → Prop) (s : St) : Prop :=
  @sOp (some 26) (xPick (s.τ 20) (s.τ 25) (.bool false) s.H) s <| .mk fun s =>
  @sOp (some 27) (xMov (s.τ 26) s.H) s <| .mk fun s =>
  @sGrd (guardOf (s.τ 27) true) (some 28) s ⟨fun s K => @sOp (some 28) (xFld 4 (s.τ 2) s.H) s ⟨K⟩⟩ ⟨W38_c10 P Φ⟩
def W38_c12 (P : Program) (Φ : Exit → St → Prop) (s : St) : Prop :=
  @sGrd (guardOf (s.τ 20) true) (some 25) s ⟨fun s K => @sOp (some 25) (xBin .eql false (s.τ 22) (s.τ 24) s.H) s ⟨K⟩⟩ ⟨W38_c11 P Φ⟩
def W38_c13 (P : Program) (Φ : Exit → St → Prop) (s : St) : Prop :=
  @sGrd (guardOf (s.τ 20) true) (some 24) s ⟨fun s K => @sOp (some 24) (xLoad 1 false (s.τ 23) s.H) s ⟨K⟩⟩ ⟨W38_c12 P Φ⟩
def W38_c14 (P : Program) (Φ : Exit → St → Prop) (s : St) : Prop :=
  @sGrd (guardOf (s.τ 20) true) (some 23) s ⟨fun s K => @sOp (some 23) (xFld 3 (s.τ 3) s.H) s ⟨K⟩⟩ ⟨W38_c13 P Φ⟩
def W38_c15 (P : Program) (Φ : Exit → St → Prop) (s : St) : Prop :=
  @sGrd (guardOf (s.τ 20) true) (some 22) s ⟨fun s K => @sOp (some 22) (xLoad 1 false (s.τ 21) s.H) s ⟨K⟩⟩ ⟨W38_c14 P Φ⟩
def W38 (P : Program) (Φ : Exit → St → Prop) (s : St) : Prop :=
  @sOp (some 2) (xBox 2 34 (s.τ 0) s.H) s <| .mk fun s =>
  @sOp (some 3) (xBox 3 34 (s.τ 1) s.H) s <| .mk fun s =>
  @sOp (some 4) (xMov (.bool false) s.H) s <| .mk fun s =>
  @sOp (some 5) (xFld 0 (s.τ 2) s.H) s <| .mk fun s =>
  @sOp (some 6) (xLoad 1 false (s.τ 5) s.H) s <| .mk fun s =>
  @sOp (some 7) (xFld 1 (s.τ 2) s.H) s <| .mk fun s =>
  @sOp (some 8) (xLoad 1 false (s.τ 7) s.H) s <| .mk fun s =>
  @sOp (some 9) (xFld 2 (s.τ 2) s.H) s <| .mk fun s =>
  @sOp (some 10) (xLoad 1 false (s.τ 9) s.H) s <| .mk fun s =>
  @sOp (some 11) (xBuild [.int .i64 0, .int .i64 0, .int .i64 0] [(0, 1, (s.τ 6)), (1, 1, (s.τ 8)), (2, 1, (s.τ 10))] s.H) s <| .mk fun s =>
  @sOp (some 12) (xFld 0 (s.τ 3) s.H) s <| .mk fun s =>
  @sOp (some 13) (xLoad 1 false (s.τ 12) s.H) s <| .mk fun s =>
  @sOp (some 14) (xFld 1 (s.τ 3) s.H) s <| .mk fun s =>
  @sOp (some 15) (xLoad 1 false (s.τ 14) s.H) s <| .mk fun s =>
  @sOp (some 16) (xFld 2 (s.τ 3) s.H) s <| .mk fun s =>
  @sOp (some 17) (xLoad 1 false (s.τ 16) s.H) s <| .mk fun s =>
  @sOp (some 18) (xBuild [.int .i64 0, .int .i64 0, .int .i64 0] [(0, 1, (s.τ 13)), (1, 1, (s.τ 15)), (2, 1, (s.τ 17))] s.H) s <| .mk fun s =>
  @sOp (some 19) (xEq false [(0, .int), (1, .int), (2, .int)] (s.τ 11) (s.τ 18) s.H) s <| .mk fun s =>
  @sOp (some 20) (xMov (s.τ 19) s.H) s <| .mk fun s =>
  @sGrd (guardOf (s.τ 20) true) (some 21) s ⟨fun s K => @sOp (some 21) (xFld 3 (s.τ 2) s.H) s ⟨K⟩⟩ ⟨W38_c15 P Φ⟩
theorem W38_rs (τ : Nat → AV) (H : Heap) : resV Try.prog τ H [.tmp 4] = some (τ 4) := by kernel_rfl
theorem W38_eq (Φ : Exit → St → Prop) (s : St) : awp Try.prog (Try.f38.body.getD .skip) Φ s = W38 Try.prog Φ s := by kernel_rfl

-- 40 "penance/term.Norm"
def W40_c1 (P : Program) (Φ : Exit → St → Prop) (s : St) : Prop :=
  @sOp none (xStore 9 (s.τ 2) (s.τ 30) s.H) s <| .mk fun s =>
  Φ .ret s
def W40_b2 (P : Program) (Φ : Exit → St → Prop) (s : St) : Prop :=
  @sOp (some 26) (xFld 8 (s.τ 1) s.H) s <| .mk fun s =>
  @sOp (some 27) (xLoad 1 false (s.τ 26) s.H) s <| .mk fun s =>
  @sOp (some 28) (xIx 9 (s.τ 27) (.int .i64 1) s.H) s <| .mk fun s =>
  @sOp (some 29) (xLoad 9 true (s.τ 28) s.H) s <| .mk fun s =>
  @sCall P (.func 40 []) [(s.τ 29)] (some 30) s ⟨W40_c1 P Φ⟩
def W40_c3 (P : Program) (Φ : Exit → St → Prop) (s : St) : Prop :=
  @sOp (some 37) (xLit 9 2 [.int .i64 0, .int .i64 0, .int .i64 0, .str ⟨#[]⟩, .int .i64 0, .int .i64 0, .str ⟨#[]⟩, .nils, .nils] [(0, (s.τ 31)), (1, (s.τ 36))] s.H) s <| .mk fun u7 =>
  @sOp (some 38) (xBuild [.int .i64 0, .int .i64 0, .int .i64 0, .str ⟨#[]⟩, .int .i64 0, .int .i64 0, .str ⟨#[]⟩, .nils, .nils] [(0, 1, (.int .i64 12)), (8, 1, (u7.τ 37))] u7.H) u7 <| .mk fun u8 =>
  @sOp none (xStore 9 (u8.τ 2) (u8.τ 38) u8.H) u8 <| .mk fun s =>
  Φ .ret s
def W40_b4 (P : Program) (Φ : Exit → St → Prop) (s : St) : Prop :=
  @sOp (some 31) (xLoad 9 true (s.τ 4) s.H) s <| .mk fun u1 =>
  @sOp (some 32) (xFld 8 (u1.τ 1) u1.H) u1 <| .mk fun u2 =>
  @sOp (some 33) (xLoad 1 false (u2.τ 32) u2.H) u2 <| .mk fun u3 =>
  @sOp (some 34) (xIx 9 (u3.τ 33) (.int .i64 1) u3.H) u3 <| .mk fun u4 =>
  @sOp (some 35) (xLoad 9 true (u4.τ 34) u4.H) u4 <| .mk fun u5 =>
  @sChk (compat (occ (s.τ 4), []) ([36] ++ (occ (.func 61 []) ++ occL [(u5.τ 35)]), [36] ++ (occ (.func 61 []) ++ occL [(u5.τ 35)]))) <| .mk <|
  @sCall0 P (.func 61 []) [(u5.τ 35)] (some 36) u5 ⟨W40_c3 P Φ⟩
def W40_c5 (P : Program) (Φ : Exit → St → Prop) (s : St) : Prop :=
  @sIf (s.τ 25) ⟨W40_b2 P Φ s⟩ ⟨W40_b4 P Φ s⟩
def W40_c6 (P : Program) (Φ : Exit → St → Prop) (s : St) : Prop :=
  @sOp (some 4) (xAlloc 4 34 [.int .i64 0, .int .i64 0, .int .i64 0, .str ⟨#[]⟩, .int .i64 0, .int .i64 0, .str ⟨#[]⟩, .nils, .nils] s.H) s <| .mk fun s =>
  @sOp none (xStore 9 (s.τ 4) (s.τ 22) s.H) s <| .mk fun s =>
  @sOp (some 23) (xMov (s.τ 3) s.H) s <| .mk fun s =>
  @sOp (some 24) (xLoad 9 true (s.τ 4) s.H) s <| .mk fun s =>
  @sCall P (s.τ 23) [(s.τ 24)] (some 25) s ⟨W40_c5 P Φ⟩
def W40_b7 (P : Program) (Φ : Exit → St → Prop) (s : St) : Prop :=
  @sOp (some 18) (xFld 8 (s.τ 1) s.H) s <| .mk fun s =>
  @sOp (some 19) (xLoad 1 false (s.τ 18) s.H) s <| .mk fun s =>
  @sOp (some 20) (xIx 9 (s.τ 19) (.int .i64 0) s.H) s <| .mk fun s =>
  @sOp (some 21) (xLoad 9 true (s.τ 20) s.H) s <| .mk fun s =>
  @sCall P (.func 40 []) [(s.τ 21)] (some 22) s ⟨W40_c6 P Φ⟩
def W40_b8 (P : Program) (Φ : Exit → St → Prop) (s : St) : Prop :=
  @sOp (some 67) (xBuild [.int .i64 0, .int .i64 0, .int .i64 0, .str ⟨#[]⟩, .int .i64 0, .int .i64 0, .str ⟨#[]⟩, .nils, .nils] [] s.H) s <| .mk fun s =>
  @sOp none (xStore 9 (s.τ 2) (s.τ 67) s.H) s <| .mk fun s =>
  Φ .ret s
def W40_b9 (P : Program) (Φ : Exit → St → Prop) (s : St) : Prop :=
  @sOp (some 68) (xLoad 9 true (s.τ 5) s.H) s <| .mk fun s =>
  @sOp (some 69) (xLoad 9 true (s.τ 6) s.H) s <| .mk fun s =>
  @sOp (some 70) (xLit 9 2 [.int .i64 0, .int .i64 0, .int .i64 0, .str ⟨#[]⟩, .int .i64 0, .int .i64 0, .str ⟨#[]⟩, .nils, .nils] [(0, (s.τ 68)), (1, (s.τ 69))] s.H) s <| .mk fun s =>
  @sOp (some 71) (xBuild [.int .i64 0, .int .i64 0, .int .i64 0, .str ⟨#[]⟩, .int .i64 0, .int .i64 0, .str ⟨#[]⟩, .nils, .nils] [(0, 1, (.int .i64 11)), (8, 1, (s.τ 70))] s.H) s <| .mk fun s =>
  @sOp none (xStore 9 (s.τ 2) (s.τ 71) s.H) s <| .mk fun s =>
  Φ .ret s
def W40_c10 (P : Program) (Φ : Exit → St → Prop) (s : St) : Prop :=
  @sOp (some 66) (xPick (s.τ 62) (s.τ 65) (.bool false) s.H) s <| .mk fun s =>
  @sIf (s.τ 66) ⟨W40_b8 P Φ s⟩ ⟨W40_b9 P Φ s⟩
def W40_c11 (P : Program) (Φ : Exit → St → Prop) (s : St) : Prop :=
  @sGrd (guardOf (s.τ 62) true) (some 65) s ⟨fun s K => @sCall P (s.τ 63) [(s.τ 64)] (some 65) s ⟨K⟩⟩ ⟨W40_c10 P Φ⟩
def W40_c12 (P : Program) (Φ : Exit → St → Prop) (s : St) : Prop :=
  @sGrd (guardOf (s.τ 62) true) (some 64) s ⟨fun s K => @sOp (some 64) (xLoad 9 true (s.τ 6) s.H) s ⟨K⟩⟩ ⟨W40_c11 P Φ⟩
def W40_c13 (P : Program) (Φ : Exit → St → Prop) (s : St) : Prop :=
  @sOp (some 62) (xMov (s.τ 61) s.H) s <| .mk fun s =>
  @sGrd (guardOf (s.τ 62) true) (some 63) s ⟨fun s K => @sOp (some 63) (xMov (s.τ 3) s.H) s ⟨K⟩⟩ ⟨W40_c12 P Φ⟩
def W40_c14 (P : Program) (Φ : Exit → St → Prop) (u0 : St) (u1 : St) (u2 : St) (u3 : St) (u4 : St) (u5 : St) (u6 : St) (u7 : St) (u8 : St) (u9 : St) (s : St) : Prop :=
  @sChk (compat (occ (u0.τ 1), []) ([5], [5])) <| .mk <|
  @sChk (compat (occ (u1.τ 49), []) ([5], [5])) <| .mk <|
  @sChk (compat (occ (u2.τ 50), []) ([5], [5])) <| .mk <|
  @sChk (compat (occ (u3.τ 51), []) ([5], [5])) <| .mk <|
  @sChk (compat ([53] ++ (occ (.func 40 []) ++ occL [(u4.τ 52)]), [53] ++ (occ (.func 40 []) ++ occL [(u4.τ 52)])) ([5], [5])) <| .mk <|
  @sChk (compat (occ (u5.τ 1), []) ([5], [5])) <| .mk <|
  @sChk (compat (occ (u6.τ 54), []) ([5], [5])) <| .mk <|
  @sChk (compat (occ (u7.τ 55), []) ([5], [5])) <| .mk <|
  @sChk (compat (occ (u8.τ 56), []) ([5], [5])) <| .mk <|
  @sChk (compat ([58] ++ (occ (.func 40 []) ++ occL [(u9.τ 57)]), [58] ++ (occ (.func 40 []) ++ occL [(u9.τ 57)])) ([5], [5])) <| .mk <|
  @sOp (some 5) (xAlloc 5 34 [.int .i64 0, .int .i64 0, .int .i64 0, .str ⟨#[]⟩, .int .i64 0, .int .i64 0, .str ⟨#[]⟩, .nils, .nils] s.H) s <| .mk fun u11 =>
  @sChk (compat (occ (u0.τ 1), []) ([6], [6])) <| .mk <|
  @sChk (compat (occ (u1.τ 49), []) ([6], [6])) <| .mk <|
  @sChk (compat (occ (u2.τ 50), []) ([6], [6])) <| .mk <|
  @sChk (compat (occ (u3.τ 51), []) ([6], [6])) <| .mk <|
  @sChk (compat ([53] ++ (occ (.func 40 []) ++ occL [(u4.τ 52)]), [53] ++ (occ (.func 40 []) ++ occL [(u4.τ 52)])) ([6], [6])) <| .mk <|
  @sChk (compat (occ (u5.τ 1), []) ([6], [6])) <| .mk <|
  @sChk (compat (occ (u6.τ 54), []) ([6], [6])) <| .mk <|
  @sChk (compat (occ (u7.τ 55), []) ([6], [6])) <| .mk <|
  @sChk (compat (occ (u8.τ 56), []) ([6], [6])) <| .mk <|
  @sChk (compat ([58] ++ (occ (.func 40 []) ++ occL [(u9.τ 57)]), [58] ++ (occ (.func 40 []) ++ occL [(u9.τ 57)])) ([6], [6])) <| .mk <|
  @sChk (compat ([5], [5]) ([6], [6])) <| .mk <|
  @sOp (some 6) (xAlloc 6 34 [.int .i64 0, .int .i64 0, .int .i64 0, .str ⟨#[]⟩, .int .i64 0, .int .i64 0, .str ⟨#[]⟩, .nils, .nils] u11.H) u11 <| .mk fun u12 =>
  @sOp none (xStore 9 (u12.τ 5) (u12.τ 53) u12.H) u12 <| .mk fun u13 =>
  @sOp none (xStore 9 (u13.τ 6) (u13.τ 58) u13.H) u13 <| .mk fun s =>
  @sOp (some 59) (xMov (s.τ 3) s.H) s <| .mk fun s =>
  @sOp (some 60) (xLoad 9 true (s.τ 5) s.H) s <| .mk fun s =>
  @sCall P (s.τ 59) [(s.τ 60)] (some 61) s ⟨W40_c13 P Φ⟩
def W40_c15 (P : Program) (Φ : Exit → St → Prop) (u0 : St) (u1 : St) (u2 : St) (u3 : St) (u4 : St) (s : St) : Prop :=
  @sChk (compat ([53] ++ (occ (.func 40 []) ++ occL [(u4.τ 52)]), [53] ++ (occ (.func 40 []) ++ occL [(u4.τ 52)])) (occ (s.τ 1), [])) <| .mk <|
  @sOp (some 54) (xFld 8 (s.τ 1) s.H) s <| .mk fun u6 =>
  @sChk (compat ([53] ++ (occ (.func 40 []) ++ occL [(u4.τ 52)]), [53] ++ (occ (.func 40 []) ++ occL [(u4.τ 52)])) (occ (u6.τ 54), [])) <| .mk <|
  @sOp (some 55) (xLoad 1 false (u6.τ 54) u6.H) u6 <| .mk fun u7 =>
  @sChk (compat ([53] ++ (occ (.func 40 []) ++ occL [(u4.τ 52)]), [53] ++ (occ (.func 40 []) ++ occL [(u4.τ 52)])) (occ (u7.τ 55), [])) <| .mk <|
  @sOp (some 56) (xIx 9 (u7.τ 55) (.int .i64 1) u7.H) u7 <| .mk fun u8 =>
  @sChk (compat ([53] ++ (occ (.func 40 []) ++ occL [(u4.τ 52)]), [53] ++ (occ (.func 40 []) ++ occL [(u4.τ 52)])) (occ (u8.τ 56), [])) <| .mk <|
  @sOp (some 57) (xLoad 9 true (u8.τ 56) u8.H) u8 <| .mk fun u9 =>
  @sCall0 P (.func 40 []) [(u9.τ 57)] (some 58) u9 ⟨W40_c14 P Φ u0 u1 u2 u3 u4 s u6 u7 u8 u9⟩
def W40_b16 (P : Program) (Φ : Exit → St → Prop) (s : St) : Prop :=
  @sOp (some 49) (xFld 8 (s.τ 1) s.H) s <| .mk fun u1 =>
  @sOp (some 50) (xLoad 1 false (u1.τ 49) u1.H) u1 <| .mk fun u2 =>
  @sOp (some 51) (xIx 9 (u2.τ 50) (.int .i64 0) u2.H) u2 <| .mk fun u3 =>
  @sOp (some 52) (xLoad 9 true (u3.τ 51) u3.H) u3 <| .mk fun u4 =>
  @sCall0 P (.func 40 []) [(u4.τ 52)] (some 53) u4 ⟨W40_c15 P Φ s u1 u2 u3 u4⟩
def W40_b17 (P : Program) (Φ : Exit → St → Prop) (s : St) : Prop :=
  @sOp (some 90) (xBuild [.int .i64 0, .int .i64 0, .int .i64 0, .str ⟨#[]⟩, .int .i64 0, .int .i64 0, .str ⟨#[]⟩, .nils, .nils] [] s.H) s <| .mk fun s =>
  @sOp none (xStore 9 (s.τ 2) (s.τ 90) s.H) s <| .mk fun s =>
  Φ .ret s
def W40_b18 (P : Program) (Φ : Exit → St → Prop) (s : St) : Prop :=
  @sOp (some 91) (xLoad 9 true (s.τ 7) s.H) s <| .mk fun s =>
  @sOp (some 92) (xLit 9 1 [.int .i64 0, .int .i64 0, .int .i64 0, .str ⟨#[]⟩, .int .i64 0, .int .i64 0, .str ⟨#[]⟩, .nils, .nils] [(0, (s.τ 91))] s.H) s <| .mk fun s =>
  @sOp (some 93) (xBuild [.int .i64 0, .int .i64 0, .int .i64 0, .str ⟨#[]⟩, .int .i64 0, .int .i64 0, .str ⟨#[]⟩, .nils, .nils] [(0, 1, (.int .i64 7)), (8, 1, (s.τ 92))] s.H) s <| .mk fun s =>
  @sOp none (xStore 9 (s.τ 2) (s.τ 93) s.H) s <| .mk fun s =>
  Φ .ret s
def W40_c19 (P : Program) (Φ : Exit → St → Prop) (s : St) : Prop :=
  @sIf (s.τ 89) ⟨W40_b17 P Φ s⟩ ⟨W40_b18 P Φ s⟩
def W40_c20 (P : Program) (Φ : Exit → St → Prop) (s : St) : Prop :=
  @sOp (some 7) (xAlloc 7 34 [.int .i64 0, .int .i64 0, .int .i64 0, .str ⟨#[]⟩, .int .i64 0, .int .i64 0, .str ⟨#[]⟩, .nils, .nils] s.H) s <| .mk fun s =>
  @sOp none (xStore 9 (s.τ 7) (s.τ 86) s.H) s <| .mk fun s =>
  @sOp (some 87) (xMov (s.τ 3) s.H) s <| .mk fun s =>
  @sOp (some 88) (xLoad 9 true (s.τ 7) s.H) s <| .mk fun s =>
  @sCall P (s.τ 87) [(s.τ 88)] (some 89) s ⟨W40_c19 P Φ⟩
def W40_b21 (P : Program) (Φ : Exit → St → Prop) (s : St) : Prop :=
  @sOp (some 82) (xFld 8 (s.τ 1) s.H) s <| .mk fun s =>
  @sOp (some 83) (xLoad 1 false (s.τ 82) s.H) s <| .mk fun s =>
  @sOp (some 84) (xIx 9 (s.τ 83) (.int .i64 0) s.H) s <| .mk fun s =>
  @sOp (some 85) (xLoad 9 true (s.τ 84) s.H) s <| .mk fun s =>
  @sCall P (.func 40 []) [(s.τ 85)] (some 86) s ⟨W40_c20 P Φ⟩
def W40_c22 (P : Program) (Φ : Exit → St → Prop) (s : St) : Prop :=
  @sOp none (xStore 9 (s.τ 2) (s.τ 95) s.H) s <| .mk fun s =>
  Φ .ret s
def W40_b23 (P : Program) (Φ : Exit → St → Prop) (s : St) : Prop :=
  @sOp (some 94) (xLoad 9 true (s.τ 1) s.H) s <| .mk fun s =>
  @sCall P (.func 61 []) [(s.τ 94)] (some 95) s ⟨W40_c22 P Φ⟩
def W40_c24 (P : Program) (Φ : Exit → St → Prop) (s : St) : Prop :=
  @sOp (some 81) (xPick (s.τ 76) (s.τ 80) (.bool false) s.H) s <| .mk fun s =>
  @sOp (some 72) (xMov (s.τ 81) s.H) s <| .mk fun s =>
  @sIf (s.τ 72) ⟨W40_b21 P Φ s⟩ ⟨W40_b23 P Φ s⟩
def W40_c25 (P : Program) (Φ : Exit → St → Prop) (s : St) : Prop :=
  @sGrd (guardOf (s.τ 76) true) (some 80) s ⟨fun s K => @sOp (some 80) (xBin .eql false (s.τ 79) (.int .i64 1) s.H) s ⟨K⟩⟩ ⟨W40_c24 P Φ⟩
def W40_c26 (P : Program) (Φ : Exit → St → Prop) (s : St) : Prop :=
  @sGrd (guardOf (s.τ 76) true) (some 79) s ⟨fun s K => @sOp (some 79) (xLen (s.τ 78) s.H) s ⟨K⟩⟩ ⟨W40_c25 P Φ⟩
def W40_c27 (P : Program) (Φ : Exit → St → Prop) (s : St) : Prop :=
  @sGrd (guardOf (s.τ 76) true) (some 78) s ⟨fun s K => @sOp (some 78) (xLoad 1 false (s.τ 77) s.H) s ⟨K⟩⟩ ⟨W40_c26 P Φ⟩
def W40_b28 (P : Program) (Φ : Exit → St → Prop) (s : St) : Prop :=
  @sOp (some 73) (xFld 0 (s.τ 1) s.H) s <| .mk fun s =>
  @sOp (some 74) (xLoad 1 false (s.τ 73) s.H) s <| .mk fun s =>
  @sOp (some 75) (xBin .eql false (s.τ 74) (.int .i64 7) s.H) s <| .mk fun s =>
  @sOp (some 76) (xMov (s.τ 75) s.H) s <| .mk fun s =>
  @sGrd (guardOf (s.τ 76) true) (some 77) s ⟨fun s K => @sOp (some 77) (xFld 8 (s.τ 1) s.H) s ⟨K⟩⟩ ⟨W40_c27 P Φ⟩
def W40_c29 (P : Program) (Φ : Exit → St → Prop) (s : St) : Prop :=
  @sOp (some 48) (xPick (s.τ 43) (s.τ 47) (.bool false) s.H) s <| .mk fun s =>
  @sOp (some 39) (xMov (s.τ 48) s.H) s <| .mk fun s =>
  @sIf (s.τ 39) ⟨W40_b16 P Φ s⟩ ⟨W40_b28 P Φ s⟩
def W40_c30 (P : Program) (Φ : Exit → St → Prop) (s : St) : Prop :=
  @sGrd (guardOf (s.τ 43) true) (some 47) s ⟨fun s K => @sOp (some 47) (xBin .eql false (s.τ 46) (.int .i64 2) s.H) s ⟨K⟩⟩ ⟨W40_c29 P Φ⟩
def W40_c31 (P : Program) (Φ : Exit → St → Prop) (s : St) : Prop :=
  @sGrd (guardOf (s.τ 43) true) (some 46) s ⟨fun s K => @sOp (some 46) (xLen (s.τ 45) s.H) s ⟨K⟩⟩ ⟨W40_c30 P Φ⟩
def W40_c32 (P : Program) (Φ : Exit → St → Prop) (s : St) : Prop :=
  @sGrd (guardOf (s.τ 43) true) (some 45) s ⟨fun s K => @sOp (some 45) (xLoad 1 false (s.τ 44) s.H) s ⟨K⟩⟩ ⟨W40_c31 P Φ⟩
def W40_b33 (P : Program) (Φ : Exit → St → Prop) (s : St) : Prop :=
  @sOp (some 40) (xFld 0 (s.τ 1) s.H) s <| .mk fun s =>
  @sOp (some 41) (xLoad 1 false (s.τ 40) s.H) s <| .mk fun s =>
  @sOp (some 42) (xBin .eql false (s.τ 41) (.int .i64 11) s.H) s <| .mk fun s =>
  @sOp (some 43) (xMov (s.τ 42) s.H) s <| .mk fun s =>
  @sGrd (guardOf (s.τ 43) true) (some 44) s ⟨fun s K => @sOp (some 44) (xFld 8 (s.τ 1) s.H) s ⟨K⟩⟩ ⟨W40_c32 P Φ⟩
def W40_c34 (P : Program) (Φ : Exit → St → Prop) (s : St) : Prop :=
  @sOp (some 17) (xPick (s.τ 12) (s.τ 16) (.bool false) s.H) s <| .mk fun s =>
  @sOp (some 8) (xMov (s.τ 17) s.H) s <| .mk fun s =>
  @sIf (s.τ 8) ⟨W40_b7 P Φ s⟩ ⟨W40_b33 P Φ s⟩
def W40_c35 (P : Program) (Φ : Exit → St → Prop) (s : St) : Prop :=
  @sGrd (guardOf (s.τ 12) true) (some 16) s ⟨fun s K => @sOp (some 16) (xBin .eql false (s.τ 15) (.int .i64 2) s.H) s ⟨K⟩⟩ ⟨W40_c34 P Φ⟩
def W40_c36 (P : Program) (Φ : Exit → St → Prop) (s : St) : Prop :=
  @sGrd (guardOf (s.τ 12) true) (some 15) s ⟨fun s K => @sOp (some 15) (xLen (s.τ 14) s.H) s ⟨K⟩⟩ ⟨W40_c35 P Φ⟩
def W40_c37 (P : Program) (Φ : Exit → St → Prop) (s : St) : Prop :=
  @sGrd (guardOf (s.τ 12) true) (some 14) s ⟨fun s K => @sOp (some 14) (xLoad 1 false (s.τ 13) s.H) s ⟨K⟩⟩ ⟨W40_c36 P Φ⟩
def W40 (P : Program) (Φ : Exit → St → Prop) (s : St) : Prop :=
  @sOp (some 1) (xBox 1 34 (s.τ 0) s.H) s <| .mk fun s =>
  @sOp (some 2) (xAlloc 2 34 [.int .i64 0, .int .i64 0, .int .i64 0, .str ⟨#[]⟩, .int .i64 0, .int .i64 0, .str ⟨#[]⟩, .nils, .nils] s.H) s <| .mk fun s =>
  @sOp (some 3) (xMov (.func 60 []) s.H) s <| .mk fun s =>
  @sOp (some 9) (xFld 0 (s.τ 1) s.H) s <| .mk fun s =>
  @sOp (some 10) (xLoad 1 false (s.τ 9) s.H) s <| .mk fun s =>
  @sOp (some 11) (xBin .eql false (s.τ 10) (.int .i64 12) s.H) s <| .mk fun s =>
  @sOp (some 12) (xMov (s.τ 11) s.H) s <| .mk fun s =>
  @sGrd (guardOf (s.τ 12) true) (some 13) s ⟨fun s K => @sOp (some 13) (xFld 8 (s.τ 1) s.H) s ⟨K⟩⟩ ⟨W40_c37 P Φ⟩
theorem W40_rs (τ : Nat → AV) (H : Heap) : resV Try.prog τ H [.cell 2 34] = rdV H 9 true (τ 2) := by kernel_rfl
theorem W40_eq (Φ : Exit → St → Prop) (s : St) : awp Try.prog (Try.f40.body.getD .skip) Φ s = W40 Try.prog Φ s := by kernel_rfl

-- 41 "penance/term.Waits"
def W41_c1 (P : Program) (Φ : Exit → St → Prop) (s : St) : Prop :=
  @sOp (some 2) (xMov (s.τ 17) s.H) s <| .mk fun s =>
  Φ .ret s
def W41_k2 (P : Program) (Φ : Exit → St → Prop) (s : St) : Prop :=
  @sOp (some 16) (xLoad 1 false (s.τ 3) s.H) s <| .mk fun s =>
  @sCall P (.func 49 []) [(s.τ 16)] (some 17) s ⟨W41_c1 P Φ⟩
def W41_b3 (P : Program) (Φ : Exit → St → Prop) (s : St) : Prop :=
  @sOp (some 11) (xLoad 1 false (s.τ 3) s.H) s <| .mk fun s =>
  @sOp (some 12) (xFld 1 (s.τ 4) s.H) s <| .mk fun s =>
  @sOp (some 13) (xLoad 1 false (s.τ 12) s.H) s <| .mk fun s =>
  @sOp (some 14) (xLit 1 1 [.int .i64 0] [(0, (s.τ 13))] s.H) s <| .mk fun s =>
  @sOp (some 15) (xApp P 3 1 8 (some 15) (s.τ 11) (s.τ 14) s.H) s <| .mk fun s =>
  @sOp none (xStore 1 (s.τ 3) (s.τ 15) s.H) s <| .mk fun s =>
  Φ .normal s
def W41_r4 (P : Program) (Φ : Exit → St → Prop) (s : St) : Prop :=
  @sOp (some 4) (xAlloc 4 34 [.int .i64 0, .int .i64 0, .int .i64 0, .str ⟨#[]⟩, .int .i64 0, .int .i64 0, .str ⟨#[]⟩, .nils, .nils] s.H) s <| .mk fun s =>
  @sOp none (xStore 9 (s.τ 4) (s.τ 7) s.H) s <| .mk fun s =>
  @sOp (some 8) (xFld 0 (s.τ 4) s.H) s <| .mk fun s =>
  @sOp (some 9) (xLoad 1 false (s.τ 8) s.H) s <| .mk fun s =>
  @sOp (some 10) (xBin .eql false (s.τ 9) (.int .i64 14) s.H) s <| .mk fun s =>
  @sIf (s.τ 10) ⟨W41_b3 P Φ s⟩ ⟨Φ .normal s⟩
def W41_c5 (P : Program) (Φ : Exit → St → Prop) (s : St) : Prop :=
  @sRange P (s.τ 6) [7] s ⟨fun Φ s => W41_r4 P Φ s⟩ ⟨(blkK 0 (thenK (W41_k2 P Φ) Φ))⟩
def W41 (P : Program) (Φ : Exit → St → Prop) (s : St) : Prop :=
  @sOp (some 1) (xBox 1 34 (s.τ 0) s.H) s <| .mk fun s =>
  @sOp (some 2) (xMov (.nils) s.H) s <| .mk fun s =>
  @sOp (some 3) (xAlloc 3 41 [.nils] s.H) s <| .mk fun s =>
  @sOp (some 5) (xLoad 9 true (s.τ 1) s.H) s <| .mk fun s =>
  @sCall P (.func 62 []) [(s.τ 5)] (some 6) s ⟨W41_c5 P Φ⟩
theorem W41_rs (τ : Nat → AV) (H : Heap) : resV Try.prog τ H [.tmp 2] = some (τ 2) := by kernel_rfl
theorem W41_eq (Φ : Exit → St → Prop) (s : St) : awp Try.prog (Try.f41.body.getD .skip) Φ s = W41 Try.prog Φ s := by kernel_rfl

-- 43 "penance/penancelaw5.within"
def W43_k1 (P : Program) (Φ : Exit → St → Prop) (s : St) : Prop :=
  @sOp (some 14) (xMov (s.τ 5) s.H) s <| .mk fun s =>
  @sOp (some 4) (xMov (s.τ 14) s.H) s <| .mk fun s =>
  Φ .ret s
def W43_b2 (P : Program) (Φ : Exit → St → Prop) (s : St) : Prop :=
  @sOp (some 11) (xMov (s.τ 5) s.H) s <| .mk fun s =>
  @sOp (some 12) (xMov (s.τ 1) s.H) s <| .mk fun s =>
  @sOp (some 13) (xBin .add false (s.τ 11) (s.τ 12) s.H) s <| .mk fun s =>
  @sOp (some 5) (xMov (s.τ 13) s.H) s <| .mk fun s =>
  W43_k1 P Φ s
def W43 (P : Program) (Φ : Exit → St → Prop) (s : St) : Prop :=
  @sOp (some 4) (xMov (.int .i64 0) s.H) s <| .mk fun s =>
  @sOp (some 6) (xMov (s.τ 0) s.H) s <| .mk fun s =>
  @sOp (some 7) (xMov (s.τ 1) s.H) s <| .mk fun s =>
  @sOp (some 8) (xBin .rem false (s.τ 6) (s.τ 7) s.H) s <| .mk fun s =>
  @sOp (some 5) (xMov (s.τ 8) s.H) s <| .mk fun s =>
  @sOp (some 9) (xMov (s.τ 5) s.H) s <| .mk fun s =>
  @sOp (some 10) (xBin .lss false (s.τ 9) (.int .i64 0) s.H) s <| .mk fun s =>
  @sIf (s.τ 10) ⟨W43_b2 P Φ s⟩ ⟨W43_k1 P Φ s⟩
theorem W43_rs (τ : Nat → AV) (H : Heap) : resV Try.prog τ H [.tmp 4] = some (τ 4) := by kernel_rfl
theorem W43_eq (Φ : Exit → St → Prop) (s : St) : awp Try.prog (Try.f43.body.getD .skip) Φ s = W43 Try.prog Φ s := by kernel_rfl

-- 44 "penance/penancelaw3.size"
def W44_b1 (P : Program) (Φ : Exit → St → Prop) (s : St) : Prop :=
  @sOp (some 4) (xMov (.int .i64 1000) s.H) s <| .mk fun s =>
  Φ .ret s
def W44_k2 (P : Program) (Φ : Exit → St → Prop) (s : St) : Prop :=
  @sOp (some 36) (xMov (s.τ 5) s.H) s <| .mk fun s =>
  @sOp (some 4) (xMov (s.τ 36) s.H) s <| .mk fun s =>
  Φ .ret s
def W44_c3 (P : Program) (Φ : Exit → St → Prop) (L0 : St → Prop) (s : St) : Prop :=
  @sOp (some 35) (xBin .add false (s.τ 26) (s.τ 34) s.H) s <| .mk fun s =>
  @sOp (some 5) (xMov (s.τ 35) s.H) s <| .mk fun s =>
  @sOp (some 24) (xMov (s.τ 6) s.H) s <| .mk fun s =>
  @sOp (some 25) (xBin .add false (s.τ 24) (.int .i64 1) s.H) s <| .mk fun s =>
  @sOp (some 6) (xMov (s.τ 25) s.H) s <| .mk fun s =>
  L0 s
def W44_b4 (P : Program) (Φ : Exit → St → Prop) (L0 : St → Prop) (s : St) : Prop :=
  @sOp (some 26) (xMov (s.τ 5) s.H) s <| .mk fun s =>
  @sOp (some 27) (xFld 4 (s.τ 2) s.H) s <| .mk fun s =>
  @sOp (some 28) (xLoad 1 false (s.τ 27) s.H) s <| .mk fun s =>
  @sOp (some 29) (xMov (s.τ 6) s.H) s <| .mk fun s =>
  @sOp (some 30) (xIx 5 (s.τ 28) (s.τ 29) s.H) s <| .mk fun s =>
  @sOp (some 31) (xLoad 5 true (s.τ 30) s.H) s <| .mk fun s =>
  @sOp (some 32) (xMov (s.τ 1) s.H) s <| .mk fun s =>
  @sOp (some 33) (xBin .add false (s.τ 32) (.int .i64 1) s.H) s <| .mk fun s =>
  @sCall P (.func 44 []) [(s.τ 31), (s.τ 33)] (some 34) s ⟨W44_c3 P Φ L0⟩
def W44_c5 (P : Program) (Φ : Exit → St → Prop) (L0 : St → Prop) (s : St) : Prop :=
  @sOp (some 23) (xPick (s.τ 20) (s.τ 22) (.bool false) s.H) s <| .mk fun s =>
  @sIf (s.τ 23) ⟨W44_b4 P Φ L0 s⟩ ⟨W44_k2 P Φ s⟩
def W44_c6 (P : Program) (Φ : Exit → St → Prop) (L0 : St → Prop) (s : St) : Prop :=
  @sGrd (guardOf (s.τ 20) true) (some 22) s ⟨fun s K => @sOp (some 22) (xBin .leq false (s.τ 21) (.int .i64 40) s.H) s ⟨K⟩⟩ ⟨W44_c5 P Φ L0⟩
def W44_l7 (P : Program) (Φ : Exit → St → Prop) (L0 : St → Prop) (s : St) : Prop :=
  @sOp (some 15) (xMov (s.τ 6) s.H) s <| .mk fun s =>
  @sOp (some 16) (xFld 4 (s.τ 2) s.H) s <| .mk fun s =>
  @sOp (some 17) (xLoad 1 false (s.τ 16) s.H) s <| .mk fun s =>
  @sOp (some 18) (xLen (s.τ 17) s.H) s <| .mk fun s =>
  @sOp (some 19) (xBin .lss false (s.τ 15) (s.τ 18) s.H) s <| .mk fun s =>
  @sOp (some 20) (xMov (s.τ 19) s.H) s <| .mk fun s =>
  @sGrd (guardOf (s.τ 20) true) (some 21) s ⟨fun s K => @sOp (some 21) (xMov (s.τ 5) s.H) s ⟨K⟩⟩ ⟨W44_c6 P Φ L0⟩
def W44_b8 (P : Program) (Φ : Exit → St → Prop) (s : St) : Prop :=
  @sOp (some 5) (xMov (.int .i64 1) s.H) s <| .mk fun s =>
  @sOp (some 6) (xMov (.int .i64 0) s.H) s <| .mk fun s =>
  @sLoop s ⟨fun L0 s => W44_l7 P Φ L0 s⟩
def W44_c9 (P : Program) (Φ : Exit → St → Prop) (s : St) : Prop :=
  @sOp (some 14) (xPick (s.τ 9) (.bool true) (s.τ 13) s.H) s <| .mk fun s =>
  @sIf (s.τ 14) ⟨W44_b1 P Φ s⟩ ⟨W44_b8 P Φ s⟩
def W44_c10 (P : Program) (Φ : Exit → St → Prop) (s : St) : Prop :=
  @sGrd (guardOf (s.τ 9) false) (some 13) s ⟨fun s K => @sOp (some 13) (xNot (s.τ 12) s.H) s ⟨K⟩⟩ ⟨W44_c9 P Φ⟩
def W44_c11 (P : Program) (Φ : Exit → St → Prop) (s : St) : Prop :=
  @sGrd (guardOf (s.τ 9) false) (some 12) s ⟨fun s K => @sCall P (.func 64 []) [(s.τ 11)] (some 12) s ⟨K⟩⟩ ⟨W44_c10 P Φ⟩
def W44_c12 (P : Program) (Φ : Exit → St → Prop) (s : St) : Prop :=
  @sGrd (guardOf (s.τ 9) false) (some 11) s ⟨fun s K => @sOp (some 11) (xLoad 1 false (s.τ 10) s.H) s ⟨K⟩⟩ ⟨W44_c11 P Φ⟩
def W44 (P : Program) (Φ : Exit → St → Prop) (s : St) : Prop :=
  @sOp (some 2) (xBox 2 25 (s.τ 0) s.H) s <| .mk fun s =>
  @sOp (some 4) (xMov (.int .i64 0) s.H) s <| .mk fun s =>
  @sOp (some 7) (xMov (s.τ 1) s.H) s <| .mk fun s =>
  @sOp (some 8) (xBin .gtr false (s.τ 7) (.int .i64 8) s.H) s <| .mk fun s =>
  @sOp (some 9) (xMov (s.τ 8) s.H) s <| .mk fun s =>
  @sGrd (guardOf (s.τ 9) false) (some 10) s ⟨fun s K => @sOp (some 10) (xFld 3 (s.τ 2) s.H) s ⟨K⟩⟩ ⟨W44_c12 P Φ⟩
theorem W44_rs (τ : Nat → AV) (H : Heap) : resV Try.prog τ H [.tmp 4] = some (τ 4) := by kernel_rfl
theorem W44_eq (Φ : Exit → St → Prop) (s : St) : awp Try.prog (Try.f44.body.getD .skip) Φ s = W44 Try.prog Φ s := by kernel_rfl

end Go.Proofs.Ytkagfenchknjjaa
set_option linter.unusedVariables false
namespace Go.Proofs.Ytkagfenchknjjaa
open Go Go.Am
-- 45 "(penance/penancelaw3.Shape).Make"
def W45_k1 (P : Program) (Φ : Exit → St → Prop) (s : St) : Prop :=
  @sOp (some 57) (xLoad 3 true (s.τ 3) s.H) s <| .mk fun s =>
  @sOp none (xStore 3 (s.τ 2) (s.τ 57) s.H) s <| .mk fun s =>
  Φ .ret s
def W45_k2 (P : Program) (Φ : Exit → St → Prop) (L0 : St → Prop) (s : St) : Prop :=
  @sOp (some 51) (xFld 2 (s.τ 3) s.H) s <| .mk fun s =>
  @sOp (some 52) (xLoad 1 false (s.τ 51) s.H) s <| .mk fun s =>
  @sOp (some 53) (xLoad 9 true (s.τ 6) s.H) s <| .mk fun s =>
  @sOp (some 54) (xLit 9 1 [.str ⟨#[]⟩, .int .i64 0, .str ⟨#[]⟩, .str ⟨#[]⟩, .int .i64 0, .int .i64 0, .str ⟨#[]⟩, .nils, .nils] [(0, (s.τ 53))] s.H) s <| .mk fun s =>
  @sOp (some 55) (xApp P 75 9 136 (some 55) (s.τ 52) (s.τ 54) s.H) s <| .mk fun s =>
  @sOp (some 56) (xFld 2 (s.τ 3) s.H) s <| .mk fun s =>
  @sOp none (xStore 1 (s.τ 56) (s.τ 55) s.H) s <| .mk fun s =>
  @sOp (some 32) (xMov (s.τ 5) s.H) s <| .mk fun s =>
  @sOp (some 33) (xBin .add false (s.τ 32) (.int .i64 1) s.H) s <| .mk fun s =>
  @sOp (some 5) (xMov (s.τ 33) s.H) s <| .mk fun s =>
  L0 s
def W45_c3 (P : Program) (Φ : Exit → St → Prop) (L0 : St → Prop) (s : St) : Prop :=
  @sOp (some 50) (xFld 1 (s.τ 6) s.H) s <| .mk fun s =>
  @sOp none (xStore 8 (s.τ 50) (s.τ 49) s.H) s <| .mk fun s =>
  W45_k2 P Φ L0 s
def W45_b4 (P : Program) (Φ : Exit → St → Prop) (L0 : St → Prop) (s : St) : Prop :=
  @sOp (some 44) (xFld 2 (s.τ 1) s.H) s <| .mk fun s =>
  @sOp (some 45) (xLoad 1 false (s.τ 44) s.H) s <| .mk fun s =>
  @sOp (some 46) (xMov (s.τ 5) s.H) s <| .mk fun s =>
  @sOp (some 47) (xIx 5 (s.τ 45) (s.τ 46) s.H) s <| .mk fun s =>
  @sOp (some 48) (xLoad 5 true (s.τ 47) s.H) s <| .mk fun s =>
  @sCall P (.func 69 []) [(s.τ 48), (.int .i64 0)] (some 49) s ⟨W45_c3 P Φ L0⟩
def W45_c5 (P : Program) (Φ : Exit → St → Prop) (L0 : St → Prop) (s : St) : Prop :=
  @sOp (some 35) (xMov (s.τ 5) s.H) s <| .mk fun s =>
  @sOp (some 36) (xIx 1 (s.τ 34) (s.τ 35) s.H) s <| .mk fun s =>
  @sOp (some 37) (xLoad 1 false (s.τ 36) s.H) s <| .mk fun s =>
  @sOp (some 38) (xBuild [.str ⟨#[]⟩, .int .i64 0, .str ⟨#[]⟩, .str ⟨#[]⟩, .int .i64 0, .int .i64 0, .str ⟨#[]⟩, .nils, .nils] [(0, 1, (s.τ 37))] s.H) s <| .mk fun s =>
  @sOp (some 6) (xAlloc 6 75 [.str ⟨#[]⟩, .int .i64 0, .str ⟨#[]⟩, .str ⟨#[]⟩, .int .i64 0, .int .i64 0, .str ⟨#[]⟩, .nils, .nils] s.H) s <| .mk fun s =>
  @sOp none (xStore 9 (s.τ 6) (s.τ 38) s.H) s <| .mk fun s =>
  @sOp (some 39) (xMov (s.τ 5) s.H) s <| .mk fun s =>
  @sOp (some 40) (xFld 2 (s.τ 1) s.H) s <| .mk fun s =>
  @sOp (some 41) (xLoad 1 false (s.τ 40) s.H) s <| .mk fun s =>
  @sOp (some 42) (xLen (s.τ 41) s.H) s <| .mk fun s =>
  @sOp (some 43) (xBin .lss false (s.τ 39) (s.τ 42) s.H) s <| .mk fun s =>
  @sIf (s.τ 43) ⟨W45_b4 P Φ L0 s⟩ ⟨W45_k2 P Φ L0 s⟩
def W45_l6 (P : Program) (Φ : Exit → St → Prop) (L0 : St → Prop) (s : St) : Prop :=
  @sOp (some 30) (xMov (s.τ 5) s.H) s <| .mk fun s =>
  @sOp (some 31) (xBin .lss false (s.τ 30) (.int .i64 5) s.H) s <| .mk fun s =>
  @sIf (s.τ 31) ⟨@sCall P (.func 68 []) [] (some 34) s ⟨W45_c5 P Φ L0⟩⟩ ⟨W45_k1 P Φ s⟩
def W45_k7 (P : Program) (Φ : Exit → St → Prop) (s : St) : Prop :=
  @sOp (some 5) (xMov (.int .i64 0) s.H) s <| .mk fun s =>
  @sLoop s ⟨fun L0 s => W45_l6 P Φ L0 s⟩
def W45_c8 (P : Program) (Φ : Exit → St → Prop) (L0 : St → Prop) (u0 : St) (u1 : St) (s : St) : Prop :=
  @sOp (some 25) (xBin .sub false (s.τ 24) (.int .i64 4) s.H) s <| .mk fun u13 =>
  @sOp (some 26) (xBuild [.str ⟨#[]⟩, .int .i64 0] [(0, 1, (u13.τ 18)), (1, 1, (u13.τ 25))] u13.H) u13 <| .mk fun u14 =>
  @sChk (compat (occ (u0.τ 3), []) ([27] ++ occL [(u14.τ 26)], [27] ++ occL [(u14.τ 26)])) <| .mk <|
  @sChk (compat (occ (u1.τ 13), []) ([27] ++ occL [(u14.τ 26)], [27] ++ occL [(u14.τ 26)])) <| .mk <|
  @sOp (some 27) (xLit 2 1 [.str ⟨#[]⟩, .int .i64 0] [(0, (u14.τ 26))] u14.H) u14 <| .mk fun u15 =>
  @sOp (some 28) (xApp P 103 2 24 (some 28) (u15.τ 14) (u15.τ 27) u15.H) u15 <| .mk fun u16 =>
  @sOp (some 29) (xFld 0 (u16.τ 3) u16.H) u16 <| .mk fun u17 =>
  @sOp none (xStore 1 (u17.τ 29) (u17.τ 28) u17.H) u17 <| .mk fun s =>
  @sOp (some 11) (xMov (s.τ 4) s.H) s <| .mk fun s =>
  @sOp (some 12) (xBin .add false (s.τ 11) (.int .i64 1) s.H) s <| .mk fun s =>
  @sOp (some 4) (xMov (s.τ 12) s.H) s <| .mk fun s =>
  L0 s
def W45_c9 (P : Program) (Φ : Exit → St → Prop) (L0 : St → Prop) (u0 : St) (u1 : St) (u2 : St) (s : St) : Prop :=
  @sOp (some 16) (xMov (s.τ 4) s.H) s <| .mk fun u4 =>
  @sOp (some 17) (xIx 1 (u4.τ 15) (u4.τ 16) u4.H) u4 <| .mk fun u5 =>
  @sOp (some 18) (xLoad 1 false (u5.τ 17) u5.H) u5 <| .mk fun u6 =>
  @sChk (compat ([15] ++ (occ (.func 66 []) ++ occL []), [15] ++ (occ (.func 66 []) ++ occL [])) (occ (u6.τ 1), [])) <| .mk <|
  @sOp (some 19) (xFld 0 (u6.τ 1) u6.H) u6 <| .mk fun u7 =>
  @sChk (compat ([15] ++ (occ (.func 66 []) ++ occL []), [15] ++ (occ (.func 66 []) ++ occL [])) (occ (u7.τ 19), [])) <| .mk <|
  @sOp (some 20) (xLoad 1 false (u7.τ 19) u7.H) u7 <| .mk fun u8 =>
  @sOp (some 21) (xMov (u8.τ 4) u8.H) u8 <| .mk fun u9 =>
  @sOp (some 22) (xBin .add false (u9.τ 21) (.int .i64 1) u9.H) u9 <| .mk fun u10 =>
  @sOp (some 23) (xBin .quo false (u10.τ 20) (u10.τ 22) u10.H) u10 <| .mk fun u11 =>
  @sChk (compat (occ (u0.τ 3), []) ([24] ++ (occ (.func 67 []) ++ occL [(u11.τ 23), (.int .i64 9)]), [24] ++ (occ (.func 67 []) ++ occL [(u11.τ 23), (.int .i64 9)]))) <| .mk <|
  @sChk (compat (occ (u1.τ 13), []) ([24] ++ (occ (.func 67 []) ++ occL [(u11.τ 23), (.int .i64 9)]), [24] ++ (occ (.func 67 []) ++ occL [(u11.τ 23), (.int .i64 9)]))) <| .mk <|
  @sChk (compat (occ (u4.τ 15), []) ([24] ++ (occ (.func 67 []) ++ occL [(u11.τ 23), (.int .i64 9)]), [24] ++ (occ (.func 67 []) ++ occL [(u11.τ 23), (.int .i64 9)]))) <| .mk <|
  @sChk (compat (occ (u5.τ 17), []) ([24] ++ (occ (.func 67 []) ++ occL [(u11.τ 23), (.int .i64 9)]), [24] ++ (occ (.func 67 []) ++ occL [(u11.τ 23), (.int .i64 9)]))) <| .mk <|
  @sCall0 P (.func 67 []) [(u11.τ 23), (.int .i64 9)] (some 24) u11 ⟨W45_c8 P Φ L0 u0 u1⟩
def W45_b10 (P : Program) (Φ : Exit → St → Prop) (L0 : St → Prop) (s : St) : Prop :=
  @sOp (some 13) (xFld 0 (s.τ 3) s.H) s <| .mk fun u1 =>
  @sOp (some 14) (xLoad 1 false (u1.τ 13) u1.H) u1 <| .mk fun u2 =>
  @sChk (compat (occ (s.τ 3), []) ([15] ++ (occ (.func 66 []) ++ occL []), [15] ++ (occ (.func 66 []) ++ occL []))) <| .mk <|
  @sChk (compat (occ (u1.τ 13), []) ([15] ++ (occ (.func 66 []) ++ occL []), [15] ++ (occ (.func 66 []) ++ occL []))) <| .mk <|
  @sCall0 P (.func 66 []) [] (some 15) u2 ⟨W45_c9 P Φ L0 s u1 u2⟩
def W45_l11 (P : Program) (Φ : Exit → St → Prop) (L0 : St → Prop) (s : St) : Prop :=
  @sOp (some 9) (xMov (s.τ 4) s.H) s <| .mk fun s =>
  @sOp (some 10) (xBin .lss false (s.τ 9) (.int .i64 3) s.H) s <| .mk fun s =>
  @sIf (s.τ 10) ⟨W45_b10 P Φ L0 s⟩ ⟨W45_k7 P Φ s⟩
def W45_c12 (P : Program) (Φ : Exit → St → Prop) (s : St) : Prop :=
  @sOp (some 8) (xBuild [.nils, .nils, .nils] [(1, 1, (s.τ 7))] s.H) s <| .mk fun s =>
  @sOp (some 3) (xAlloc 3 69 [.nils, .nils, .nils] s.H) s <| .mk fun s =>
  @sOp none (xStore 3 (s.τ 3) (s.τ 8) s.H) s <| .mk fun s =>
  @sOp (some 4) (xMov (.int .i64 0) s.H) s <| .mk fun s =>
  @sLoop s ⟨fun L0 s => W45_l11 P Φ L0 s⟩
def W45 (P : Program) (Φ : Exit → St → Prop) (s : St) : Prop :=
  @sOp (some 1) (xBox 1 28 (s.τ 0) s.H) s <| .mk fun s =>
  @sOp (some 2) (xAlloc 2 69 [.nils, .nils, .nils] s.H) s <| .mk fun s =>
  @sCall P (.func 65 []) [] (some 7) s ⟨W45_c12 P Φ⟩
theorem W45_rs (τ : Nat → AV) (H : Heap) : resV Try.prog τ H [.cell 2 69] = rdV H 3 true (τ 2) := by kernel_rfl
theorem W45_eq (Φ : Exit → St → Prop) (s : St) : awp Try.prog (Try.f45.body.getD .skip) Φ s = W45 Try.prog Φ s := by kernel_rfl

-- 46 "penance/penancelaw5.ref4"
def W46_b1 (P : Program) (Φ : Exit → St → Prop) (s : St) : Prop :=
  @sOp (some 13) (xBuild [.int .i64 0, .int .i64 0, .int .i64 0, .str ⟨#[]⟩, .int .i64 0, .int .i64 0, .str ⟨#[]⟩, .nils, .nils] [] s.H) s <| .mk fun s =>
  @sOp none (xStore 9 (s.τ 2) (s.τ 13) s.H) s <| .mk fun s =>
  @sOp (some 3) (xMov (.bool false) s.H) s <| .mk fun s =>
  Φ .ret s
def W46_b2 (P : Program) (Φ : Exit → St → Prop) (s : St) : Prop :=
  @sOp (some 14) (xFld 2 (s.τ 4) s.H) s <| .mk fun s =>
  @sOp (some 15) (xLoad 1 false (s.τ 14) s.H) s <| .mk fun s =>
  @sOp (some 16) (xIx 9 (s.τ 15) (.int .i64 0) s.H) s <| .mk fun s =>
  @sOp (some 17) (xLoad 9 true (s.τ 16) s.H) s <| .mk fun s =>
  @sOp none (xStore 9 (s.τ 2) (s.τ 17) s.H) s <| .mk fun s =>
  @sOp (some 3) (xMov (.bool true) s.H) s <| .mk fun s =>
  Φ .ret s
def W46_c3 (P : Program) (Φ : Exit → St → Prop) (s : St) : Prop :=
  @sOp (some 6) (xMov (s.τ 8) s.H) s <| .mk fun s =>
  @sOp (some 9) (xExt (s.τ 6) 0 s.H) s <| .mk fun s =>
  @sOp (some 10) (xExt (s.τ 6) 1 s.H) s <| .mk fun s =>
  @sOp (some 4) (xAlloc 4 106 [.nils, .int .i64 0, .nils, .int .i64 0] s.H) s <| .mk fun s =>
  @sOp none (xStore 4 (s.τ 4) (s.τ 9) s.H) s <| .mk fun s =>
  @sOp (some 5) (xMov (s.τ 10) s.H) s <| .mk fun s =>
  @sOp (some 11) (xMov (s.τ 5) s.H) s <| .mk fun s =>
  @sOp (some 12) (xBin .neq false (s.τ 11) (.int .i64 0) s.H) s <| .mk fun s =>
  @sIf (s.τ 12) ⟨W46_b1 P Φ s⟩ ⟨W46_b2 P Φ s⟩
def W46 (P : Program) (Φ : Exit → St → Prop) (s : St) : Prop :=
  @sOp (some 1) (xBox 1 69 (s.τ 0) s.H) s <| .mk fun s =>
  @sOp (some 2) (xAlloc 2 34 [.int .i64 0, .int .i64 0, .int .i64 0, .str ⟨#[]⟩, .int .i64 0, .int .i64 0, .str ⟨#[]⟩, .nils, .nils] s.H) s <| .mk fun s =>
  @sOp (some 3) (xMov (.bool false) s.H) s <| .mk fun s =>
  @sOp (some 7) (xLoad 3 true (s.τ 1) s.H) s <| .mk fun s =>
  @sCall P (.func 70 []) [(s.τ 7)] (some 8) s ⟨W46_c3 P Φ⟩
theorem W46_rs (τ : Nat → AV) (H : Heap) : resV Try.prog τ H [.cell 2 34, .tmp 3] = ob (ob (rdV H 9 true (τ 2)) fun v => ob (ob (some (τ 3)) fun v => ob (some []) fun vs => some (v :: vs)) fun vs => some (v :: vs)) fun vs => some (.tup vs) := by kernel_rfl
theorem W46_eq (Φ : Exit → St → Prop) (s : St) : awp Try.prog (Try.f46.body.getD .skip) Φ s = W46 Try.prog Φ s := by kernel_rfl

-- 47 "penance/penancelaw5.waiting"
def W47_k1 (P : Program) (Φ : Exit → St → Prop) (s : St) : Prop :=
  @sOp (some 67) (xLoad 9 true (s.τ 9) s.H) s <| .mk fun s =>
  @sOp none (xStore 9 (s.τ 8) (s.τ 67) s.H) s <| .mk fun s =>
  Φ .ret s
def W47_c2 (P : Program) (Φ : Exit → St → Prop) (L0 : St → Prop) (u0 : St) (u1 : St) (s : St) : Prop :=
  @sChk (compat (occ (u0.τ 9), []) ([64] ++ occL [(s.τ 63)], [64] ++ occL [(s.τ 63)])) <| .mk <|
  @sChk (compat (occ (u1.τ 48), []) ([64] ++ occL [(s.τ 63)], [64] ++ occL [(s.τ 63)])) <| .mk <|
  @sOp (some 64) (xLit 9 1 [.int .i64 0, .int .i64 0, .int .i64 0, .str ⟨#[]⟩, .int .i64 0, .int .i64 0, .str ⟨#[]⟩, .nils, .nils] [(0, (s.τ 63))] s.H) s <| .mk fun u17 =>
  @sOp (some 65) (xApp P 34 9 120 (some 65) (u17.τ 49) (u17.τ 64) u17.H) u17 <| .mk fun u18 =>
  @sOp (some 66) (xFld 8 (u18.τ 9) u18.H) u18 <| .mk fun u19 =>
  @sOp none (xStore 1 (u19.τ 66) (u19.τ 65) u19.H) u19 <| .mk fun s =>
  @sOp (some 46) (xMov (s.τ 11) s.H) s <| .mk fun s =>
  @sOp (some 47) (xBin .add false (s.τ 46) (.int .i64 1) s.H) s <| .mk fun s =>
  @sOp (some 11) (xMov (s.τ 47) s.H) s <| .mk fun s =>
  L0 s
def W47_c3 (P : Program) (Φ : Exit → St → Prop) (L0 : St → Prop) (u0 : St) (u1 : St) (s : St) : Prop :=
  @sOp (some 62) (xPick (s.τ 58) (.bool true) (s.τ 61) s.H) s <| .mk fun u15 =>
  @sChk (compat (occ (u0.τ 9), []) ([63] ++ (occ (.func 47 []) ++ occL [(u15.τ 54), (u15.τ 55), (u15.τ 56), (u15.τ 62)]), [63] ++ (occ (.func 47 []) ++ occL [(u15.τ 54), (u15.τ 55), (u15.τ 56), (u15.τ 62)]))) <| .mk <|
  @sChk (compat (occ (u1.τ 48), []) ([63] ++ (occ (.func 47 []) ++ occL [(u15.τ 54), (u15.τ 55), (u15.τ 56), (u15.τ 62)]), [63] ++ (occ (.func 47 []) ++ occL [(u15.τ 54), (u15.τ 55), (u15.τ 56), (u15.τ 62)]))) <| .mk <|
  @sCall0 P (.func 47 []) [(u15.τ 54), (u15.τ 55), (u15.τ 56), (u15.τ 62)] (some 63) u15 ⟨W47_c2 P Φ L0 u0 u1⟩
def W47_c4 (P : Program) (Φ : Exit → St → Prop) (L0 : St → Prop) (u0 : St) (u1 : St) (s : St) : Prop :=
  @sGrd (guardOf (s.τ 58) false) (some 61) s ⟨fun s K => @sOp (some 61) (xBin .eql false (s.τ 60) (.int .i64 3) s.H) s ⟨K⟩⟩ ⟨W47_c3 P Φ L0 u0 u1⟩
def W47_c5 (P : Program) (Φ : Exit → St → Prop) (L0 : St → Prop) (u0 : St) (u1 : St) (s : St) : Prop :=
  @sGrd (guardOf (s.τ 58) false) (some 60) s ⟨fun s K => @sOp (some 60) (xLoad 1 false (s.τ 59) s.H) s ⟨K⟩⟩ ⟨W47_c4 P Φ L0 u0 u1⟩
def W47_b6 (P : Program) (Φ : Exit → St → Prop) (L0 : St → Prop) (s : St) : Prop :=
  @sOp (some 48) (xFld 8 (s.τ 9) s.H) s <| .mk fun u1 =>
  @sOp (some 49) (xLoad 1 false (u1.τ 48) u1.H) u1 <| .mk fun u2 =>
  @sOp (some 50) (xFld 8 (u2.τ 4) u2.H) u2 <| .mk fun u3 =>
  @sOp (some 51) (xLoad 1 false (u3.τ 50) u3.H) u3 <| .mk fun u4 =>
  @sOp (some 52) (xMov (u4.τ 11) u4.H) u4 <| .mk fun u5 =>
  @sOp (some 53) (xIx 9 (u5.τ 51) (u5.τ 52) u5.H) u5 <| .mk fun u6 =>
  @sOp (some 54) (xLoad 9 true (u6.τ 53) u6.H) u6 <| .mk fun u7 =>
  @sOp (some 55) (xMov (u7.τ 1) u7.H) u7 <| .mk fun u8 =>
  @sOp (some 56) (xMov (u8.τ 2) u8.H) u8 <| .mk fun u9 =>
  @sOp (some 57) (xMov (u9.τ 3) u9.H) u9 <| .mk fun u10 =>
  @sOp (some 58) (xMov (u10.τ 57) u10.H) u10 <| .mk fun u11 =>
  @sGrd (guardOf (u11.τ 58) false) (some 59) u11 ⟨fun s K => @sOp (some 59) (xFld 0 (s.τ 4) s.H) s ⟨K⟩⟩ ⟨W47_c5 P Φ L0 s u1⟩
def W47_l7 (P : Program) (Φ : Exit → St → Prop) (L0 : St → Prop) (s : St) : Prop :=
  @sOp (some 41) (xMov (s.τ 11) s.H) s <| .mk fun s =>
  @sOp (some 42) (xFld 8 (s.τ 4) s.H) s <| .mk fun s =>
  @sOp (some 43) (xLoad 1 false (s.τ 42) s.H) s <| .mk fun s =>
  @sOp (some 44) (xLen (s.τ 43) s.H) s <| .mk fun s =>
  @sOp (some 45) (xBin .lss false (s.τ 41) (s.τ 44) s.H) s <| .mk fun s =>
  @sIf (s.τ 45) ⟨W47_b6 P Φ L0 s⟩ ⟨W47_k1 P Φ s⟩
def W47_k8 (P : Program) (Φ : Exit → St → Prop) (s : St) : Prop :=
  @sOp (some 11) (xMov (.int .i64 0) s.H) s <| .mk fun s =>
  @sLoop s ⟨fun L0 s => W47_l7 P Φ L0 s⟩
def W47_b9 (P : Program) (Φ : Exit → St → Prop) (s : St) : Prop :=
  @sOp (some 35) (xMov (s.τ 10) s.H) s <| .mk fun s =>
  @sOp (some 36) (xFld 1 (s.τ 4) s.H) s <| .mk fun s =>
  @sOp (some 37) (xLoad 1 false (s.τ 36) s.H) s <| .mk fun s =>
  @sOp (some 38) (xFld 3 (s.τ 4) s.H) s <| .mk fun s =>
  @sOp (some 39) (xLoad 1 false (s.τ 38) s.H) s <| .mk fun s =>
  @sOp (some 40) (xBuild [.int .i64 0, .int .i64 0, .int .i64 0, .str ⟨#[]⟩, .int .i64 0, .int .i64 0, .str ⟨#[]⟩, .nils, .nils] [(0, 1, (.int .i64 14)), (1, 1, (s.τ 35)), (2, 1, (s.τ 37)), (3, 1, (s.τ 39))] s.H) s <| .mk fun s =>
  @sOp none (xStore 9 (s.τ 8) (s.τ 40) s.H) s <| .mk fun s =>
  Φ .ret s
def W47_c10 (P : Program) (Φ : Exit → St → Prop) (s : St) : Prop :=
  @sOp (some 34) (xPick (s.τ 26) (s.τ 33) (.bool false) s.H) s <| .mk fun s =>
  @sIf (s.τ 34) ⟨W47_b9 P Φ s⟩ ⟨W47_k8 P Φ s⟩
def W47_c11 (P : Program) (Φ : Exit → St → Prop) (s : St) : Prop :=
  @sGrd (guardOf (s.τ 26) true) (some 33) s ⟨fun s K => @sOp (some 33) (xBin .eql false (s.τ 32) (.int .i64 1) s.H) s ⟨K⟩⟩ ⟨W47_c10 P Φ⟩
def W47_c12 (P : Program) (Φ : Exit → St → Prop) (s : St) : Prop :=
  @sGrd (guardOf (s.τ 26) true) (some 32) s ⟨fun s K => @sCall P (.func 43 []) [(s.τ 31), (.int .i64 2)] (some 32) s ⟨K⟩⟩ ⟨W47_c11 P Φ⟩
def W47_c13 (P : Program) (Φ : Exit → St → Prop) (s : St) : Prop :=
  @sGrd (guardOf (s.τ 26) true) (some 31) s ⟨fun s K => @sOp (some 31) (xBin .shr false (s.τ 27) (s.τ 30) s.H) s ⟨K⟩⟩ ⟨W47_c12 P Φ⟩
def W47_c14 (P : Program) (Φ : Exit → St → Prop) (s : St) : Prop :=
  @sGrd (guardOf (s.τ 26) true) (some 30) s ⟨fun s K => @sOp (some 30) (xConv .u64 (s.τ 29) s.H) s ⟨K⟩⟩ ⟨W47_c13 P Φ⟩
def W47_c15 (P : Program) (Φ : Exit → St → Prop) (s : St) : Prop :=
  @sGrd (guardOf (s.τ 26) true) (some 29) s ⟨fun s K => @sOp (some 29) (xBin .rem false (s.τ 28) (.int .i64 20) s.H) s ⟨K⟩⟩ ⟨W47_c14 P Φ⟩
def W47_c16 (P : Program) (Φ : Exit → St → Prop) (s : St) : Prop :=
  @sGrd (guardOf (s.τ 26) true) (some 28) s ⟨fun s K => @sOp (some 28) (xMov (s.τ 10) s.H) s ⟨K⟩⟩ ⟨W47_c15 P Φ⟩
def W47_b17 (P : Program) (Φ : Exit → St → Prop) (s : St) : Prop :=
  @sOp (some 17) (xMov (s.τ 2) s.H) s <| .mk fun s =>
  @sOp (some 18) (xNil (s.τ 17) s.H) s <| .mk fun s =>
  @sOp (some 19) (xLoad 1 false (s.τ 18) s.H) s <| .mk fun s =>
  @sOp (some 10) (xMov (s.τ 19) s.H) s <| .mk fun s =>
  @sOp (some 20) (xMov (s.τ 2) s.H) s <| .mk fun s =>
  @sOp (some 21) (xMov (s.τ 10) s.H) s <| .mk fun s =>
  @sOp (some 22) (xBin .add false (s.τ 21) (.int .i64 1) s.H) s <| .mk fun s =>
  @sOp (some 23) (xNil (s.τ 20) s.H) s <| .mk fun s =>
  @sOp none (xStore 1 (s.τ 23) (s.τ 22) s.H) s <| .mk fun s =>
  @sOp (some 24) (xMov (s.τ 3) s.H) s <| .mk fun s =>
  @sOp (some 25) (xNot (s.τ 24) s.H) s <| .mk fun s =>
  @sOp (some 26) (xMov (s.τ 25) s.H) s <| .mk fun s =>
  @sGrd (guardOf (s.τ 26) true) (some 27) s ⟨fun s K => @sOp (some 27) (xMov (s.τ 1) s.H) s ⟨K⟩⟩ ⟨W47_c16 P Φ⟩
def W47 (P : Program) (Φ : Exit → St → Prop) (s : St) : Prop :=
  @sOp (some 4) (xBox 4 34 (s.τ 0) s.H) s <| .mk fun s =>
  @sOp (some 8) (xAlloc 8 34 [.int .i64 0, .int .i64 0, .int .i64 0, .str ⟨#[]⟩, .int .i64 0, .int .i64 0, .str ⟨#[]⟩, .nils, .nils] s.H) s <| .mk fun s =>
  @sOp (some 12) (xLoad 9 true (s.τ 4) s.H) s <| .mk fun s =>
  @sOp (some 9) (xAlloc 9 34 [.int .i64 0, .int .i64 0, .int .i64 0, .str ⟨#[]⟩, .int .i64 0, .int .i64 0, .str ⟨#[]⟩, .nils, .nils] s.H) s <| .mk fun s =>
  @sOp none (xStore 9 (s.τ 9) (s.τ 12) s.H) s <| .mk fun s =>
  @sOp (some 13) (xFld 8 (s.τ 9) s.H) s <| .mk fun s =>
  @sOp none (xStore 1 (s.τ 13) (.nils) s.H) s <| .mk fun s =>
  @sOp (some 14) (xFld 0 (s.τ 4) s.H) s <| .mk fun s =>
  @sOp (some 15) (xLoad 1 false (s.τ 14) s.H) s <| .mk fun s =>
  @sOp (some 16) (xBin .eql false (s.τ 15) (.int .i64 1) s.H) s <| .mk fun s =>
  @sIf (s.τ 16) ⟨W47_b17 P Φ s⟩ ⟨W47_k8 P Φ s⟩
theorem W47_rs (τ : Nat → AV) (H : Heap) : resV Try.prog τ H [.cell 8 34] = rdV H 9 true (τ 8) := by kernel_rfl
theorem W47_eq (Φ : Exit → St → Prop) (s : St) : awp Try.prog (Try.f47.body.getD .skip) Φ s = W47 Try.prog Φ s := by kernel_rfl

-- 49 "slices.Clone[[]int,int]"
def W49_b1 (P : Program) (Φ : Exit → St → Prop) (s : St) : Prop :=
  @sOp (some 2) (xMov (.nils) s.H) s <| .mk fun s =>
  Φ .ret s
def W49_b2 (P : Program) (Φ : Exit → St → Prop) (s : St) : Prop :=
  @sOp (some 5) (xRow 5 3 1 0 [.int .i64 0] [] s.H) s <| .mk fun s =>
  @sOp (some 6) (xMov (s.τ 0) s.H) s <| .mk fun s =>
  @sOp (some 7) (xApp P 3 1 8 (some 7) (s.τ 5) (s.τ 6) s.H) s <| .mk fun s =>
  @sOp (some 2) (xMov (s.τ 7) s.H) s <| .mk fun s =>
  Φ .ret s
def W49_c3 (P : Program) (Φ : Exit → St → Prop) (s : St) : Prop :=
  @sIf (s.τ 4) ⟨W49_b1 P Φ s⟩ ⟨W49_b2 P Φ s⟩
def W49 (P : Program) (Φ : Exit → St → Prop) (s : St) : Prop :=
  @sOp (some 2) (xMov (.nils) s.H) s <| .mk fun s =>
  @sOp (some 3) (xMov (s.τ 0) s.H) s <| .mk fun s =>
  @sNil false (s.τ 3) (some 4) s ⟨W49_c3 P Φ⟩
theorem W49_rs (τ : Nat → AV) (H : Heap) : resV Try.prog τ H [.tmp 2] = some (τ 2) := by kernel_rfl
theorem W49_eq (Φ : Exit → St → Prop) (s : St) : awp Try.prog (Try.f49.body.getD .skip) Φ s = W49 Try.prog Φ s := by kernel_rfl

-- 51 "(penance/term.bounds).right"
def W51_b1 (P : Program) (Φ : Exit → St → Prop) (s : St) : Prop :=
  @sOp (some 6) (xMov (.bool false) s.H) s <| .mk fun s =>
  Φ .ret s
def W51_b2 (P : Program) (Φ : Exit → St → Prop) (s : St) : Prop :=
  @sOp (some 6) (xMov (.bool false) s.H) s <| .mk fun s =>
  Φ .ret s
def W51_k3 (P : Program) (Φ : Exit → St → Prop) (s : St) : Prop :=
  @sOp (some 6) (xMov (.bool true) s.H) s <| .mk fun s =>
  Φ .ret s
def W51_b4 (P : Program) (Φ : Exit → St → Prop) (L0 : St → Prop) (s : St) : Prop :=
  @sOp (some 6) (xMov (.bool false) s.H) s <| .mk fun s =>
  Φ .ret s
def W51_b5 (P : Program) (Φ : Exit → St → Prop) (L0 : St → Prop) (s : St) : Prop :=
  @sOp (some 93) (xBin .add false (s.τ 79) (.int .i64 1) s.H) s <| .mk fun s =>
  @sOp (some 79) (xMov (s.τ 93) s.H) s <| .mk fun s =>
  L0 s
def W51_c6 (P : Program) (Φ : Exit → St → Prop) (L0 : St → Prop) (s : St) : Prop :=
  @sOp (some 92) (xNot (s.τ 91) s.H) s <| .mk fun s =>
  @sIf (s.τ 92) ⟨W51_b4 P Φ L0 s⟩ ⟨W51_b5 P Φ L0 s⟩
def W51_c7 (P : Program) (Φ : Exit → St → Prop) (L0 : St → Prop) (s : St) : Prop :=
  @sOp (some 90) (xPick (s.τ 86) (.bool true) (s.τ 89) s.H) s <| .mk fun s =>
  @sCall P (.func 51 []) [(s.τ 83), (s.τ 84), (s.τ 90)] (some 91) s ⟨W51_c6 P Φ L0⟩
def W51_c8 (P : Program) (Φ : Exit → St → Prop) (L0 : St → Prop) (s : St) : Prop :=
  @sGrd (guardOf (s.τ 86) false) (some 89) s ⟨fun s K => @sOp (some 89) (xBin .eql false (s.τ 88) (.int .i64 3) s.H) s ⟨K⟩⟩ ⟨W51_c7 P Φ L0⟩
def W51_c9 (P : Program) (Φ : Exit → St → Prop) (L0 : St → Prop) (s : St) : Prop :=
  @sGrd (guardOf (s.τ 86) false) (some 88) s ⟨fun s K => @sOp (some 88) (xLoad 1 false (s.τ 87) s.H) s ⟨K⟩⟩ ⟨W51_c8 P Φ L0⟩
def W51_b10 (P : Program) (Φ : Exit → St → Prop) (L0 : St → Prop) (s : St) : Prop :=
  @sOp (some 81) (xIx 9 (s.τ 77) (s.τ 79) s.H) s <| .mk fun s =>
  @sOp (some 82) (xLoad 9 true (s.τ 81) s.H) s <| .mk fun s =>
  @sOp (some 10) (xAlloc 10 34 [.int .i64 0, .int .i64 0, .int .i64 0, .str ⟨#[]⟩, .int .i64 0, .int .i64 0, .str ⟨#[]⟩, .nils, .nils] s.H) s <| .mk fun s =>
  @sOp none (xStore 9 (s.τ 10) (s.τ 82) s.H) s <| .mk fun s =>
  @sOp (some 83) (xLoad 3 true (s.τ 3) s.H) s <| .mk fun s =>
  @sOp (some 84) (xLoad 9 true (s.τ 10) s.H) s <| .mk fun s =>
  @sOp (some 85) (xMov (s.τ 2) s.H) s <| .mk fun s =>
  @sOp (some 86) (xMov (s.τ 85) s.H) s <| .mk fun s =>
  @sGrd (guardOf (s.τ 86) false) (some 87) s ⟨fun s K => @sOp (some 87) (xFld 0 (s.τ 4) s.H) s ⟨K⟩⟩ ⟨W51_c9 P Φ L0⟩
def W51_l11 (P : Program) (Φ : Exit → St → Prop) (L0 : St → Prop) (s : St) : Prop :=
  @sOp (some 80) (xBin .lss false (s.τ 79) (s.τ 78) s.H) s <| .mk fun s =>
  @sIf (s.τ 80) ⟨W51_b10 P Φ L0 s⟩ ⟨W51_k3 P Φ s⟩
def W51_b12 (P : Program) (Φ : Exit → St → Prop) (s : St) : Prop :=
  @sOp (some 76) (xFld 8 (s.τ 4) s.H) s <| .mk fun s =>
  @sOp (some 77) (xLoad 1 false (s.τ 76) s.H) s <| .mk fun s =>
  @sOp (some 78) (xLen (s.τ 77) s.H) s <| .mk fun s =>
  @sOp (some 79) (xMov (.int .i64 0) s.H) s <| .mk fun s =>
  @sLoop s ⟨fun L0 s => W51_l11 P Φ L0 s⟩
def W51_k13 (P : Program) (Φ : Exit → St → Prop) (s : St) : Prop :=
  @sOp (some 73) (xLoad 5 true (s.τ 8) s.H) s <| .mk fun s =>
  @sOp (some 74) (xBuild [.bool false, .bool false, .bool false, .bool false, .bool false] [(0, 1, (.bool true)), (1, 1, (.bool true)), (2, 1, (.bool true)), (3, 1, (.bool true)), (4, 1, (.bool true))] s.H) s <| .mk fun s =>
  @sOp (some 75) (xEq true [(0, .bool), (1, .bool), (2, .bool), (3, .bool), (4, .bool)] (s.τ 73) (s.τ 74) s.H) s <| .mk fun s =>
  @sIf (s.τ 75) ⟨W51_b2 P Φ s⟩ ⟨W51_b12 P Φ s⟩
def W51_c14 (P : Program) (Φ : Exit → St → Prop) (s : St) : Prop :=
  @sOp (some 72) (xIxA 5 1 (s.τ 8) (.int .i64 4) s.H) s <| .mk fun s =>
  @sOp none (xStore 1 (s.τ 72) (s.τ 71) s.H) s <| .mk fun s =>
  W51_k13 P Φ s
def W51_b15 (P : Program) (Φ : Exit → St → Prop) (s : St) : Prop :=
  @sOp (some 67) (xFld 4 (s.τ 4) s.H) s <| .mk fun s =>
  @sOp (some 68) (xLoad 4 true (s.τ 67) s.H) s <| .mk fun s =>
  @sOp (some 69) (xFld 0 (s.τ 3) s.H) s <| .mk fun s =>
  @sOp (some 70) (xLoad 1 false (s.τ 69) s.H) s <| .mk fun s =>
  @sCall P (.func 77 []) [(s.τ 68), (s.τ 70)] (some 71) s ⟨W51_c14 P Φ⟩
def W51_k16 (P : Program) (Φ : Exit → St → Prop) (s : St) : Prop :=
  @sOp (some 65) (xFld 3 (s.τ 7) s.H) s <| .mk fun s =>
  @sOp (some 66) (xLoad 1 false (s.τ 65) s.H) s <| .mk fun s =>
  @sIf (s.τ 66) ⟨W51_b15 P Φ s⟩ ⟨W51_k13 P Φ s⟩
def W51_c17 (P : Program) (Φ : Exit → St → Prop) (s : St) : Prop :=
  @sOp (some 64) (xIxA 5 1 (s.τ 8) (.int .i64 3) s.H) s <| .mk fun s =>
  @sOp none (xStore 1 (s.τ 64) (s.τ 63) s.H) s <| .mk fun s =>
  W51_k16 P Φ s
def W51_b18 (P : Program) (Φ : Exit → St → Prop) (s : St) : Prop :=
  @sOp (some 61) (xFld 3 (s.τ 4) s.H) s <| .mk fun s =>
  @sOp (some 62) (xLoad 1 false (s.τ 61) s.H) s <| .mk fun s =>
  @sCall P (.func 76 []) [(s.τ 62)] (some 63) s ⟨W51_c17 P Φ⟩
def W51_c19 (P : Program) (Φ : Exit → St → Prop) (u0 : St) (u1 : St) (u2 : St) (u3 : St) (u4 : St) (u5 : St) (u6 : St) (u7 : St) (u8 : St) (u9 : St) (u10 : St) (u11 : St) (u12 : St) (u13 : St) (u14 : St) (u15 : St) (u16 : St) (u18 : St) (u19 : St) (u21 : St) (u22 : St) (u23 : St) (s : St) : Prop :=
  @sOp (some 58) (xBuild [.bool false, .bool false, .bool false, .bool false, .bool false] [(0, 1, (s.τ 39)), (1, 1, (s.τ 45)), (2, 1, (s.τ 51)), (3, 1, (s.τ 54)), (4, 1, (s.τ 57))] s.H) s <| .mk fun u25 =>
  @sChk (compat (occ (u0.τ 3), []) ([8], [8])) <| .mk <|
  @sChk (compat (occ (u1.τ 7), []) ([8], [8])) <| .mk <|
  @sChk (compat (occ (u2.τ 35), []) ([8], [8])) <| .mk <|
  @sChk (compat (occ (u3.τ 4), []) ([8], [8])) <| .mk <|
  @sChk (compat (occ (u4.τ 37), []) ([8], [8])) <| .mk <|
  @sChk (compat ([39] ++ (occ (.func 74 []) ++ occL [(u5.τ 34), (u5.τ 36), (u5.τ 38)]), [39] ++ (occ (.func 74 []) ++ occL [(u5.τ 34), (u5.τ 36), (u5.τ 38)])) ([8], [8])) <| .mk <|
  @sChk (compat (occ (u6.τ 3), []) ([8], [8])) <| .mk <|
  @sChk (compat (occ (u7.τ 7), []) ([8], [8])) <| .mk <|
  @sChk (compat (occ (u8.τ 41), []) ([8], [8])) <| .mk <|
  @sChk (compat (occ (u9.τ 4), []) ([8], [8])) <| .mk <|
  @sChk (compat (occ (u10.τ 43), []) ([8], [8])) <| .mk <|
  @sChk (compat ([45] ++ (occ (.func 74 []) ++ occL [(u11.τ 40), (u11.τ 42), (u11.τ 44)]), [45] ++ (occ (.func 74 []) ++ occL [(u11.τ 40), (u11.τ 42), (u11.τ 44)])) ([8], [8])) <| .mk <|
  @sChk (compat (occ (u12.τ 4), []) ([8], [8])) <| .mk <|
  @sChk (compat (occ (u13.τ 46), []) ([8], [8])) <| .mk <|
  @sChk (compat (occ (u14.τ 47), []) ([8], [8])) <| .mk <|
  @sChk (compat (occ (u15.τ 7), []) ([8], [8])) <| .mk <|
  @sChk (compat (occ (u16.τ 49), []) ([8], [8])) <| .mk <|
  @sChk (compat (occ (u18.τ 4), []) ([8], [8])) <| .mk <|
  @sChk (compat (occ (u19.τ 52), []) ([8], [8])) <| .mk <|
  @sChk (compat (occ (u21.τ 4), []) ([8], [8])) <| .mk <|
  @sChk (compat (occ (u22.τ 55), []) ([8], [8])) <| .mk <|
  @sChk (compat ([57] ++ (occ (.func 75 []) ++ occL [(u23.τ 56)]), [57] ++ (occ (.func 75 []) ++ occL [(u23.τ 56)])) ([8], [8])) <| .mk <|
  @sOp (some 8) (xAlloc 8 118 [.bool false, .bool false, .bool false, .bool false, .bool false] u25.H) u25 <| .mk fun u26 =>
  @sOp none (xStore 5 (u26.τ 8) (u26.τ 58) u26.H) u26 <| .mk fun s =>
  @sOp (some 59) (xFld 2 (s.τ 7) s.H) s <| .mk fun s =>
  @sOp (some 60) (xLoad 1 false (s.τ 59) s.H) s <| .mk fun s =>
  @sIf (s.τ 60) ⟨W51_b18 P Φ s⟩ ⟨W51_k16 P Φ s⟩
def W51_c20 (P : Program) (Φ : Exit → St → Prop) (u0 : St) (u1 : St) (u2 : St) (u3 : St) (u4 : St) (u5 : St) (u6 : St) (u7 : St) (u8 : St) (u9 : St) (u10 : St) (u11 : St) (s : St) : Prop :=
  @sChk (compat ([39] ++ (occ (.func 74 []) ++ occL [(u5.τ 34), (u5.τ 36), (u5.τ 38)]), [39] ++ (occ (.func 74 []) ++ occL [(u5.τ 34), (u5.τ 36), (u5.τ 38)])) (occ (s.τ 4), [])) <| .mk <|
  @sChk (compat ([45] ++ (occ (.func 74 []) ++ occL [(u11.τ 40), (u11.τ 42), (u11.τ 44)]), [45] ++ (occ (.func 74 []) ++ occL [(u11.τ 40), (u11.τ 42), (u11.τ 44)])) (occ (s.τ 4), [])) <| .mk <|
  @sOp (some 46) (xFld 8 (s.τ 4) s.H) s <| .mk fun u13 =>
  @sChk (compat ([39] ++ (occ (.func 74 []) ++ occL [(u5.τ 34), (u5.τ 36), (u5.τ 38)]), [39] ++ (occ (.func 74 []) ++ occL [(u5.τ 34), (u5.τ 36), (u5.τ 38)])) (occ (u13.τ 46), [])) <| .mk <|
  @sChk (compat ([45] ++ (occ (.func 74 []) ++ occL [(u11.τ 40), (u11.τ 42), (u11.τ 44)]), [45] ++ (occ (.func 74 []) ++ occL [(u11.τ 40), (u11.τ 42), (u11.τ 44)])) (occ (u13.τ 46), [])) <| .mk <|
  @sOp (some 47) (xLoad 1 false (u13.τ 46) u13.H) u13 <| .mk fun u14 =>
  @sChk (compat ([39] ++ (occ (.func 74 []) ++ occL [(u5.τ 34), (u5.τ 36), (u5.τ 38)]), [39] ++ (occ (.func 74 []) ++ occL [(u5.τ 34), (u5.τ 36), (u5.τ 38)])) (occ (u14.τ 47), [])) <| .mk <|
  @sChk (compat ([45] ++ (occ (.func 74 []) ++ occL [(u11.τ 40), (u11.τ 42), (u11.τ 44)]), [45] ++ (occ (.func 74 []) ++ occL [(u11.τ 40), (u11.τ 42), (u11.τ 44)])) (occ (u14.τ 47), [])) <| .mk <|
  @sOp (some 48) (xLen (u14.τ 47) u14.H) u14 <| .mk fun u15 =>
  @sChk (compat ([39] ++ (occ (.func 74 []) ++ occL [(u5.τ 34), (u5.τ 36), (u5.τ 38)]), [39] ++ (occ (.func 74 []) ++ occL [(u5.τ 34), (u5.τ 36), (u5.τ 38)])) (occ (u15.τ 7), [])) <| .mk <|
  @sChk (compat ([45] ++ (occ (.func 74 []) ++ occL [(u11.τ 40), (u11.τ 42), (u11.τ 44)]), [45] ++ (occ (.func 74 []) ++ occL [(u11.τ 40), (u11.τ 42), (u11.τ 44)])) (occ (u15.τ 7), [])) <| .mk <|
  @sOp (some 49) (xFld 4 (u15.τ 7) u15.H) u15 <| .mk fun u16 =>
  @sChk (compat ([39] ++ (occ (.func 74 []) ++ occL [(u5.τ 34), (u5.τ 36), (u5.τ 38)]), [39] ++ (occ (.func 74 []) ++ occL [(u5.τ 34), (u5.τ 36), (u5.τ 38)])) (occ (u16.τ 49), [])) <| .mk <|
  @sChk (compat ([45] ++ (occ (.func 74 []) ++ occL [(u11.τ 40), (u11.τ 42), (u11.τ 44)]), [45] ++ (occ (.func 74 []) ++ occL [(u11.τ 40), (u11.τ 42), (u11.τ 44)])) (occ (u16.τ 49), [])) <| .mk <|
  @sOp (some 50) (xLoad 1 false (u16.τ 49) u16.H) u16 <| .mk fun u17 =>
  @sOp (some 51) (xBin .eql false (u17.τ 48) (u17.τ 50) u17.H) u17 <| .mk fun u18 =>
  @sChk (compat ([39] ++ (occ (.func 74 []) ++ occL [(u5.τ 34), (u5.τ 36), (u5.τ 38)]), [39] ++ (occ (.func 74 []) ++ occL [(u5.τ 34), (u5.τ 36), (u5.τ 38)])) (occ (u18.τ 4), [])) <| .mk <|
  @sChk (compat ([45] ++ (occ (.func 74 []) ++ occL [(u11.τ 40), (u11.τ 42), (u11.τ 44)]), [45] ++ (occ (.func 74 []) ++ occL [(u11.τ 40), (u11.τ 42), (u11.τ 44)])) (occ (u18.τ 4), [])) <| .mk <|
  @sOp (some 52) (xFld 3 (u18.τ 4) u18.H) u18 <| .mk fun u19 =>
  @sChk (compat ([39] ++ (occ (.func 74 []) ++ occL [(u5.τ 34), (u5.τ 36), (u5.τ 38)]), [39] ++ (occ (.func 74 []) ++ occL [(u5.τ 34), (u5.τ 36), (u5.τ 38)])) (occ (u19.τ 52), [])) <| .mk <|
  @sChk (compat ([45] ++ (occ (.func 74 []) ++ occL [(u11.τ 40), (u11.τ 42), (u11.τ 44)]), [45] ++ (occ (.func 74 []) ++ occL [(u11.τ 40), (u11.τ 42), (u11.τ 44)])) (occ (u19.τ 52), [])) <| .mk <|
  @sOp (some 53) (xLoad 1 false (u19.τ 52) u19.H) u19 <| .mk fun u20 =>
  @sOp (some 54) (xBin .eql false (u20.τ 53) (.str ⟨#[]⟩) u20.H) u20 <| .mk fun u21 =>
  @sChk (compat ([39] ++ (occ (.func 74 []) ++ occL [(u5.τ 34), (u5.τ 36), (u5.τ 38)]), [39] ++ (occ (.func 74 []) ++ occL [(u5.τ 34), (u5.τ 36), (u5.τ 38)])) (occ (u21.τ 4), [])) <| .mk <|
  @sChk (compat ([45] ++ (occ (.func 74 []) ++ occL [(u11.τ 40), (u11.τ 42), (u11.τ 44)]), [45] ++ (occ (.func 74 []) ++ occL [(u11.τ 40), (u11.τ 42), (u11.τ 44)])) (occ (u21.τ 4), [])) <| .mk <|
  @sOp (some 55) (xFld 4 (u21.τ 4) u21.H) u21 <| .mk fun u22 =>
  @sChk (compat ([39] ++ (occ (.func 74 []) ++ occL [(u5.τ 34), (u5.τ 36), (u5.τ 38)]), [39] ++ (occ (.func 74 []) ++ occL [(u5.τ 34), (u5.τ 36), (u5.τ 38)])) (occ (u22.τ 55), [])) <| .mk <|
  @sChk (compat ([45] ++ (occ (.func 74 []) ++ occL [(u11.τ 40), (u11.τ 42), (u11.τ 44)]), [45] ++ (occ (.func 74 []) ++ occL [(u11.τ 40), (u11.τ 42), (u11.τ 44)])) (occ (u22.τ 55), [])) <| .mk <|
  @sOp (some 56) (xLoad 4 true (u22.τ 55) u22.H) u22 <| .mk fun u23 =>
  @sChk (compat (occ (s.τ 4), []) ([57] ++ (occ (.func 75 []) ++ occL [(u23.τ 56)]), [57] ++ (occ (.func 75 []) ++ occL [(u23.τ 56)]))) <| .mk <|
  @sChk (compat (occ (u13.τ 46), []) ([57] ++ (occ (.func 75 []) ++ occL [(u23.τ 56)]), [57] ++ (occ (.func 75 []) ++ occL [(u23.τ 56)]))) <| .mk <|
  @sChk (compat (occ (u14.τ 47), []) ([57] ++ (occ (.func 75 []) ++ occL [(u23.τ 56)]), [57] ++ (occ (.func 75 []) ++ occL [(u23.τ 56)]))) <| .mk <|
  @sChk (compat (occ (u15.τ 7), []) ([57] ++ (occ (.func 75 []) ++ occL [(u23.τ 56)]), [57] ++ (occ (.func 75 []) ++ occL [(u23.τ 56)]))) <| .mk <|
  @sChk (compat (occ (u16.τ 49), []) ([57] ++ (occ (.func 75 []) ++ occL [(u23.τ 56)]), [57] ++ (occ (.func 75 []) ++ occL [(u23.τ 56)]))) <| .mk <|
  @sChk (compat (occ (u18.τ 4), []) ([57] ++ (occ (.func 75 []) ++ occL [(u23.τ 56)]), [57] ++ (occ (.func 75 []) ++ occL [(u23.τ 56)]))) <| .mk <|
  @sChk (compat (occ (u19.τ 52), []) ([57] ++ (occ (.func 75 []) ++ occL [(u23.τ 56)]), [57] ++ (occ (.func 75 []) ++ occL [(u23.τ 56)]))) <| .mk <|
  @sCall0 P (.func 75 []) [(u23.τ 56)] (some 57) u23 ⟨W51_c19 P Φ u0 u1 u2 u3 u4 u5 u6 u7 u8 u9 u10 u11 s u13 u14 u15 u16 u18 u19 u21 u22 u23⟩
def W51_c21 (P : Program) (Φ : Exit → St → Prop) (u0 : St) (u1 : St) (u2 : St) (u3 : St) (u4 : St) (u5 : St) (s : St) : Prop :=
  @sChk (compat ([39] ++ (occ (.func 74 []) ++ occL [(u5.τ 34), (u5.τ 36), (u5.τ 38)]), [39] ++ (occ (.func 74 []) ++ occL [(u5.τ 34), (u5.τ 36), (u5.τ 38)])) (occ (s.τ 3), [])) <| .mk <|
  @sOp (some 40) (xLoad 3 true (s.τ 3) s.H) s <| .mk fun u7 =>
  @sChk (compat ([39] ++ (occ (.func 74 []) ++ occL [(u5.τ 34), (u5.τ 36), (u5.τ 38)]), [39] ++ (occ (.func 74 []) ++ occL [(u5.τ 34), (u5.τ 36), (u5.τ 38)])) (occ (u7.τ 7), [])) <| .mk <|
  @sOp (some 41) (xFld 1 (u7.τ 7) u7.H) u7 <| .mk fun u8 =>
  @sChk (compat ([39] ++ (occ (.func 74 []) ++ occL [(u5.τ 34), (u5.τ 36), (u5.τ 38)]), [39] ++ (occ (.func 74 []) ++ occL [(u5.τ 34), (u5.τ 36), (u5.τ 38)])) (occ (u8.τ 41), [])) <| .mk <|
  @sOp (some 42) (xLoad 1 false (u8.τ 41) u8.H) u8 <| .mk fun u9 =>
  @sChk (compat ([39] ++ (occ (.func 74 []) ++ occL [(u5.τ 34), (u5.τ 36), (u5.τ 38)]), [39] ++ (occ (.func 74 []) ++ occL [(u5.τ 34), (u5.τ 36), (u5.τ 38)])) (occ (u9.τ 4), [])) <| .mk <|
  @sOp (some 43) (xFld 2 (u9.τ 4) u9.H) u9 <| .mk fun u10 =>
  @sChk (compat ([39] ++ (occ (.func 74 []) ++ occL [(u5.τ 34), (u5.τ 36), (u5.τ 38)]), [39] ++ (occ (.func 74 []) ++ occL [(u5.τ 34), (u5.τ 36), (u5.τ 38)])) (occ (u10.τ 43), [])) <| .mk <|
  @sOp (some 44) (xLoad 1 false (u10.τ 43) u10.H) u10 <| .mk fun u11 =>
  @sCall0 P (.func 74 []) [(u11.τ 40), (u11.τ 42), (u11.τ 44)] (some 45) u11 ⟨W51_c20 P Φ u0 u1 u2 u3 u4 u5 s u7 u8 u9 u10 u11⟩
def W51_c22 (P : Program) (Φ : Exit → St → Prop) (u0 : St) (s : St) : Prop :=
  @sChk (compat ([29] ++ (occ (.func 73 []) ++ occL []), [29] ++ (occ (.func 73 []) ++ occL [])) (occ (s.τ 4), [])) <| .mk <|
  @sOp (some 30) (xFld 0 (s.τ 4) s.H) s <| .mk fun u2 =>
  @sChk (compat ([29] ++ (occ (.func 73 []) ++ occL []), [29] ++ (occ (.func 73 []) ++ occL [])) (occ (u2.τ 30), [])) <| .mk <|
  @sOp (some 31) (xLoad 1 false (u2.τ 30) u2.H) u2 <| .mk fun u3 =>
  @sOp (some 32) (xIx 5 (u3.τ 29) (u3.τ 31) u3.H) u3 <| .mk fun u4 =>
  @sOp (some 33) (xLoad 5 true (u4.τ 32) u4.H) u4 <| .mk fun u5 =>
  @sChk (compat ([29] ++ (occ (.func 73 []) ++ occL []), [29] ++ (occ (.func 73 []) ++ occL [])) ([7], [7])) <| .mk <|
  @sChk (compat (occ (s.τ 4), []) ([7], [7])) <| .mk <|
  @sChk (compat (occ (u2.τ 30), []) ([7], [7])) <| .mk <|
  @sChk (compat (occ (u3.τ 29), []) ([7], [7])) <| .mk <|
  @sChk (compat (occ (u4.τ 32), []) ([7], [7])) <| .mk <|
  @sOp (some 7) (xAlloc 7 115 [.int .i64 0, .int .i64 0, .bool false, .bool false, .int .i64 0] u5.H) u5 <| .mk fun u6 =>
  @sOp none (xStore 5 (u6.τ 7) (u6.τ 33) u6.H) u6 <| .mk fun s =>
  @sOp (some 34) (xLoad 3 true (s.τ 3) s.H) s <| .mk fun u1 =>
  @sOp (some 35) (xFld 0 (u1.τ 7) u1.H) u1 <| .mk fun u2 =>
  @sOp (some 36) (xLoad 1 false (u2.τ 35) u2.H) u2 <| .mk fun u3 =>
  @sOp (some 37) (xFld 1 (u3.τ 4) u3.H) u3 <| .mk fun u4 =>
  @sOp (some 38) (xLoad 1 false (u4.τ 37) u4.H) u4 <| .mk fun u5 =>
  @sCall0 P (.func 74 []) [(u5.τ 34), (u5.τ 36), (u5.τ 38)] (some 39) u5 ⟨W51_c21 P Φ s u1 u2 u3 u4 u5⟩
def W51_c23 (P : Program) (Φ : Exit → St → Prop) (s : St) : Prop :=
  @sOp (some 28) (xPick (s.τ 21) (.bool true) (s.τ 27) s.H) s <| .mk fun s =>
  @sIf (s.τ 28) ⟨W51_b1 P Φ s⟩ ⟨@sCall0 P (.func 73 []) [] (some 29) s ⟨W51_c22 P Φ s⟩⟩
def W51_c24 (P : Program) (Φ : Exit → St → Prop) (s : St) : Prop :=
  @sGrd (guardOf (s.τ 21) false) (some 27) s ⟨fun s K => @sOp (some 27) (xPick (s.τ 23) (s.τ 26) (.bool false) s.H) s ⟨K⟩⟩ ⟨W51_c23 P Φ⟩
def W51_c25 (P : Program) (Φ : Exit → St → Prop) (s : St) : Prop :=
  @sGrd (guardOf (s.τ 23) true) (some 26) s ⟨fun s K => @sOp (some 26) (xBin .eql false (s.τ 25) (.int .i64 14) s.H) s ⟨K⟩⟩ ⟨W51_c24 P Φ⟩
def W51_c26 (P : Program) (Φ : Exit → St → Prop) (s : St) : Prop :=
  @sGrd (guardOf (s.τ 23) true) (some 25) s ⟨fun s K => @sOp (some 25) (xLoad 1 false (s.τ 24) s.H) s ⟨K⟩⟩ ⟨W51_c25 P Φ⟩
def W51_c27 (P : Program) (Φ : Exit → St → Prop) (s : St) : Prop :=
  @sGrd (guardOf (s.τ 23) true) (some 24) s ⟨fun s K => @sOp (some 24) (xFld 0 (s.τ 4) s.H) s ⟨K⟩⟩ ⟨W51_c26 P Φ⟩
def W51_c28 (P : Program) (Φ : Exit → St → Prop) (s : St) : Prop :=
  @sGrd (guardOf (s.τ 21) false) (some 23) s ⟨fun s K => @sOp (some 23) (xMov (s.τ 22) s.H) s ⟨K⟩⟩ ⟨W51_c27 P Φ⟩
def W51_c29 (P : Program) (Φ : Exit → St → Prop) (s : St) : Prop :=
  @sOp (some 20) (xPick (s.τ 14) (.bool true) (s.τ 19) s.H) s <| .mk fun u10 =>
  @sOp (some 21) (xMov (u10.τ 20) u10.H) u10 <| .mk fun u11 =>
  @sGrd (guardOf (u11.τ 21) false) (some 22) u11 ⟨fun s K => @sOp (some 22) (xMov (s.τ 2) s.H) s ⟨K⟩⟩ ⟨W51_c28 P Φ⟩
def W51_c30 (P : Program) (Φ : Exit → St → Prop) (s : St) : Prop :=
  @sGrd (guardOf (s.τ 14) false) (some 19) s ⟨fun s K => @sOp (some 19) (xBin .geq false (s.τ 16) (s.τ 18) s.H) s ⟨K⟩⟩ ⟨W51_c29 P Φ⟩
def W51_c31 (P : Program) (Φ : Exit → St → Prop) (s : St) : Prop :=
  @sGrd (guardOf (s.τ 14) false) (some 18) s ⟨fun s K => @sOp (some 18) (xLen (s.τ 17) s.H) s ⟨K⟩⟩ ⟨W51_c30 P Φ⟩
def W51_c32 (P : Program) (Φ : Exit → St → Prop) (u4 : St) (u5 : St) (s : St) : Prop :=
  @sChk (compat (occ (u4.τ 4), []) ([17] ++ (occ (.func 73 []) ++ occL []), [17] ++ (occ (.func 73 []) ++ occL []))) <| .mk <|
  @sChk (compat (occ (u5.τ 15), []) ([17] ++ (occ (.func 73 []) ++ occL []), [17] ++ (occ (.func 73 []) ++ occL []))) <| .mk <|
  @sGrd (guardOf (s.τ 14) false) (some 17) s ⟨fun s K => @sCall0 P (.func 73 []) [] (some 17) s ⟨K⟩⟩ ⟨W51_c31 P Φ⟩
def W51_c33 (P : Program) (Φ : Exit → St → Prop) (u4 : St) (s : St) : Prop :=
  @sGrd (guardOf (s.τ 14) false) (some 16) s ⟨fun s K => @sOp (some 16) (xLoad 1 false (s.τ 15) s.H) s ⟨K⟩⟩ ⟨W51_c32 P Φ u4 s⟩
def W51 (P : Program) (Φ : Exit → St → Prop) (s : St) : Prop :=
  @sOp (some 3) (xBox 3 87 (s.τ 0) s.H) s <| .mk fun s =>
  @sOp (some 4) (xBox 4 34 (s.τ 1) s.H) s <| .mk fun s =>
  @sOp (some 6) (xMov (.bool false) s.H) s <| .mk fun s =>
  @sOp (some 11) (xFld 0 (s.τ 4) s.H) s <| .mk fun u1 =>
  @sOp (some 12) (xLoad 1 false (u1.τ 11) u1.H) u1 <| .mk fun u2 =>
  @sOp (some 13) (xBin .lss false (u2.τ 12) (.int .i64 0) u2.H) u2 <| .mk fun u3 =>
  @sOp (some 14) (xMov (u3.τ 13) u3.H) u3 <| .mk fun u4 =>
  @sGrd (guardOf (u4.τ 14) false) (some 15) u4 ⟨fun s K => @sOp (some 15) (xFld 0 (s.τ 4) s.H) s ⟨K⟩⟩ ⟨W51_c33 P Φ u4⟩
theorem W51_rs (τ : Nat → AV) (H : Heap) : resV Try.prog τ H [.tmp 6] = some (τ 6) := by kernel_rfl
theorem W51_eq (Φ : Exit → St → Prop) (s : St) : awp Try.prog (Try.f51.body.getD .skip) Φ s = W51 Try.prog Φ s := by kernel_rfl


end Go.Proofs.Ytkagfenchknjjaa
set_option linter.unusedVariables false
namespace Go.Proofs.Ytkagfenchknjjaa
open Go Go.Am
-- 58 "penance/term.sameExpr"
def W58_c1 (P : Program) (Φ : Exit → St → Prop) (s : St) : Prop :=
  @sOp (some 30) (xPick (s.τ 24) (s.τ 29) (.bool false) s.H) s <| .mk fun s =>
  @sOp (some 4) (xMov (s.τ 30) s.H) s <| .mk fun s =>
  Φ .ret s
def W58_c2 (P : Program) (Φ : Exit → St → Prop) (s : St) : Prop :=
  @sGrd (guardOf (s.τ 24) true) (some 29) s ⟨fun s K => @sCall P (.func 81 []) [(s.τ 26), (s.τ 28), (.func 58 [])] (some 29) s ⟨K⟩⟩ ⟨W58_c1 P Φ⟩
def W58_c3 (P : Program) (Φ : Exit → St → Prop) (s : St) : Prop :=
  @sGrd (guardOf (s.τ 24) true) (some 28) s ⟨fun s K => @sOp (some 28) (xLoad 1 false (s.τ 27) s.H) s ⟨K⟩⟩ ⟨W58_c2 P Φ⟩
def W58_c4 (P : Program) (Φ : Exit → St → Prop) (s : St) : Prop :=
  @sGrd (guardOf (s.τ 24) true) (some 27) s ⟨fun s K => @sOp (some 27) (xFld 3 (s.τ 3) s.H) s ⟨K⟩⟩ ⟨W58_c3 P Φ⟩
def W58_c5 (P : Program) (Φ : Exit → St → Prop) (s : St) : Prop :=
  @sGrd (guardOf (s.τ 24) true) (some 26) s ⟨fun s K => @sOp (some 26) (xLoad 1 false (s.τ 25) s.H) s ⟨K⟩⟩ ⟨W58_c4 P Φ⟩
def W58_c6 (P : Program) (Φ : Exit → St → Prop) (s : St) : Prop :=
  @sOp (some 23) (xPick (s.τ 17) (s.τ 22) (.bool false) s.H) s <| .mk fun s =>
  @sOp (some 24) (xMov (s.τ 23) s.H) s <| .mk fun s =>
  @sGrd (guardOf (s.τ 24) true) (some 25) s ⟨fun s K => @sOp (some 25) (xFld 3 (s.τ 2) s.H) s ⟨K⟩⟩ ⟨W58_c5 P Φ⟩
def W58_c7 (P : Program) (Φ : Exit → St → Prop) (s : St) : Prop :=
  @sGrd (guardOf (s.τ 17) true) (some 22) s ⟨fun s K => @sOp (some 22) (xBin .eql false (s.τ 19) (s.τ 21) s.H) s ⟨K⟩⟩ ⟨W58_c6 P Φ⟩
def W58_c8 (P : Program) (Φ : Exit → St → Prop) (s : St) : Prop :=
  @sGrd (guardOf (s.τ 17) true) (some 21) s ⟨fun s K => @sOp (some 21) (xLoad 1 false (s.τ 20) s.H) s ⟨K⟩⟩ ⟨W58_c7 P Φ⟩
def W58_c9 (P : Program) (Φ : Exit → St → Prop) (s : St) : Prop :=
  @sGrd (guardOf (s.τ 17) true) (some 20) s ⟨fun s K => @sOp (some 20) (xFld 2 (s.τ 3) s.H) s ⟨K⟩⟩ ⟨W58_c8 P Φ⟩
def W58_c10 (P : Program) (Φ : Exit → St → Prop) (s : St) : Prop :=
  @sGrd (guardOf (s.τ 17) true) (some 19) s ⟨fun s K => @sOp (some 19) (xLoad 1 false (s.τ 18) s.H) s ⟨K⟩⟩ ⟨W58_c9 P Φ⟩
def W58_c11 (P : Program) (Φ : Exit → St → Prop) (s : St) : Prop :=
  @sOp (some 16) (xPick (s.τ 10) (s.τ 15) (.bool false) s.H) s <| .mk fun s =>
  @sOp (some 17) (xMov (s.τ 16) s.H) s <| .mk fun s =>
  @sGrd (guardOf (s.τ 17) true) (some 18) s ⟨fun s K => @sOp (some 18) (xFld 2 (s.τ 2) s.H) s ⟨K⟩⟩ ⟨W58_c10 P Φ⟩
def W58_c12 (P : Program) (Φ : Exit → St → Prop) (s : St) : Prop :=
  @sGrd (guardOf (s.τ 10) true) (some 15) s ⟨fun s K => @sOp (some 15) (xBin .eql false (s.τ 12) (s.τ 14) s.H) s ⟨K⟩⟩ ⟨W58_c11 P Φ⟩
def W58_c13 (P : Program) (Φ : Exit → St → Prop) (s : St) : Prop :=
  @sGrd (guardOf (s.τ 10) true) (some 14) s ⟨fun s K => @sOp (some 14) (xLoad 1 false (s.τ 13) s.H) s ⟨K⟩⟩ ⟨W58_c12 P Φ⟩
def W58_c14 (P : Program) (Φ : Exit → St → Prop) (s : St) : Prop :=
  @sGrd (guardOf (s.τ 10) true) (some 13) s ⟨fun s K => @sOp (some 13) (xFld 1 (s.τ 3) s.H) s ⟨K⟩⟩ ⟨W58_c13 P Φ⟩
def W58_c15 (P : Program) (Φ : Exit → St → Prop) (s : St) : Prop :=
  @sGrd (guardOf (s.τ 10) true) (some 12) s ⟨fun s K => @sOp (some 12) (xLoad 1 false (s.τ 11) s.H) s ⟨K⟩⟩ ⟨W58_c14 P Φ⟩
def W58 (P : Program) (Φ : Exit → St → Prop) (s : St) : Prop :=
  @sOp (some 2) (xBox 2 31 (s.τ 0) s.H) s <| .mk fun s =>
  @sOp (some 3) (xBox 3 31 (s.τ 1) s.H) s <| .mk fun s =>
  @sOp (some 4) (xMov (.bool false) s.H) s <| .mk fun s =>
  @sOp (some 5) (xFld 0 (s.τ 2) s.H) s <| .mk fun s =>
  @sOp (some 6) (xLoad 1 false (s.τ 5) s.H) s <| .mk fun s =>
  @sOp (some 7) (xFld 0 (s.τ 3) s.H) s <| .mk fun s =>
  @sOp (some 8) (xLoad 1 false (s.τ 7) s.H) s <| .mk fun s =>
  @sOp (some 9) (xBin .eql false (s.τ 6) (s.τ 8) s.H) s <| .mk fun s =>
  @sOp (some 10) (xMov (s.τ 9) s.H) s <| .mk fun s =>
  @sGrd (guardOf (s.τ 10) true) (some 11) s ⟨fun s K => @sOp (some 11) (xFld 1 (s.τ 2) s.H) s ⟨K⟩⟩ ⟨W58_c15 P Φ⟩
theorem W58_rs (τ : Nat → AV) (H : Heap) : resV Try.prog τ H [.tmp 4] = some (τ 4) := by kernel_rfl
theorem W58_eq (Φ : Exit → St → Prop) (s : St) : awp Try.prog (Try.f58.body.getD .skip) Φ s = W58 Try.prog Φ s := by kernel_rfl

-- 59 "slices.EqualFunc[[]penance/api.Term,[]penance/api.Term,penance/api.Term,penance/api.Term]"
def W59_b1 (P : Program) (Φ : Exit → St → Prop) (s : St) : Prop :=
  @sOp (some 6) (xMov (.bool false) s.H) s <| .mk fun s =>
  Φ .ret s
def W59_k2 (P : Program) (Φ : Exit → St → Prop) (s : St) : Prop :=
  @sOp (some 6) (xMov (.bool true) s.H) s <| .mk fun s =>
  Φ .ret s
def W59_b3 (P : Program) (Φ : Exit → St → Prop) (L0 : St → Prop) (s : St) : Prop :=
  @sOp (some 6) (xMov (.bool false) s.H) s <| .mk fun s =>
  Φ .ret s
def W59_b4 (P : Program) (Φ : Exit → St → Prop) (L0 : St → Prop) (s : St) : Prop :=
  @sOp (some 31) (xBin .add false (s.τ 17) (.int .i64 1) s.H) s <| .mk fun s =>
  @sOp (some 17) (xMov (s.τ 31) s.H) s <| .mk fun s =>
  L0 s
def W59_c5 (P : Program) (Φ : Exit → St → Prop) (L0 : St → Prop) (s : St) : Prop :=
  @sOp (some 30) (xNot (s.τ 29) s.H) s <| .mk fun s =>
  @sIf (s.τ 30) ⟨W59_b3 P Φ L0 s⟩ ⟨W59_b4 P Φ L0 s⟩
def W59_b6 (P : Program) (Φ : Exit → St → Prop) (L0 : St → Prop) (s : St) : Prop :=
  @sOp (some 19) (xMov (s.τ 17) s.H) s <| .mk fun s =>
  @sOp (some 20) (xIx 9 (s.τ 15) (s.τ 17) s.H) s <| .mk fun s =>
  @sOp (some 21) (xLoad 9 true (s.τ 20) s.H) s <| .mk fun s =>
  @sOp (some 8) (xAlloc 8 34 [.int .i64 0, .int .i64 0, .int .i64 0, .str ⟨#[]⟩, .int .i64 0, .int .i64 0, .str ⟨#[]⟩, .nils, .nils] s.H) s <| .mk fun s =>
  @sOp (some 7) (xMov (s.τ 19) s.H) s <| .mk fun s =>
  @sOp none (xStore 9 (s.τ 8) (s.τ 21) s.H) s <| .mk fun s =>
  @sOp (some 22) (xMov (s.τ 1) s.H) s <| .mk fun s =>
  @sOp (some 23) (xMov (s.τ 7) s.H) s <| .mk fun s =>
  @sOp (some 24) (xIx 9 (s.τ 22) (s.τ 23) s.H) s <| .mk fun s =>
  @sOp (some 25) (xLoad 9 true (s.τ 24) s.H) s <| .mk fun s =>
  @sOp (some 9) (xAlloc 9 34 [.int .i64 0, .int .i64 0, .int .i64 0, .str ⟨#[]⟩, .int .i64 0, .int .i64 0, .str ⟨#[]⟩, .nils, .nils] s.H) s <| .mk fun s =>
  @sOp none (xStore 9 (s.τ 9) (s.τ 25) s.H) s <| .mk fun s =>
  @sOp (some 26) (xMov (s.τ 2) s.H) s <| .mk fun s =>
  @sOp (some 27) (xLoad 9 true (s.τ 8) s.H) s <| .mk fun s =>
  @sOp (some 28) (xLoad 9 true (s.τ 9) s.H) s <| .mk fun s =>
  @sCall P (s.τ 26) [(s.τ 27), (s.τ 28)] (some 29) s ⟨W59_c5 P Φ L0⟩
def W59_l7 (P : Program) (Φ : Exit → St → Prop) (L0 : St → Prop) (s : St) : Prop :=
  @sOp (some 18) (xBin .lss false (s.τ 17) (s.τ 16) s.H) s <| .mk fun s =>
  @sIf (s.τ 18) ⟨W59_b6 P Φ L0 s⟩ ⟨W59_k2 P Φ s⟩
def W59_b8 (P : Program) (Φ : Exit → St → Prop) (s : St) : Prop :=
  @sOp (some 15) (xMov (s.τ 0) s.H) s <| .mk fun s =>
  @sOp (some 16) (xLen (s.τ 15) s.H) s <| .mk fun s =>
  @sOp (some 17) (xMov (.int .i64 0) s.H) s <| .mk fun s =>
  @sLoop s ⟨fun L0 s => W59_l7 P Φ L0 s⟩
def W59 (P : Program) (Φ : Exit → St → Prop) (s : St) : Prop :=
  @sOp (some 6) (xMov (.bool false) s.H) s <| .mk fun s =>
  @sOp (some 10) (xMov (s.τ 0) s.H) s <| .mk fun s =>
  @sOp (some 11) (xLen (s.τ 10) s.H) s <| .mk fun s =>
  @sOp (some 12) (xMov (s.τ 1) s.H) s <| .mk fun s =>
  @sOp (some 13) (xLen (s.τ 12) s.H) s <| .mk fun s =>
  @sOp (some 14) (xBin .neq false (s.τ 11) (s.τ 13) s.H) s <| .mk fun s =>
  @sIf (s.τ 14) ⟨W59_b1 P Φ s⟩ ⟨W59_b8 P Φ s⟩
theorem W59_rs (τ : Nat → AV) (H : Heap) : resV Try.prog τ H [.tmp 6] = some (τ 6) := by kernel_rfl
theorem W59_eq (Φ : Exit → St → Prop) (s : St) : awp Try.prog (Try.f59.body.getD .skip) Φ s = W59 Try.prog Φ s := by kernel_rfl

-- 60 "penance/term.Norm$1"

def W60 (P : Program) (Φ : Exit → St → Prop) (s : St) : Prop :=
  @sOp (some 1) (xBox 1 34 (s.τ 0) s.H) s <| .mk fun s =>
  @sOp (some 2) (xMov (.bool false) s.H) s <| .mk fun s =>
  @sOp (some 3) (xFld 0 (s.τ 1) s.H) s <| .mk fun s =>
  @sOp (some 4) (xLoad 1 false (s.τ 3) s.H) s <| .mk fun s =>
  @sOp (some 5) (xBin .eql false (s.τ 4) (.int .i64 0) s.H) s <| .mk fun s =>
  @sOp (some 2) (xMov (s.τ 5) s.H) s <| .mk fun s =>
  Φ .ret s
theorem W60_rs (τ : Nat → AV) (H : Heap) : resV Try.prog τ H [.tmp 2] = some (τ 2) := by kernel_rfl
theorem W60_eq (Φ : Exit → St → Prop) (s : St) : awp Try.prog (Try.f60.body.getD .skip) Φ s = W60 Try.prog Φ s := by kernel_rfl

-- 61 "penance/term.own"
def W61_c1 (P : Program) (Φ : Exit → St → Prop) (u4 : St) (s : St) : Prop :=
  @sChk (compat ([27] ++ (occ (.func 83 []) ++ occL [(u4.τ 26)]), [27] ++ (occ (.func 83 []) ++ occL [(u4.τ 26)])) (occ (s.τ 1), [])) <| .mk <|
  @sOp (some 28) (xFld 8 (s.τ 1) s.H) s <| .mk fun u6 =>
  @sOp none (xStore 1 (u6.τ 28) (u6.τ 24) u6.H) u6 <| .mk fun u7 =>
  @sOp (some 29) (xFld 4 (u7.τ 1) u7.H) u7 <| .mk fun u8 =>
  @sOp none (xStore 4 (u8.τ 29) (u8.τ 27) u8.H) u8 <| .mk fun s =>
  @sOp (some 30) (xLoad 9 true (s.τ 1) s.H) s <| .mk fun s =>
  @sOp none (xStore 9 (s.τ 2) (s.τ 30) s.H) s <| .mk fun s =>
  Φ .ret s
def W61_c2 (P : Program) (Φ : Exit → St → Prop) (u1 : St) (s : St) : Prop :=
  @sChk (compat ([24] ++ (occ (.func 82 []) ++ occL [(u1.τ 23)]), [24] ++ (occ (.func 82 []) ++ occL [(u1.τ 23)])) (occ (s.τ 1), [])) <| .mk <|
  @sOp (some 25) (xFld 4 (s.τ 1) s.H) s <| .mk fun u3 =>
  @sChk (compat ([24] ++ (occ (.func 82 []) ++ occL [(u1.τ 23)]), [24] ++ (occ (.func 82 []) ++ occL [(u1.τ 23)])) (occ (u3.τ 25), [])) <| .mk <|
  @sOp (some 26) (xLoad 4 true (u3.τ 25) u3.H) u3 <| .mk fun u4 =>
  @sCall0 P (.func 83 []) [(u4.τ 26)] (some 27) u4 ⟨W61_c1 P Φ u4⟩
def W61_k3 (P : Program) (Φ : Exit → St → Prop) (s : St) : Prop :=
  @sOp (some 23) (xMov (s.τ 3) s.H) s <| .mk fun u1 =>
  @sCall0 P (.func 82 []) [(u1.τ 23)] (some 24) u1 ⟨W61_c2 P Φ u1⟩
def W61_c4 (P : Program) (Φ : Exit → St → Prop) (L0 : St → Prop) (s : St) : Prop :=
  @sOp (some 20) (xLit 9 1 [.int .i64 0, .int .i64 0, .int .i64 0, .str ⟨#[]⟩, .int .i64 0, .int .i64 0, .str ⟨#[]⟩, .nils, .nils] [(0, (s.τ 19))] s.H) s <| .mk fun s =>
  @sOp (some 21) (xApp P 34 9 120 (some 21) (s.τ 17) (s.τ 20) s.H) s <| .mk fun s =>
  @sOp (some 3) (xMov (s.τ 21) s.H) s <| .mk fun s =>
  @sOp (some 22) (xBin .add false (s.τ 13) (.int .i64 1) s.H) s <| .mk fun s =>
  @sOp (some 13) (xMov (s.τ 22) s.H) s <| .mk fun s =>
  L0 s
def W61_b5 (P : Program) (Φ : Exit → St → Prop) (L0 : St → Prop) (s : St) : Prop :=
  @sOp (some 15) (xIx 9 (s.τ 11) (s.τ 13) s.H) s <| .mk fun s =>
  @sOp (some 16) (xLoad 9 true (s.τ 15) s.H) s <| .mk fun s =>
  @sOp (some 5) (xAlloc 5 34 [.int .i64 0, .int .i64 0, .int .i64 0, .str ⟨#[]⟩, .int .i64 0, .int .i64 0, .str ⟨#[]⟩, .nils, .nils] s.H) s <| .mk fun s =>
  @sOp none (xStore 9 (s.τ 5) (s.τ 16) s.H) s <| .mk fun s =>
  @sOp (some 17) (xMov (s.τ 3) s.H) s <| .mk fun s =>
  @sOp (some 18) (xLoad 9 true (s.τ 5) s.H) s <| .mk fun s =>
  @sCall P (.func 61 []) [(s.τ 18)] (some 19) s ⟨W61_c4 P Φ L0⟩
def W61_l6 (P : Program) (Φ : Exit → St → Prop) (L0 : St → Prop) (s : St) : Prop :=
  @sOp (some 14) (xBin .lss false (s.τ 13) (s.τ 12) s.H) s <| .mk fun s =>
  @sIf (s.τ 14) ⟨W61_b5 P Φ L0 s⟩ ⟨W61_k3 P Φ s⟩
def W61 (P : Program) (Φ : Exit → St → Prop) (s : St) : Prop :=
  @sOp (some 1) (xBox 1 34 (s.τ 0) s.H) s <| .mk fun s =>
  @sOp (some 2) (xAlloc 2 34 [.int .i64 0, .int .i64 0, .int .i64 0, .str ⟨#[]⟩, .int .i64 0, .int .i64 0, .str ⟨#[]⟩, .nils, .nils] s.H) s <| .mk fun s =>
  @sOp (some 6) (xFld 8 (s.τ 1) s.H) s <| .mk fun s =>
  @sOp (some 7) (xLoad 1 false (s.τ 6) s.H) s <| .mk fun s =>
  @sOp (some 8) (xLen (s.τ 7) s.H) s <| .mk fun s =>
  @sOp (some 9) (xMks 9 34 9 120 [.int .i64 0, .int .i64 0, .int .i64 0, .str ⟨#[]⟩, .int .i64 0, .int .i64 0, .str ⟨#[]⟩, .nils, .nils] (.int .i64 0) (s.τ 8) s.H) s <| .mk fun s =>
  @sOp (some 3) (xMov (s.τ 9) s.H) s <| .mk fun s =>
  @sOp (some 10) (xFld 8 (s.τ 1) s.H) s <| .mk fun s =>
  @sOp (some 11) (xLoad 1 false (s.τ 10) s.H) s <| .mk fun s =>
  @sOp (some 12) (xLen (s.τ 11) s.H) s <| .mk fun s =>
  @sOp (some 13) (xMov (.int .i64 0) s.H) s <| .mk fun s =>
  @sLoop s ⟨fun L0 s => W61_l6 P Φ L0 s⟩
theorem W61_rs (τ : Nat → AV) (H : Heap) : resV Try.prog τ H [.cell 2 34] = rdV H 9 true (τ 2) := by kernel_rfl
theorem W61_eq (Φ : Exit → St → Prop) (s : St) : awp Try.prog (Try.f61.body.getD .skip) Φ s = W61 Try.prog Φ s := by kernel_rfl

-- 62 "penance/term.active"

def W62 (P : Program) (Φ : Exit → St → Prop) (s : St) : Prop :=
  @sOp (some 1) (xBox 1 34 (s.τ 0) s.H) s <| .mk fun s =>
  @sOp (some 2) (xMov (.nilf) s.H) s <| .mk fun s =>
  @sOp (some 3) (xMkf 84 [(s.τ 1)] s.H) s <| .mk fun s =>
  @sOp (some 2) (xMov (s.τ 3) s.H) s <| .mk fun s =>
  Φ .ret s
theorem W62_rs (τ : Nat → AV) (H : Heap) : resV Try.prog τ H [.tmp 2] = some (τ 2) := by kernel_rfl
theorem W62_eq (Φ : Exit → St → Prop) (s : St) : awp Try.prog (Try.f62.body.getD .skip) Φ s = W62 Try.prog Φ s := by kernel_rfl

-- 64 "penance/penancelaw2.Few"
def W64_c1 (P : Program) (Φ : Exit → St → Prop) (s : St) : Prop :=
  @sOp (some 5) (xBin .leq false (s.τ 4) (.int .i64 20) s.H) s <| .mk fun s =>
  @sOp (some 2) (xMov (s.τ 5) s.H) s <| .mk fun s =>
  Φ .ret s
def W64 (P : Program) (Φ : Exit → St → Prop) (s : St) : Prop :=
  @sOp (some 2) (xMov (.bool false) s.H) s <| .mk fun s =>
  @sOp (some 3) (xMov (s.τ 0) s.H) s <| .mk fun s =>
  @sCall P (.func 86 []) [(s.τ 3), (.int .i64 0)] (some 4) s ⟨W64_c1 P Φ⟩
theorem W64_rs (τ : Nat → AV) (H : Heap) : resV Try.prog τ H [.tmp 2] = some (τ 2) := by kernel_rfl
theorem W64_eq (Φ : Exit → St → Prop) (s : St) : awp Try.prog (Try.f64.body.getD .skip) Φ s = W64 Try.prog Φ s := by kernel_rfl

-- 65 "penance/penancelaw3.Stacks"

def W65 (P : Program) (Φ : Exit → St → Prop) (s : St) : Prop :=
  @sOp (some 0) (xMov (.nils) s.H) s <| .mk fun s =>
  @sOp (some 1) (xLit 1 2 [.str ⟨#[]⟩] [(0, (.str ⟨#[115]⟩)), (1, (.str ⟨#[117, 110, 100, 111]⟩))] s.H) s <| .mk fun s =>
  @sOp (some 0) (xMov (s.τ 1) s.H) s <| .mk fun s =>
  Φ .ret s
theorem W65_rs (τ : Nat → AV) (H : Heap) : resV Try.prog τ H [.tmp 0] = some (τ 0) := by kernel_rfl
theorem W65_eq (Φ : Exit → St → Prop) (s : St) : awp Try.prog (Try.f65.body.getD .skip) Φ s = W65 Try.prog Φ s := by kernel_rfl

-- 66 "penance/penancelaw3.Vars"

def W66 (P : Program) (Φ : Exit → St → Prop) (s : St) : Prop :=
  @sOp (some 0) (xMov (.nils) s.H) s <| .mk fun s =>
  @sOp (some 1) (xLit 1 3 [.str ⟨#[]⟩] [(0, (.str ⟨#[120]⟩)), (1, (.str ⟨#[121]⟩)), (2, (.str ⟨#[116, 111, 116, 97, 108]⟩))] s.H) s <| .mk fun s =>
  @sOp (some 0) (xMov (s.τ 1) s.H) s <| .mk fun s =>
  Φ .ret s
theorem W66_rs (τ : Nat → AV) (H : Heap) : resV Try.prog τ H [.tmp 0] = some (τ 0) := by kernel_rfl
theorem W66_eq (Φ : Exit → St → Prop) (s : St) : awp Try.prog (Try.f66.body.getD .skip) Φ s = W66 Try.prog Φ s := by kernel_rfl

-- 67 "penance/penancelaw3.within"
def W67_k1 (P : Program) (Φ : Exit → St → Prop) (s : St) : Prop :=
  @sOp (some 14) (xMov (s.τ 5) s.H) s <| .mk fun s =>
  @sOp (some 4) (xMov (s.τ 14) s.H) s <| .mk fun s =>
  Φ .ret s
def W67_b2 (P : Program) (Φ : Exit → St → Prop) (s : St) : Prop :=
  @sOp (some 11) (xMov (s.τ 5) s.H) s <| .mk fun s =>
  @sOp (some 12) (xMov (s.τ 1) s.H) s <| .mk fun s =>
  @sOp (some 13) (xBin .add false (s.τ 11) (s.τ 12) s.H) s <| .mk fun s =>
  @sOp (some 5) (xMov (s.τ 13) s.H) s <| .mk fun s =>
  W67_k1 P Φ s
def W67 (P : Program) (Φ : Exit → St → Prop) (s : St) : Prop :=
  @sOp (some 4) (xMov (.int .i64 0) s.H) s <| .mk fun s =>
  @sOp (some 6) (xMov (s.τ 0) s.H) s <| .mk fun s =>
  @sOp (some 7) (xMov (s.τ 1) s.H) s <| .mk fun s =>
  @sOp (some 8) (xBin .rem false (s.τ 6) (s.τ 7) s.H) s <| .mk fun s =>
  @sOp (some 5) (xMov (s.τ 8) s.H) s <| .mk fun s =>
  @sOp (some 9) (xMov (s.τ 5) s.H) s <| .mk fun s =>
  @sOp (some 10) (xBin .lss false (s.τ 9) (.int .i64 0) s.H) s <| .mk fun s =>
  @sIf (s.τ 10) ⟨W67_b2 P Φ s⟩ ⟨W67_k1 P Φ s⟩
theorem W67_rs (τ : Nat → AV) (H : Heap) : resV Try.prog τ H [.tmp 4] = some (τ 4) := by kernel_rfl
theorem W67_eq (Φ : Exit → St → Prop) (s : St) : awp Try.prog (Try.f67.body.getD .skip) Φ s = W67 Try.prog Φ s := by kernel_rfl

-- 68 "penance/penancelaw3.Defs"

def W68 (P : Program) (Φ : Exit → St → Prop) (s : St) : Prop :=
  @sOp (some 0) (xMov (.nils) s.H) s <| .mk fun s =>
  @sOp (some 1) (xLit 1 5 [.str ⟨#[]⟩] [(0, (.str ⟨#[109, 97, 105, 110]⟩)), (1, (.str ⟨#[112]⟩)), (2, (.str ⟨#[113]⟩)), (3, (.str ⟨#[114, 101, 116, 114, 121]⟩)), (4, (.str ⟨#[108, 97, 115, 116]⟩))] s.H) s <| .mk fun s =>
  @sOp (some 0) (xMov (s.τ 1) s.H) s <| .mk fun s =>
  Φ .ret s
theorem W68_rs (τ : Nat → AV) (H : Heap) : resV Try.prog τ H [.tmp 0] = some (τ 0) := by kernel_rfl
theorem W68_eq (Φ : Exit → St → Prop) (s : St) : awp Try.prog (Try.f68.body.getD .skip) Φ s = W68 Try.prog Φ s := by kernel_rfl

-- 69 "(penance/penancelaw3.Raw).Make"
def W69_c1 (P : Program) (Φ : Exit → St → Prop) (s : St) : Prop :=
  @sOp (some 44) (xIx 1 (s.τ 40) (s.τ 43) s.H) s <| .mk fun s =>
  @sOp (some 45) (xLoad 1 false (s.τ 44) s.H) s <| .mk fun s =>
  @sOp (some 46) (xBuild [.int .i64 0, .str ⟨#[]⟩, .str ⟨#[]⟩, .int .i64 0, .int .i64 0, .str ⟨#[]⟩, .nils, .nils] [(0, 1, (.int .i64 1)), (1, 1, (s.τ 45))] s.H) s <| .mk fun s =>
  @sOp none (xStore 8 (s.τ 4) (s.τ 46) s.H) s <| .mk fun s =>
  Φ .ret s
def W69_b2 (P : Program) (Φ : Exit → St → Prop) (s : St) : Prop :=
  @sOp (some 40) (xLit 1 3 [.str ⟨#[]⟩] [(0, (.str ⟨#[112, 97, 121]⟩)), (1, (.str ⟨#[115, 104, 105, 112]⟩)), (2, (.str ⟨#[97, 115, 107]⟩))] s.H) s <| .mk fun s =>
  @sOp (some 41) (xFld 2 (s.τ 2) s.H) s <| .mk fun s =>
  @sOp (some 42) (xLoad 1 false (s.τ 41) s.H) s <| .mk fun s =>
  @sCall P (.func 67 []) [(s.τ 42), (.int .i64 3)] (some 43) s ⟨W69_c1 P Φ⟩
def W69_c3 (P : Program) (Φ : Exit → St → Prop) (s : St) : Prop :=
  @sOp (some 54) (xIx 1 (s.τ 50) (s.τ 53) s.H) s <| .mk fun s =>
  @sOp (some 55) (xLoad 1 false (s.τ 54) s.H) s <| .mk fun s =>
  @sOp (some 56) (xMov (s.τ 5) s.H) s <| .mk fun s =>
  @sOp (some 57) (xBuild [.int .i64 0, .str ⟨#[]⟩, .str ⟨#[]⟩, .int .i64 0, .int .i64 0, .str ⟨#[]⟩, .nils, .nils] [(0, 1, (.int .i64 1)), (1, 1, (s.τ 55)), (2, 1, (s.τ 56))] s.H) s <| .mk fun s =>
  @sOp none (xStore 8 (s.τ 4) (s.τ 57) s.H) s <| .mk fun s =>
  Φ .ret s
def W69_b4 (P : Program) (Φ : Exit → St → Prop) (s : St) : Prop :=
  @sOp (some 50) (xLit 1 3 [.str ⟨#[]⟩] [(0, (.str ⟨#[112, 97, 121]⟩)), (1, (.str ⟨#[115, 104, 105, 112]⟩)), (2, (.str ⟨#[97, 115, 107]⟩))] s.H) s <| .mk fun s =>
  @sOp (some 51) (xFld 2 (s.τ 2) s.H) s <| .mk fun s =>
  @sOp (some 52) (xLoad 1 false (s.τ 51) s.H) s <| .mk fun s =>
  @sCall P (.func 67 []) [(s.τ 52), (.int .i64 3)] (some 53) s ⟨W69_c3 P Φ⟩
def W69_c5 (P : Program) (Φ : Exit → St → Prop) (s : St) : Prop :=
  @sOp (some 65) (xBuild [.int .i64 0, .str ⟨#[]⟩, .str ⟨#[]⟩, .int .i64 0, .int .i64 0, .str ⟨#[]⟩, .nils, .nils] [(0, 1, (.int .i64 2)), (2, 1, (s.τ 60)), (3, 4, (s.τ 64))] s.H) s <| .mk fun u6 =>
  @sOp none (xStore 8 (u6.τ 4) (u6.τ 65) u6.H) u6 <| .mk fun s =>
  Φ .ret s
def W69_c6 (P : Program) (Φ : Exit → St → Prop) (s : St) : Prop :=
  @sCall0 P (.func 88 []) [(s.τ 62), (s.τ 63)] (some 64) s ⟨W69_c5 P Φ⟩
def W69_b7 (P : Program) (Φ : Exit → St → Prop) (s : St) : Prop :=
  @sOp (some 60) (xMov (s.τ 5) s.H) s <| .mk fun u1 =>
  @sOp (some 61) (xFld 3 (u1.τ 2) u1.H) u1 <| .mk fun u2 =>
  @sOp (some 62) (xLoad 1 false (u2.τ 61) u2.H) u2 <| .mk fun u3 =>
  @sChk (compat (occ (u1.τ 2), []) ([63] ++ (occ (.func 66 []) ++ occL []), [63] ++ (occ (.func 66 []) ++ occL []))) <| .mk <|
  @sChk (compat (occ (u2.τ 61), []) ([63] ++ (occ (.func 66 []) ++ occL []), [63] ++ (occ (.func 66 []) ++ occL []))) <| .mk <|
  @sCall0 P (.func 66 []) [] (some 63) u3 ⟨W69_c6 P Φ⟩
def W69_b8 (P : Program) (Φ : Exit → St → Prop) (s : St) : Prop :=
  @sOp (some 69) (xMov (s.τ 6) s.H) s <| .mk fun s =>
  @sOp (some 70) (xLoad 8 true (s.τ 8) s.H) s <| .mk fun s =>
  @sOp (some 71) (xLit 8 1 [.int .i64 0, .str ⟨#[]⟩, .str ⟨#[]⟩, .int .i64 0, .int .i64 0, .str ⟨#[]⟩, .nils, .nils] [(0, (s.τ 70))] s.H) s <| .mk fun s =>
  @sOp (some 72) (xBuild [.int .i64 0, .str ⟨#[]⟩, .str ⟨#[]⟩, .int .i64 0, .int .i64 0, .str ⟨#[]⟩, .nils, .nils] [(0, 1, (.int .i64 3)), (1, 1, (s.τ 69)), (7, 1, (s.τ 71))] s.H) s <| .mk fun s =>
  @sOp none (xStore 8 (s.τ 4) (s.τ 72) s.H) s <| .mk fun s =>
  Φ .ret s
def W69_b9 (P : Program) (Φ : Exit → St → Prop) (s : St) : Prop :=
  @sOp (some 75) (xMov (s.τ 6) s.H) s <| .mk fun s =>
  @sOp (some 76) (xBuild [.int .i64 0, .str ⟨#[]⟩, .str ⟨#[]⟩, .int .i64 0, .int .i64 0, .str ⟨#[]⟩, .nils, .nils] [(0, 1, (.int .i64 4)), (1, 1, (s.τ 75))] s.H) s <| .mk fun s =>
  @sOp none (xStore 8 (s.τ 4) (s.τ 76) s.H) s <| .mk fun s =>
  Φ .ret s
def W69_b10 (P : Program) (Φ : Exit → St → Prop) (s : St) : Prop :=
  @sOp (some 79) (xMov (s.τ 6) s.H) s <| .mk fun s =>
  @sOp (some 80) (xBuild [.int .i64 0, .str ⟨#[]⟩, .str ⟨#[]⟩, .int .i64 0, .int .i64 0, .str ⟨#[]⟩, .nils, .nils] [(0, 1, (.int .i64 5)), (1, 1, (s.τ 79))] s.H) s <| .mk fun s =>
  @sOp none (xStore 8 (s.τ 4) (s.τ 80) s.H) s <| .mk fun s =>
  Φ .ret s
def W69_c11 (P : Program) (Φ : Exit → St → Prop) (s : St) : Prop :=
  @sOp (some 88) (xIx 1 (s.τ 84) (s.τ 87) s.H) s <| .mk fun u6 =>
  @sOp (some 89) (xLoad 1 false (u6.τ 88) u6.H) u6 <| .mk fun u7 =>
  @sOp (some 90) (xBuild [.int .i64 0, .str ⟨#[]⟩, .str ⟨#[]⟩, .int .i64 0, .int .i64 0, .str ⟨#[]⟩, .nils, .nils] [(0, 1, (.int .i64 6)), (1, 1, (u7.τ 83)), (2, 1, (u7.τ 89))] u7.H) u7 <| .mk fun u8 =>
  @sOp none (xStore 8 (u8.τ 4) (u8.τ 90) u8.H) u8 <| .mk fun s =>
  Φ .ret s
def W69_c12 (P : Program) (Φ : Exit → St → Prop) (u1 : St) (s : St) : Prop :=
  @sChk (compat ([84] ++ (occ (.func 65 []) ++ occL []), [84] ++ (occ (.func 65 []) ++ occL [])) (occ (s.τ 2), [])) <| .mk <|
  @sOp (some 85) (xFld 2 (s.τ 2) s.H) s <| .mk fun u3 =>
  @sChk (compat ([84] ++ (occ (.func 65 []) ++ occL []), [84] ++ (occ (.func 65 []) ++ occL [])) (occ (u3.τ 85), [])) <| .mk <|
  @sOp (some 86) (xLoad 1 false (u3.τ 85) u3.H) u3 <| .mk fun u4 =>
  @sCall0 P (.func 67 []) [(u4.τ 86), (.int .i64 2)] (some 87) u4 ⟨W69_c11 P Φ⟩
def W69_b13 (P : Program) (Φ : Exit → St → Prop) (s : St) : Prop :=
  @sOp (some 83) (xMov (s.τ 6) s.H) s <| .mk fun u1 =>
  @sCall0 P (.func 65 []) [] (some 84) u1 ⟨W69_c12 P Φ u1⟩
def W69_b14 (P : Program) (Φ : Exit → St → Prop) (s : St) : Prop :=
  @sOp (some 93) (xLoad 8 true (s.τ 8) s.H) s <| .mk fun s =>
  @sOp (some 94) (xLit 8 1 [.int .i64 0, .str ⟨#[]⟩, .str ⟨#[]⟩, .int .i64 0, .int .i64 0, .str ⟨#[]⟩, .nils, .nils] [(0, (s.τ 93))] s.H) s <| .mk fun s =>
  @sOp (some 95) (xBuild [.int .i64 0, .str ⟨#[]⟩, .str ⟨#[]⟩, .int .i64 0, .int .i64 0, .str ⟨#[]⟩, .nils, .nils] [(0, 1, (.int .i64 7)), (7, 1, (s.τ 94))] s.H) s <| .mk fun s =>
  @sOp none (xStore 8 (s.τ 4) (s.τ 95) s.H) s <| .mk fun s =>
  Φ .ret s
def W69_b15 (P : Program) (Φ : Exit → St → Prop) (s : St) : Prop :=
  @sOp (some 98) (xBuild [.int .i64 0, .str ⟨#[]⟩, .str ⟨#[]⟩, .int .i64 0, .int .i64 0, .str ⟨#[]⟩, .nils, .nils] [(0, 1, (.int .i64 8))] s.H) s <| .mk fun s =>
  @sOp none (xStore 8 (s.τ 4) (s.τ 98) s.H) s <| .mk fun s =>
  Φ .ret s
def W69_c16 (P : Program) (Φ : Exit → St → Prop) (u0 : St) (u1 : St) (u2 : St) (u3 : St) (s : St) : Prop :=
  @sChk (compat ([103] ++ (occ (.func 66 []) ++ occL []), [103] ++ (occ (.func 66 []) ++ occL [])) (occ (s.τ 8), [])) <| .mk <|
  @sChk (compat ([104] ++ (occ (.func 88 []) ++ occL [(u3.τ 102), (u3.τ 103)]), [104] ++ (occ (.func 88 []) ++ occL [(u3.τ 102), (u3.τ 103)])) (occ (s.τ 8), [])) <| .mk <|
  @sOp (some 105) (xLoad 8 true (s.τ 8) s.H) s <| .mk fun u5 =>
  @sChk (compat ([103] ++ (occ (.func 66 []) ++ occL []), [103] ++ (occ (.func 66 []) ++ occL [])) (occ (u5.τ 9), [])) <| .mk <|
  @sChk (compat ([104] ++ (occ (.func 88 []) ++ occL [(u3.τ 102), (u3.τ 103)]), [104] ++ (occ (.func 88 []) ++ occL [(u3.τ 102), (u3.τ 103)])) (occ (u5.τ 9), [])) <| .mk <|
  @sOp (some 106) (xLoad 8 true (u5.τ 9) u5.H) u5 <| .mk fun u6 =>
  @sChk (compat (occ (u0.τ 2), []) ([107] ++ occL [(u6.τ 105), (u6.τ 106)], [107] ++ occL [(u6.τ 105), (u6.τ 106)])) <| .mk <|
  @sChk (compat (occ (u1.τ 101), []) ([107] ++ occL [(u6.τ 105), (u6.τ 106)], [107] ++ occL [(u6.τ 105), (u6.τ 106)])) <| .mk <|
  @sChk (compat ([103] ++ (occ (.func 66 []) ++ occL []), [103] ++ (occ (.func 66 []) ++ occL [])) ([107] ++ occL [(u6.τ 105), (u6.τ 106)], [107] ++ occL [(u6.τ 105), (u6.τ 106)])) <| .mk <|
  @sChk (compat ([104] ++ (occ (.func 88 []) ++ occL [(u3.τ 102), (u3.τ 103)]), [104] ++ (occ (.func 88 []) ++ occL [(u3.τ 102), (u3.τ 103)])) ([107] ++ occL [(u6.τ 105), (u6.τ 106)], [107] ++ occL [(u6.τ 105), (u6.τ 106)])) <| .mk <|
  @sOp (some 107) (xLit 8 2 [.int .i64 0, .str ⟨#[]⟩, .str ⟨#[]⟩, .int .i64 0, .int .i64 0, .str ⟨#[]⟩, .nils, .nils] [(0, (u6.τ 105)), (1, (u6.τ 106))] u6.H) u6 <| .mk fun u7 =>
  @sOp (some 108) (xBuild [.int .i64 0, .str ⟨#[]⟩, .str ⟨#[]⟩, .int .i64 0, .int .i64 0, .str ⟨#[]⟩, .nils, .nils] [(0, 1, (.int .i64 9)), (3, 4, (u7.τ 104)), (7, 1, (u7.τ 107))] u7.H) u7 <| .mk fun u8 =>
  @sOp none (xStore 8 (u8.τ 4) (u8.τ 108) u8.H) u8 <| .mk fun s =>
  Φ .ret s
def W69_c17 (P : Program) (Φ : Exit → St → Prop) (u0 : St) (u1 : St) (u2 : St) (s : St) : Prop :=
  @sCall0 P (.func 88 []) [(s.τ 102), (s.τ 103)] (some 104) s ⟨W69_c16 P Φ u0 u1 u2 s⟩
def W69_b18 (P : Program) (Φ : Exit → St → Prop) (s : St) : Prop :=
  @sOp (some 101) (xFld 3 (s.τ 2) s.H) s <| .mk fun u1 =>
  @sOp (some 102) (xLoad 1 false (u1.τ 101) u1.H) u1 <| .mk fun u2 =>
  @sChk (compat (occ (s.τ 2), []) ([103] ++ (occ (.func 66 []) ++ occL []), [103] ++ (occ (.func 66 []) ++ occL []))) <| .mk <|
  @sChk (compat (occ (u1.τ 101), []) ([103] ++ (occ (.func 66 []) ++ occL []), [103] ++ (occ (.func 66 []) ++ occL []))) <| .mk <|
  @sCall0 P (.func 66 []) [] (some 103) u2 ⟨W69_c17 P Φ s u1 u2⟩
def W69_b19 (P : Program) (Φ : Exit → St → Prop) (s : St) : Prop :=
  @sOp (some 111) (xLoad 8 true (s.τ 8) s.H) s <| .mk fun s =>
  @sOp (some 112) (xLoad 8 true (s.τ 9) s.H) s <| .mk fun s =>
  @sOp (some 113) (xLit 8 2 [.int .i64 0, .str ⟨#[]⟩, .str ⟨#[]⟩, .int .i64 0, .int .i64 0, .str ⟨#[]⟩, .nils, .nils] [(0, (s.τ 111)), (1, (s.τ 112))] s.H) s <| .mk fun s =>
  @sOp (some 114) (xBuild [.int .i64 0, .str ⟨#[]⟩, .str ⟨#[]⟩, .int .i64 0, .int .i64 0, .str ⟨#[]⟩, .nils, .nils] [(0, 1, (.int .i64 10)), (7, 1, (s.τ 113))] s.H) s <| .mk fun s =>
  @sOp none (xStore 8 (s.τ 4) (s.τ 114) s.H) s <| .mk fun s =>
  Φ .ret s
def W69_b20 (P : Program) (Φ : Exit → St → Prop) (s : St) : Prop :=
  @sOp (some 118) (xLoad 8 true (s.τ 8) s.H) s <| .mk fun s =>
  @sOp (some 119) (xLoad 8 true (s.τ 9) s.H) s <| .mk fun s =>
  @sOp (some 120) (xLit 8 2 [.int .i64 0, .str ⟨#[]⟩, .str ⟨#[]⟩, .int .i64 0, .int .i64 0, .str ⟨#[]⟩, .nils, .nils] [(0, (s.τ 118)), (1, (s.τ 119))] s.H) s <| .mk fun s =>
  @sOp (some 121) (xBuild [.int .i64 0, .str ⟨#[]⟩, .str ⟨#[]⟩, .int .i64 0, .int .i64 0, .str ⟨#[]⟩, .nils, .nils] [(0, 1, (.int .i64 11)), (7, 1, (s.τ 120))] s.H) s <| .mk fun s =>
  @sOp none (xStore 8 (s.τ 4) (s.τ 121) s.H) s <| .mk fun s =>
  Φ .ret s
def W69_b21 (P : Program) (Φ : Exit → St → Prop) (s : St) : Prop :=
  @sOp (some 124) (xMov (s.τ 7) s.H) s <| .mk fun s =>
  @sOp (some 125) (xBuild [.int .i64 0, .str ⟨#[]⟩, .str ⟨#[]⟩, .int .i64 0, .int .i64 0, .str ⟨#[]⟩, .nils, .nils] [(0, 1, (.int .i64 13)), (1, 1, (s.τ 124))] s.H) s <| .mk fun s =>
  @sOp none (xStore 8 (s.τ 4) (s.τ 125) s.H) s <| .mk fun s =>
  Φ .ret s
def W69_b22 (P : Program) (Φ : Exit → St → Prop) (s : St) : Prop :=
  @sOp (some 128) (xBuild [.int .i64 0, .str ⟨#[]⟩, .str ⟨#[]⟩, .int .i64 0, .int .i64 0, .str ⟨#[]⟩, .nils, .nils] [(0, 1, (.int .i64 0))] s.H) s <| .mk fun s =>
  @sOp none (xStore 8 (s.τ 4) (s.τ 128) s.H) s <| .mk fun s =>
  Φ .ret s
def W69_b23 (P : Program) (Φ : Exit → St → Prop) (s : St) : Prop :=
  @sOp (some 129) (xLoad 8 true (s.τ 8) s.H) s <| .mk fun s =>
  @sOp (some 130) (xLoad 8 true (s.τ 9) s.H) s <| .mk fun s =>
  @sOp (some 131) (xLit 8 2 [.int .i64 0, .str ⟨#[]⟩, .str ⟨#[]⟩, .int .i64 0, .int .i64 0, .str ⟨#[]⟩, .nils, .nils] [(0, (s.τ 129)), (1, (s.τ 130))] s.H) s <| .mk fun s =>
  @sOp (some 132) (xBuild [.int .i64 0, .str ⟨#[]⟩, .str ⟨#[]⟩, .int .i64 0, .int .i64 0, .str ⟨#[]⟩, .nils, .nils] [(0, 1, (.int .i64 12)), (7, 1, (s.τ 131))] s.H) s <| .mk fun s =>
  @sOp none (xStore 8 (s.τ 4) (s.τ 132) s.H) s <| .mk fun s =>
  Φ .ret s
def W69_b24 (P : Program) (Φ : Exit → St → Prop) (s : St) : Prop :=
  @sOp (some 127) (xBin .eql false (s.τ 36) (.int .i64 17) s.H) s <| .mk fun s =>
  @sOp (some 126) (xMov (s.τ 127) s.H) s <| .mk fun s =>
  @sIf (s.τ 126) ⟨W69_b22 P Φ s⟩ ⟨W69_b23 P Φ s⟩
def W69_b25 (P : Program) (Φ : Exit → St → Prop) (s : St) : Prop :=
  @sOp (some 123) (xBin .eql false (s.τ 36) (.int .i64 16) s.H) s <| .mk fun s =>
  @sOp (some 122) (xMov (s.τ 123) s.H) s <| .mk fun s =>
  @sIf (s.τ 122) ⟨W69_b21 P Φ s⟩ ⟨W69_b24 P Φ s⟩
def W69_k26 (P : Program) (Φ : Exit → St → Prop) (s : St) : Prop :=
  @sIf (s.τ 115) ⟨W69_b20 P Φ s⟩ ⟨W69_b25 P Φ s⟩
def W69_b27 (P : Program) (Φ : Exit → St → Prop) (s : St) : Prop :=
  @sOp (some 117) (xBin .eql false (s.τ 36) (.int .i64 15) s.H) s <| .mk fun s =>
  @sOp (some 115) (xMov (s.τ 117) s.H) s <| .mk fun s =>
  W69_k26 P Φ s
def W69_b28 (P : Program) (Φ : Exit → St → Prop) (s : St) : Prop :=
  @sOp (some 116) (xBin .eql false (s.τ 36) (.int .i64 14) s.H) s <| .mk fun s =>
  @sOp (some 115) (xMov (s.τ 116) s.H) s <| .mk fun s =>
  @sIf (s.τ 115) ⟨W69_k26 P Φ s⟩ ⟨W69_b27 P Φ s⟩
def W69_b29 (P : Program) (Φ : Exit → St → Prop) (s : St) : Prop :=
  @sOp (some 110) (xBin .eql false (s.τ 36) (.int .i64 13) s.H) s <| .mk fun s =>
  @sOp (some 109) (xMov (s.τ 110) s.H) s <| .mk fun s =>
  @sIf (s.τ 109) ⟨W69_b19 P Φ s⟩ ⟨W69_b28 P Φ s⟩
def W69_b30 (P : Program) (Φ : Exit → St → Prop) (s : St) : Prop :=
  @sOp (some 100) (xBin .eql false (s.τ 36) (.int .i64 12) s.H) s <| .mk fun s =>
  @sOp (some 99) (xMov (s.τ 100) s.H) s <| .mk fun s =>
  @sIf (s.τ 99) ⟨W69_b18 P Φ s⟩ ⟨W69_b29 P Φ s⟩
def W69_b31 (P : Program) (Φ : Exit → St → Prop) (s : St) : Prop :=
  @sOp (some 97) (xBin .eql false (s.τ 36) (.int .i64 11) s.H) s <| .mk fun s =>
  @sOp (some 96) (xMov (s.τ 97) s.H) s <| .mk fun s =>
  @sIf (s.τ 96) ⟨W69_b15 P Φ s⟩ ⟨W69_b30 P Φ s⟩
def W69_b32 (P : Program) (Φ : Exit → St → Prop) (s : St) : Prop :=
  @sOp (some 92) (xBin .eql false (s.τ 36) (.int .i64 10) s.H) s <| .mk fun s =>
  @sOp (some 91) (xMov (s.τ 92) s.H) s <| .mk fun s =>
  @sIf (s.τ 91) ⟨W69_b14 P Φ s⟩ ⟨W69_b31 P Φ s⟩
def W69_b33 (P : Program) (Φ : Exit → St → Prop) (s : St) : Prop :=
  @sOp (some 82) (xBin .eql false (s.τ 36) (.int .i64 9) s.H) s <| .mk fun s =>
  @sOp (some 81) (xMov (s.τ 82) s.H) s <| .mk fun s =>
  @sIf (s.τ 81) ⟨W69_b13 P Φ s⟩ ⟨W69_b32 P Φ s⟩
def W69_b34 (P : Program) (Φ : Exit → St → Prop) (s : St) : Prop :=
  @sOp (some 78) (xBin .eql false (s.τ 36) (.int .i64 8) s.H) s <| .mk fun s =>
  @sOp (some 77) (xMov (s.τ 78) s.H) s <| .mk fun s =>
  @sIf (s.τ 77) ⟨W69_b10 P Φ s⟩ ⟨W69_b33 P Φ s⟩
def W69_b35 (P : Program) (Φ : Exit → St → Prop) (s : St) : Prop :=
  @sOp (some 74) (xBin .eql false (s.τ 36) (.int .i64 7) s.H) s <| .mk fun s =>
  @sOp (some 73) (xMov (s.τ 74) s.H) s <| .mk fun s =>
  @sIf (s.τ 73) ⟨W69_b9 P Φ s⟩ ⟨W69_b34 P Φ s⟩
def W69_k36 (P : Program) (Φ : Exit → St → Prop) (s : St) : Prop :=
  @sIf (s.τ 66) ⟨W69_b8 P Φ s⟩ ⟨W69_b35 P Φ s⟩
def W69_b37 (P : Program) (Φ : Exit → St → Prop) (s : St) : Prop :=
  @sOp (some 68) (xBin .eql false (s.τ 36) (.int .i64 6) s.H) s <| .mk fun s =>
  @sOp (some 66) (xMov (s.τ 68) s.H) s <| .mk fun s =>
  W69_k36 P Φ s
def W69_b38 (P : Program) (Φ : Exit → St → Prop) (s : St) : Prop :=
  @sOp (some 67) (xBin .eql false (s.τ 36) (.int .i64 5) s.H) s <| .mk fun s =>
  @sOp (some 66) (xMov (s.τ 67) s.H) s <| .mk fun s =>
  @sIf (s.τ 66) ⟨W69_k36 P Φ s⟩ ⟨W69_b37 P Φ s⟩
def W69_b39 (P : Program) (Φ : Exit → St → Prop) (s : St) : Prop :=
  @sOp (some 59) (xBin .eql false (s.τ 36) (.int .i64 4) s.H) s <| .mk fun s =>
  @sOp (some 58) (xMov (s.τ 59) s.H) s <| .mk fun s =>
  @sIf (s.τ 58) ⟨W69_b7 P Φ s⟩ ⟨W69_b38 P Φ s⟩
def W69_k40 (P : Program) (Φ : Exit → St → Prop) (s : St) : Prop :=
  @sIf (s.τ 47) ⟨W69_b4 P Φ s⟩ ⟨W69_b39 P Φ s⟩
def W69_b41 (P : Program) (Φ : Exit → St → Prop) (s : St) : Prop :=
  @sOp (some 49) (xBin .eql false (s.τ 36) (.int .i64 3) s.H) s <| .mk fun s =>
  @sOp (some 47) (xMov (s.τ 49) s.H) s <| .mk fun s =>
  W69_k40 P Φ s
def W69_b42 (P : Program) (Φ : Exit → St → Prop) (s : St) : Prop :=
  @sOp (some 48) (xBin .eql false (s.τ 36) (.int .i64 2) s.H) s <| .mk fun s =>
  @sOp (some 47) (xMov (s.τ 48) s.H) s <| .mk fun s =>
  @sIf (s.τ 47) ⟨W69_k40 P Φ s⟩ ⟨W69_b41 P Φ s⟩
def W69_k43 (P : Program) (Φ : Exit → St → Prop) (s : St) : Prop :=
  @sIf (s.τ 37) ⟨W69_b2 P Φ s⟩ ⟨W69_b42 P Φ s⟩
def W69_b44 (P : Program) (Φ : Exit → St → Prop) (s : St) : Prop :=
  @sOp (some 39) (xBin .eql false (s.τ 36) (.int .i64 1) s.H) s <| .mk fun s =>
  @sOp (some 37) (xMov (s.τ 39) s.H) s <| .mk fun s =>
  W69_k43 P Φ s
def W69_c45 (P : Program) (Φ : Exit → St → Prop) (s : St) : Prop :=
  @sOp (some 38) (xBin .eql false (s.τ 36) (.int .i64 0) s.H) s <| .mk fun s =>
  @sOp (some 37) (xMov (s.τ 38) s.H) s <| .mk fun s =>
  @sIf (s.τ 37) ⟨W69_k43 P Φ s⟩ ⟨W69_b44 P Φ s⟩
def W69_c46 (P : Program) (Φ : Exit → St → Prop) (u0 : St) (u2 : St) (u3 : St) (u5 : St) (s : St) : Prop :=
  @sChk (compat (occ (u0.τ 2), []) ([8], [8])) <| .mk <|
  @sChk (compat ([30] ++ (occ (.func 87 []) ++ occL [(u2.τ 28), (.int .i64 0), (u2.τ 29)]), [30] ++ (occ (.func 87 []) ++ occL [(u2.τ 28), (.int .i64 0), (u2.τ 29)])) ([8], [8])) <| .mk <|
  @sChk (compat (occ (u3.τ 2), []) ([8], [8])) <| .mk <|
  @sChk (compat ([33] ++ (occ (.func 87 []) ++ occL [(u5.τ 31), (.int .i64 1), (u5.τ 32)]), [33] ++ (occ (.func 87 []) ++ occL [(u5.τ 31), (.int .i64 1), (u5.τ 32)])) ([8], [8])) <| .mk <|
  @sOp (some 8) (xAlloc 8 73 [.int .i64 0, .str ⟨#[]⟩, .str ⟨#[]⟩, .int .i64 0, .int .i64 0, .str ⟨#[]⟩, .nils, .nils] s.H) s <| .mk fun u7 =>
  @sChk (compat (occ (u0.τ 2), []) ([9], [9])) <| .mk <|
  @sChk (compat ([30] ++ (occ (.func 87 []) ++ occL [(u2.τ 28), (.int .i64 0), (u2.τ 29)]), [30] ++ (occ (.func 87 []) ++ occL [(u2.τ 28), (.int .i64 0), (u2.τ 29)])) ([9], [9])) <| .mk <|
  @sChk (compat (occ (u3.τ 2), []) ([9], [9])) <| .mk <|
  @sChk (compat ([33] ++ (occ (.func 87 []) ++ occL [(u5.τ 31), (.int .i64 1), (u5.τ 32)]), [33] ++ (occ (.func 87 []) ++ occL [(u5.τ 31), (.int .i64 1), (u5.τ 32)])) ([9], [9])) <| .mk <|
  @sChk (compat ([8], [8]) ([9], [9])) <| .mk <|
  @sOp (some 9) (xAlloc 9 73 [.int .i64 0, .str ⟨#[]⟩, .str ⟨#[]⟩, .int .i64 0, .int .i64 0, .str ⟨#[]⟩, .nils, .nils] u7.H) u7 <| .mk fun u8 =>
  @sOp none (xStore 8 (u8.τ 8) (u8.τ 30) u8.H) u8 <| .mk fun u9 =>
  @sOp none (xStore 8 (u9.τ 9) (u9.τ 33) u9.H) u9 <| .mk fun s =>
  @sOp (some 34) (xFld 0 (s.τ 2) s.H) s <| .mk fun s =>
  @sOp (some 35) (xLoad 1 false (s.τ 34) s.H) s <| .mk fun s =>
  @sCall P (.func 67 []) [(s.τ 35), (.int .i64 20)] (some 36) s ⟨W69_c45 P Φ⟩
def W69_c47 (P : Program) (Φ : Exit → St → Prop) (u0 : St) (u2 : St) (s : St) : Prop :=
  @sChk (compat ([30] ++ (occ (.func 87 []) ++ occL [(u2.τ 28), (.int .i64 0), (u2.τ 29)]), [30] ++ (occ (.func 87 []) ++ occL [(u2.τ 28), (.int .i64 0), (u2.τ 29)])) (occ (s.τ 2), [])) <| .mk <|
  @sOp (some 31) (xLoad 5 true (s.τ 2) s.H) s <| .mk fun u4 =>
  @sOp (some 32) (xMov (u4.τ 1) u4.H) u4 <| .mk fun u5 =>
  @sCall0 P (.func 87 []) [(u5.τ 31), (.int .i64 1), (u5.τ 32)] (some 33) u5 ⟨W69_c46 P Φ u0 u2 s u5⟩
def W69_c48 (P : Program) (Φ : Exit → St → Prop) (s : St) : Prop :=
  @sOp (some 26) (xIx 1 (s.τ 22) (s.τ 25) s.H) s <| .mk fun u17 =>
  @sOp (some 27) (xLoad 1 false (u17.τ 26) u17.H) u17 <| .mk fun u18 =>
  @sOp (some 5) (xMov (u18.τ 15) u18.H) u18 <| .mk fun u19 =>
  @sOp (some 6) (xMov (u19.τ 21) u19.H) u19 <| .mk fun u20 =>
  @sOp (some 7) (xMov (u20.τ 27) u20.H) u20 <| .mk fun s =>
  @sOp (some 28) (xLoad 5 true (s.τ 2) s.H) s <| .mk fun u1 =>
  @sOp (some 29) (xMov (u1.τ 1) u1.H) u1 <| .mk fun u2 =>
  @sCall0 P (.func 87 []) [(u2.τ 28), (.int .i64 0), (u2.τ 29)] (some 30) u2 ⟨W69_c47 P Φ s u2⟩
def W69_c49 (P : Program) (Φ : Exit → St → Prop) (u0 : St) (u3 : St) (u4 : St) (u5 : St) (u6 : St) (u9 : St) (u10 : St) (u11 : St) (u12 : St) (s : St) : Prop :=
  @sChk (compat ([10] ++ (occ (.func 66 []) ++ occL []), [10] ++ (occ (.func 66 []) ++ occL [])) (occ (s.τ 2), [])) <| .mk <|
  @sChk (compat ([13] ++ (occ (.func 67 []) ++ occL [(u3.τ 12), (.int .i64 3)]), [13] ++ (occ (.func 67 []) ++ occL [(u3.τ 12), (.int .i64 3)])) (occ (s.τ 2), [])) <| .mk <|
  @sChk (compat ([16] ++ (occ (.func 65 []) ++ occL []), [16] ++ (occ (.func 65 []) ++ occL [])) (occ (s.τ 2), [])) <| .mk <|
  @sChk (compat ([19] ++ (occ (.func 67 []) ++ occL [(u9.τ 18), (.int .i64 2)]), [19] ++ (occ (.func 67 []) ++ occL [(u9.τ 18), (.int .i64 2)])) (occ (s.τ 2), [])) <| .mk <|
  @sChk (compat ([22] ++ (occ (.func 68 []) ++ occL []), [22] ++ (occ (.func 68 []) ++ occL [])) (occ (s.τ 2), [])) <| .mk <|
  @sOp (some 23) (xFld 1 (s.τ 2) s.H) s <| .mk fun u14 =>
  @sChk (compat ([10] ++ (occ (.func 66 []) ++ occL []), [10] ++ (occ (.func 66 []) ++ occL [])) (occ (u14.τ 23), [])) <| .mk <|
  @sChk (compat ([13] ++ (occ (.func 67 []) ++ occL [(u3.τ 12), (.int .i64 3)]), [13] ++ (occ (.func 67 []) ++ occL [(u3.τ 12), (.int .i64 3)])) (occ (u14.τ 23), [])) <| .mk <|
  @sChk (compat ([16] ++ (occ (.func 65 []) ++ occL []), [16] ++ (occ (.func 65 []) ++ occL [])) (occ (u14.τ 23), [])) <| .mk <|
  @sChk (compat ([19] ++ (occ (.func 67 []) ++ occL [(u9.τ 18), (.int .i64 2)]), [19] ++ (occ (.func 67 []) ++ occL [(u9.τ 18), (.int .i64 2)])) (occ (u14.τ 23), [])) <| .mk <|
  @sChk (compat ([22] ++ (occ (.func 68 []) ++ occL []), [22] ++ (occ (.func 68 []) ++ occL [])) (occ (u14.τ 23), [])) <| .mk <|
  @sOp (some 24) (xLoad 1 false (u14.τ 23) u14.H) u14 <| .mk fun u15 =>
  @sChk (compat (occ (u4.τ 10), []) ([25] ++ (occ (.func 67 []) ++ occL [(u15.τ 24), (.int .i64 5)]), [25] ++ (occ (.func 67 []) ++ occL [(u15.τ 24), (.int .i64 5)]))) <| .mk <|
  @sChk (compat (occ (u5.τ 14), []) ([25] ++ (occ (.func 67 []) ++ occL [(u15.τ 24), (.int .i64 5)]), [25] ++ (occ (.func 67 []) ++ occL [(u15.τ 24), (.int .i64 5)]))) <| .mk <|
  @sChk (compat (occ (u10.τ 16), []) ([25] ++ (occ (.func 67 []) ++ occL [(u15.τ 24), (.int .i64 5)]), [25] ++ (occ (.func 67 []) ++ occL [(u15.τ 24), (.int .i64 5)]))) <| .mk <|
  @sChk (compat (occ (u11.τ 20), []) ([25] ++ (occ (.func 67 []) ++ occL [(u15.τ 24), (.int .i64 5)]), [25] ++ (occ (.func 67 []) ++ occL [(u15.τ 24), (.int .i64 5)]))) <| .mk <|
  @sCall0 P (.func 67 []) [(u15.τ 24), (.int .i64 5)] (some 25) u15 ⟨W69_c48 P Φ⟩
def W69_c50 (P : Program) (Φ : Exit → St → Prop) (u0 : St) (u3 : St) (u4 : St) (u5 : St) (u6 : St) (u9 : St) (s : St) : Prop :=
  @sOp (some 20) (xIx 1 (s.τ 16) (s.τ 19) s.H) s <| .mk fun u11 =>
  @sOp (some 21) (xLoad 1 false (u11.τ 20) u11.H) u11 <| .mk fun u12 =>
  @sChk (compat (occ (u4.τ 10), []) ([22] ++ (occ (.func 68 []) ++ occL []), [22] ++ (occ (.func 68 []) ++ occL []))) <| .mk <|
  @sChk (compat (occ (u5.τ 14), []) ([22] ++ (occ (.func 68 []) ++ occL []), [22] ++ (occ (.func 68 []) ++ occL []))) <| .mk <|
  @sChk (compat (occ (s.τ 16), []) ([22] ++ (occ (.func 68 []) ++ occL []), [22] ++ (occ (.func 68 []) ++ occL []))) <| .mk <|
  @sChk (compat (occ (u11.τ 20), []) ([22] ++ (occ (.func 68 []) ++ occL []), [22] ++ (occ (.func 68 []) ++ occL []))) <| .mk <|
  @sCall0 P (.func 68 []) [] (some 22) u12 ⟨W69_c49 P Φ u0 u3 u4 u5 u6 u9 s u11 u12⟩
def W69_c51 (P : Program) (Φ : Exit → St → Prop) (u0 : St) (u3 : St) (u4 : St) (u5 : St) (u6 : St) (s : St) : Prop :=
  @sChk (compat ([10] ++ (occ (.func 66 []) ++ occL []), [10] ++ (occ (.func 66 []) ++ occL [])) (occ (s.τ 2), [])) <| .mk <|
  @sChk (compat ([13] ++ (occ (.func 67 []) ++ occL [(u3.τ 12), (.int .i64 3)]), [13] ++ (occ (.func 67 []) ++ occL [(u3.τ 12), (.int .i64 3)])) (occ (s.τ 2), [])) <| .mk <|
  @sChk (compat ([16] ++ (occ (.func 65 []) ++ occL []), [16] ++ (occ (.func 65 []) ++ occL [])) (occ (s.τ 2), [])) <| .mk <|
  @sOp (some 17) (xFld 1 (s.τ 2) s.H) s <| .mk fun u8 =>
  @sChk (compat ([10] ++ (occ (.func 66 []) ++ occL []), [10] ++ (occ (.func 66 []) ++ occL [])) (occ (u8.τ 17), [])) <| .mk <|
  @sChk (compat ([13] ++ (occ (.func 67 []) ++ occL [(u3.τ 12), (.int .i64 3)]), [13] ++ (occ (.func 67 []) ++ occL [(u3.τ 12), (.int .i64 3)])) (occ (u8.τ 17), [])) <| .mk <|
  @sChk (compat ([16] ++ (occ (.func 65 []) ++ occL []), [16] ++ (occ (.func 65 []) ++ occL [])) (occ (u8.τ 17), [])) <| .mk <|
  @sOp (some 18) (xLoad 1 false (u8.τ 17) u8.H) u8 <| .mk fun u9 =>
  @sChk (compat (occ (u4.τ 10), []) ([19] ++ (occ (.func 67 []) ++ occL [(u9.τ 18), (.int .i64 2)]), [19] ++ (occ (.func 67 []) ++ occL [(u9.τ 18), (.int .i64 2)]))) <| .mk <|
  @sChk (compat (occ (u5.τ 14), []) ([19] ++ (occ (.func 67 []) ++ occL [(u9.τ 18), (.int .i64 2)]), [19] ++ (occ (.func 67 []) ++ occL [(u9.τ 18), (.int .i64 2)]))) <| .mk <|
  @sCall0 P (.func 67 []) [(u9.τ 18), (.int .i64 2)] (some 19) u9 ⟨W69_c50 P Φ u0 u3 u4 u5 u6 u9⟩
def W69_c52 (P : Program) (Φ : Exit → St → Prop) (u0 : St) (u3 : St) (s : St) : Prop :=
  @sOp (some 14) (xIx 1 (s.τ 10) (s.τ 13) s.H) s <| .mk fun u5 =>
  @sOp (some 15) (xLoad 1 false (u5.τ 14) u5.H) u5 <| .mk fun u6 =>
  @sChk (compat (occ (s.τ 10), []) ([16] ++ (occ (.func 65 []) ++ occL []), [16] ++ (occ (.func 65 []) ++ occL []))) <| .mk <|
  @sChk (compat (occ (u5.τ 14), []) ([16] ++ (occ (.func 65 []) ++ occL []), [16] ++ (occ (.func 65 []) ++ occL []))) <| .mk <|
  @sCall0 P (.func 65 []) [] (some 16) u6 ⟨W69_c51 P Φ u0 u3 s u5 u6⟩
def W69_c53 (P : Program) (Φ : Exit → St → Prop) (u0 : St) (s : St) : Prop :=
  @sChk (compat ([10] ++ (occ (.func 66 []) ++ occL []), [10] ++ (occ (.func 66 []) ++ occL [])) (occ (s.τ 2), [])) <| .mk <|
  @sOp (some 11) (xFld 1 (s.τ 2) s.H) s <| .mk fun u2 =>
  @sChk (compat ([10] ++ (occ (.func 66 []) ++ occL []), [10] ++ (occ (.func 66 []) ++ occL [])) (occ (u2.τ 11), [])) <| .mk <|
  @sOp (some 12) (xLoad 1 false (u2.τ 11) u2.H) u2 <| .mk fun u3 =>
  @sCall0 P (.func 67 []) [(u3.τ 12), (.int .i64 3)] (some 13) u3 ⟨W69_c52 P Φ u0 u3⟩
def W69 (P : Program) (Φ : Exit → St → Prop) (s : St) : Prop :=
  @sOp (some 2) (xBox 2 25 (s.τ 0) s.H) s <| .mk fun s =>
  @sOp (some 4) (xAlloc 4 73 [.int .i64 0, .str ⟨#[]⟩, .str ⟨#[]⟩, .int .i64 0, .int .i64 0, .str ⟨#[]⟩, .nils, .nils] s.H) s <| .mk fun s =>
  @sCall0 P (.func 66 []) [] (some 10) s ⟨W69_c53 P Φ s⟩
theorem W69_rs (τ : Nat → AV) (H : Heap) : resV Try.prog τ H [.cell 4 73] = rdV H 8 true (τ 4) := by kernel_rfl
theorem W69_eq (Φ : Exit → St → Prop) (s : St) : awp Try.prog (Try.f69.body.getD .skip) Φ s = W69 Try.prog Φ s := by kernel_rfl

end Go.Proofs.Ytkagfenchknjjaa
