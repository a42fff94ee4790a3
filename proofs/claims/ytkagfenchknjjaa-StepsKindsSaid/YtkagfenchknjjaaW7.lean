import Derived.Test.YtkagfenchknjjaaAmSimp
import Derived.Test.YtkagfenchknjjaaProg
import Derived.KernelRfl
set_option linter.unusedVariables false
namespace Go.Proofs.Ytkagfenchknjjaa
open Go Go.Am
-- 55 "penance/penanceref2.Right"
def W55_b1 (P : Program) (Φ : Exit → St → Prop) (s : St) : Prop :=
  @sOp (some 4) (xMov (.bool false) s.H) s <| .mk fun s =>
  Φ .ret s
def W55_k2 (P : Program) (Φ : Exit → St → Prop) (s : St) : Prop :=
  @sOp (some 4) (xMov (.bool true) s.H) s <| .mk fun s =>
  Φ .ret s
def W55_b3 (P : Program) (Φ : Exit → St → Prop) (L0 : St → Prop) (s : St) : Prop :=
  @sOp (some 4) (xMov (.bool false) s.H) s <| .mk fun s =>
  Φ .ret s
def W55_b4 (P : Program) (Φ : Exit → St → Prop) (L0 : St → Prop) (s : St) : Prop :=
  @sOp (some 74) (xMov (s.τ 6) s.H) s <| .mk fun s =>
  @sOp (some 75) (xBin .add false (s.τ 74) (.int .i64 1) s.H) s <| .mk fun s =>
  @sOp (some 6) (xMov (s.τ 75) s.H) s <| .mk fun s =>
  L0 s
def W55_c5 (P : Program) (Φ : Exit → St → Prop) (L0 : St → Prop) (s : St) : Prop :=
  @sOp (some 83) (xNot (s.τ 82) s.H) s <| .mk fun s =>
  @sIf (s.τ 83) ⟨W55_b3 P Φ L0 s⟩ ⟨W55_b4 P Φ L0 s⟩
def W55_b6 (P : Program) (Φ : Exit → St → Prop) (L0 : St → Prop) (s : St) : Prop :=
  @sOp (some 76) (xFld 3 (s.τ 2) s.H) s <| .mk fun s =>
  @sOp (some 77) (xLoad 1 false (s.τ 76) s.H) s <| .mk fun s =>
  @sOp (some 78) (xMov (s.τ 6) s.H) s <| .mk fun s =>
  @sOp (some 79) (xIx 4 (s.τ 77) (s.τ 78) s.H) s <| .mk fun s =>
  @sOp (some 80) (xLoad 4 true (s.τ 79) s.H) s <| .mk fun s =>
  @sOp (some 81) (xMov (s.τ 1) s.H) s <| .mk fun s =>
  @sCall P (.func 55 []) [(s.τ 80), (s.τ 81)] (some 82) s ⟨W55_c5 P Φ L0⟩
def W55_l7 (P : Program) (Φ : Exit → St → Prop) (L0 : St → Prop) (s : St) : Prop :=
  @sOp (some 71) (xMov (s.τ 6) s.H) s <| .mk fun s =>
  @sOp (some 72) (xMov (s.τ 5) s.H) s <| .mk fun s =>
  @sOp (some 73) (xBin .lss false (s.τ 71) (s.τ 72) s.H) s <| .mk fun s =>
  @sIf (s.τ 73) ⟨W55_b6 P Φ L0 s⟩ ⟨W55_k2 P Φ s⟩
def W55_b8 (P : Program) (Φ : Exit → St → Prop) (s : St) : Prop :=
  @sOp (some 6) (xMov (.int .i64 0) s.H) s <| .mk fun s =>
  @sLoop s ⟨fun L0 s => W55_l7 P Φ L0 s⟩
def W55_c9 (P : Program) (Φ : Exit → St → Prop) (s : St) : Prop :=
  @sOp (some 70) (xPick (s.τ 64) (.bool true) (s.τ 69) s.H) s <| .mk fun s =>
  @sIf (s.τ 70) ⟨W55_b1 P Φ s⟩ ⟨W55_b8 P Φ s⟩
def W55_c10 (P : Program) (Φ : Exit → St → Prop) (s : St) : Prop :=
  @sGrd (guardOf (s.τ 64) false) (some 69) s ⟨fun s K => @sOp (some 69) (xBin .neq false (s.τ 67) (s.τ 68) s.H) s ⟨K⟩⟩ ⟨W55_c9 P Φ⟩
def W55_c11 (P : Program) (Φ : Exit → St → Prop) (s : St) : Prop :=
  @sGrd (guardOf (s.τ 64) false) (some 68) s ⟨fun s K => @sOp (some 68) (xMov (s.τ 5) s.H) s ⟨K⟩⟩ ⟨W55_c10 P Φ⟩
def W55_c12 (P : Program) (Φ : Exit → St → Prop) (s : St) : Prop :=
  @sGrd (guardOf (s.τ 64) false) (some 67) s ⟨fun s K => @sOp (some 67) (xLen (s.τ 66) s.H) s ⟨K⟩⟩ ⟨W55_c11 P Φ⟩
def W55_c13 (P : Program) (Φ : Exit → St → Prop) (s : St) : Prop :=
  @sGrd (guardOf (s.τ 64) false) (some 66) s ⟨fun s K => @sOp (some 66) (xLoad 1 false (s.τ 65) s.H) s ⟨K⟩⟩ ⟨W55_c12 P Φ⟩
def W55_k14 (P : Program) (Φ : Exit → St → Prop) (s : St) : Prop :=
  @sOp (some 61) (xFld 1 (s.τ 2) s.H) s <| .mk fun s =>
  @sOp (some 62) (xLoad 1 false (s.τ 61) s.H) s <| .mk fun s =>
  @sOp (some 63) (xBin .neq false (s.τ 62) (.int .i64 0) s.H) s <| .mk fun s =>
  @sOp (some 64) (xMov (s.τ 63) s.H) s <| .mk fun s =>
  @sGrd (guardOf (s.τ 64) false) (some 65) s ⟨fun s K => @sOp (some 65) (xFld 3 (s.τ 2) s.H) s ⟨K⟩⟩ ⟨W55_c13 P Φ⟩
def W55_b15 (P : Program) (Φ : Exit → St → Prop) (s : St) : Prop :=
  @sOp (some 4) (xMov (.bool false) s.H) s <| .mk fun s =>
  Φ .ret s
def W55_c16 (P : Program) (Φ : Exit → St → Prop) (s : St) : Prop :=
  @sOp (some 23) (xPick (s.τ 18) (s.τ 22) (.bool false) s.H) s <| .mk fun s =>
  @sOp (some 4) (xMov (s.τ 23) s.H) s <| .mk fun s =>
  Φ .ret s
def W55_c17 (P : Program) (Φ : Exit → St → Prop) (s : St) : Prop :=
  @sGrd (guardOf (s.τ 18) true) (some 22) s ⟨fun s K => @sOp (some 22) (xBin .eql false (s.τ 21) (.int .i64 0) s.H) s ⟨K⟩⟩ ⟨W55_c16 P Φ⟩
def W55_c18 (P : Program) (Φ : Exit → St → Prop) (s : St) : Prop :=
  @sGrd (guardOf (s.τ 18) true) (some 21) s ⟨fun s K => @sOp (some 21) (xLen (s.τ 20) s.H) s ⟨K⟩⟩ ⟨W55_c17 P Φ⟩
def W55_c19 (P : Program) (Φ : Exit → St → Prop) (s : St) : Prop :=
  @sGrd (guardOf (s.τ 18) true) (some 20) s ⟨fun s K => @sOp (some 20) (xLoad 1 false (s.τ 19) s.H) s ⟨K⟩⟩ ⟨W55_c18 P Φ⟩
def W55_b20 (P : Program) (Φ : Exit → St → Prop) (s : St) : Prop :=
  @sOp (some 15) (xFld 1 (s.τ 2) s.H) s <| .mk fun s =>
  @sOp (some 16) (xLoad 1 false (s.τ 15) s.H) s <| .mk fun s =>
  @sOp (some 17) (xBin .geq false (s.τ 16) (.int .i64 0) s.H) s <| .mk fun s =>
  @sOp (some 18) (xMov (s.τ 17) s.H) s <| .mk fun s =>
  @sGrd (guardOf (s.τ 18) true) (some 19) s ⟨fun s K => @sOp (some 19) (xFld 3 (s.τ 2) s.H) s ⟨K⟩⟩ ⟨W55_c19 P Φ⟩
def W55_c21 (P : Program) (Φ : Exit → St → Prop) (s : St) : Prop :=
  @sOp (some 42) (xPick (s.τ 37) (s.τ 41) (.bool false) s.H) s <| .mk fun s =>
  @sOp (some 4) (xMov (s.τ 42) s.H) s <| .mk fun s =>
  Φ .ret s
def W55_c22 (P : Program) (Φ : Exit → St → Prop) (s : St) : Prop :=
  @sGrd (guardOf (s.τ 37) true) (some 41) s ⟨fun s K => @sOp (some 41) (xBin .eql false (s.τ 40) (.int .i64 0) s.H) s ⟨K⟩⟩ ⟨W55_c21 P Φ⟩
def W55_c23 (P : Program) (Φ : Exit → St → Prop) (s : St) : Prop :=
  @sGrd (guardOf (s.τ 37) true) (some 40) s ⟨fun s K => @sOp (some 40) (xLen (s.τ 39) s.H) s ⟨K⟩⟩ ⟨W55_c22 P Φ⟩
def W55_c24 (P : Program) (Φ : Exit → St → Prop) (s : St) : Prop :=
  @sGrd (guardOf (s.τ 37) true) (some 39) s ⟨fun s K => @sOp (some 39) (xLoad 1 false (s.τ 38) s.H) s ⟨K⟩⟩ ⟨W55_c23 P Φ⟩
def W55_c25 (P : Program) (Φ : Exit → St → Prop) (s : St) : Prop :=
  @sOp (some 36) (xPick (s.τ 31) (s.τ 35) (.bool false) s.H) s <| .mk fun s =>
  @sOp (some 37) (xMov (s.τ 36) s.H) s <| .mk fun s =>
  @sGrd (guardOf (s.τ 37) true) (some 38) s ⟨fun s K => @sOp (some 38) (xFld 3 (s.τ 2) s.H) s ⟨K⟩⟩ ⟨W55_c24 P Φ⟩
def W55_c26 (P : Program) (Φ : Exit → St → Prop) (s : St) : Prop :=
  @sGrd (guardOf (s.τ 31) true) (some 35) s ⟨fun s K => @sOp (some 35) (xBin .lss false (s.τ 33) (s.τ 34) s.H) s ⟨K⟩⟩ ⟨W55_c25 P Φ⟩
def W55_c27 (P : Program) (Φ : Exit → St → Prop) (s : St) : Prop :=
  @sGrd (guardOf (s.τ 31) true) (some 34) s ⟨fun s K => @sOp (some 34) (xMov (s.τ 1) s.H) s ⟨K⟩⟩ ⟨W55_c26 P Φ⟩
def W55_c28 (P : Program) (Φ : Exit → St → Prop) (s : St) : Prop :=
  @sGrd (guardOf (s.τ 31) true) (some 33) s ⟨fun s K => @sOp (some 33) (xLoad 1 false (s.τ 32) s.H) s ⟨K⟩⟩ ⟨W55_c27 P Φ⟩
def W55_b29 (P : Program) (Φ : Exit → St → Prop) (s : St) : Prop :=
  @sOp (some 28) (xFld 1 (s.τ 2) s.H) s <| .mk fun s =>
  @sOp (some 29) (xLoad 1 false (s.τ 28) s.H) s <| .mk fun s =>
  @sOp (some 30) (xBin .geq false (s.τ 29) (.int .i64 0) s.H) s <| .mk fun s =>
  @sOp (some 31) (xMov (s.τ 30) s.H) s <| .mk fun s =>
  @sGrd (guardOf (s.τ 31) true) (some 32) s ⟨fun s K => @sOp (some 32) (xFld 1 (s.τ 2) s.H) s ⟨K⟩⟩ ⟨W55_c28 P Φ⟩
def W55_b30 (P : Program) (Φ : Exit → St → Prop) (s : St) : Prop :=
  @sOp (some 5) (xMov (.int .i64 1) s.H) s <| .mk fun s =>
  W55_k14 P Φ s
def W55_b31 (P : Program) (Φ : Exit → St → Prop) (s : St) : Prop :=
  @sOp (some 4) (xMov (.bool false) s.H) s <| .mk fun s =>
  Φ .ret s
def W55_c32 (P : Program) (Φ : Exit → St → Prop) (s : St) : Prop :=
  @sOp (some 60) (xPick (s.τ 56) (.bool true) (s.τ 59) s.H) s <| .mk fun s =>
  @sOp (some 52) (xMov (s.τ 60) s.H) s <| .mk fun s =>
  @sIf (s.τ 52) ⟨W55_b31 P Φ s⟩ ⟨W55_k14 P Φ s⟩
def W55_c33 (P : Program) (Φ : Exit → St → Prop) (s : St) : Prop :=
  @sGrd (guardOf (s.τ 56) false) (some 59) s ⟨fun s K => @sOp (some 59) (xBin .gtr false (s.τ 58) (.int .i64 17) s.H) s ⟨K⟩⟩ ⟨W55_c32 P Φ⟩
def W55_c34 (P : Program) (Φ : Exit → St → Prop) (s : St) : Prop :=
  @sGrd (guardOf (s.τ 56) false) (some 58) s ⟨fun s K => @sOp (some 58) (xLoad 1 false (s.τ 57) s.H) s ⟨K⟩⟩ ⟨W55_c33 P Φ⟩
def W55_b35 (P : Program) (Φ : Exit → St → Prop) (s : St) : Prop :=
  @sOp (some 53) (xFld 0 (s.τ 2) s.H) s <| .mk fun s =>
  @sOp (some 54) (xLoad 1 false (s.τ 53) s.H) s <| .mk fun s =>
  @sOp (some 55) (xBin .lss false (s.τ 54) (.int .i64 5) s.H) s <| .mk fun s =>
  @sOp (some 56) (xMov (s.τ 55) s.H) s <| .mk fun s =>
  @sGrd (guardOf (s.τ 56) false) (some 57) s ⟨fun s K => @sOp (some 57) (xFld 0 (s.τ 2) s.H) s ⟨K⟩⟩ ⟨W55_c34 P Φ⟩
def W55_c36 (P : Program) (Φ : Exit → St → Prop) (s : St) : Prop :=
  @sOp (some 51) (xPick (s.τ 47) (.bool true) (s.τ 50) s.H) s <| .mk fun s =>
  @sOp (some 43) (xMov (s.τ 51) s.H) s <| .mk fun s =>
  @sIf (s.τ 43) ⟨W55_b30 P Φ s⟩ ⟨W55_b35 P Φ s⟩
def W55_c37 (P : Program) (Φ : Exit → St → Prop) (s : St) : Prop :=
  @sGrd (guardOf (s.τ 47) false) (some 50) s ⟨fun s K => @sOp (some 50) (xBin .eql false (s.τ 49) (.int .i64 4) s.H) s ⟨K⟩⟩ ⟨W55_c36 P Φ⟩
def W55_c38 (P : Program) (Φ : Exit → St → Prop) (s : St) : Prop :=
  @sGrd (guardOf (s.τ 47) false) (some 49) s ⟨fun s K => @sOp (some 49) (xLoad 1 false (s.τ 48) s.H) s ⟨K⟩⟩ ⟨W55_c37 P Φ⟩
def W55_b39 (P : Program) (Φ : Exit → St → Prop) (s : St) : Prop :=
  @sOp (some 44) (xFld 0 (s.τ 2) s.H) s <| .mk fun s =>
  @sOp (some 45) (xLoad 1 false (s.τ 44) s.H) s <| .mk fun s =>
  @sOp (some 46) (xBin .eql false (s.τ 45) (.int .i64 3) s.H) s <| .mk fun s =>
  @sOp (some 47) (xMov (s.τ 46) s.H) s <| .mk fun s =>
  @sGrd (guardOf (s.τ 47) false) (some 48) s ⟨fun s K => @sOp (some 48) (xFld 0 (s.τ 2) s.H) s ⟨K⟩⟩ ⟨W55_c38 P Φ⟩
def W55_b40 (P : Program) (Φ : Exit → St → Prop) (s : St) : Prop :=
  @sOp (some 25) (xFld 0 (s.τ 2) s.H) s <| .mk fun s =>
  @sOp (some 26) (xLoad 1 false (s.τ 25) s.H) s <| .mk fun s =>
  @sOp (some 27) (xBin .eql false (s.τ 26) (.int .i64 2) s.H) s <| .mk fun s =>
  @sOp (some 24) (xMov (s.τ 27) s.H) s <| .mk fun s =>
  @sIf (s.τ 24) ⟨W55_b29 P Φ s⟩ ⟨W55_b39 P Φ s⟩
def W55_b41 (P : Program) (Φ : Exit → St → Prop) (s : St) : Prop :=
  @sOp (some 12) (xFld 0 (s.τ 2) s.H) s <| .mk fun s =>
  @sOp (some 13) (xLoad 1 false (s.τ 12) s.H) s <| .mk fun s =>
  @sOp (some 14) (xBin .eql false (s.τ 13) (.int .i64 1) s.H) s <| .mk fun s =>
  @sOp (some 11) (xMov (s.τ 14) s.H) s <| .mk fun s =>
  @sIf (s.τ 11) ⟨W55_b20 P Φ s⟩ ⟨W55_b40 P Φ s⟩
def W55 (P : Program) (Φ : Exit → St → Prop) (s : St) : Prop :=
  @sOp (some 2) (xBox 2 31 (s.τ 0) s.H) s <| .mk fun s =>
  @sOp (some 4) (xMov (.bool false) s.H) s <| .mk fun s =>
  @sOp (some 5) (xMov (.int .i64 2) s.H) s <| .mk fun s =>
  @sOp (some 8) (xFld 2 (s.τ 2) s.H) s <| .mk fun s =>
  @sOp (some 9) (xLoad 1 false (s.τ 8) s.H) s <| .mk fun s =>
  @sOp (some 10) (xBin .neq false (s.τ 9) (.str ⟨#[]⟩) s.H) s <| .mk fun s =>
  @sOp (some 7) (xMov (s.τ 10) s.H) s <| .mk fun s =>
  @sIf (s.τ 7) ⟨W55_b15 P Φ s⟩ ⟨W55_b41 P Φ s⟩
theorem W55_rs (τ : Nat → AV) (H : Heap) : resV Try.prog τ H [.tmp 4] = some (τ 4) := by kernel_rfl
theorem W55_eq (Φ : Exit → St → Prop) (s : St) : awp Try.prog (Try.f55.body.getD .skip) Φ s = W55 Try.prog Φ s := by kernel_rfl

-- 56 "penance/penanceref2.Same"
def W56_b1 (P : Program) (Φ : Exit → St → Prop) (s : St) : Prop :=
  @sOp (some 4) (xMov (.bool false) s.H) s <| .mk fun s =>
  Φ .ret s
def W56_k2 (P : Program) (Φ : Exit → St → Prop) (s : St) : Prop :=
  @sOp (some 4) (xMov (.bool true) s.H) s <| .mk fun s =>
  Φ .ret s
def W56_b3 (P : Program) (Φ : Exit → St → Prop) (L0 : St → Prop) (s : St) : Prop :=
  @sOp (some 4) (xMov (.bool false) s.H) s <| .mk fun s =>
  Φ .ret s
def W56_b4 (P : Program) (Φ : Exit → St → Prop) (L0 : St → Prop) (s : St) : Prop :=
  @sOp (some 39) (xMov (s.τ 5) s.H) s <| .mk fun s =>
  @sOp (some 40) (xBin .add false (s.τ 39) (.int .i64 1) s.H) s <| .mk fun s =>
  @sOp (some 5) (xMov (s.τ 40) s.H) s <| .mk fun s =>
  L0 s
def W56_c5 (P : Program) (Φ : Exit → St → Prop) (L0 : St → Prop) (s : St) : Prop :=
  @sOp (some 52) (xNot (s.τ 51) s.H) s <| .mk fun s =>
  @sIf (s.τ 52) ⟨W56_b3 P Φ L0 s⟩ ⟨W56_b4 P Φ L0 s⟩
def W56_b6 (P : Program) (Φ : Exit → St → Prop) (L0 : St → Prop) (s : St) : Prop :=
  @sOp (some 41) (xFld 3 (s.τ 2) s.H) s <| .mk fun s =>
  @sOp (some 42) (xLoad 1 false (s.τ 41) s.H) s <| .mk fun s =>
  @sOp (some 43) (xMov (s.τ 5) s.H) s <| .mk fun s =>
  @sOp (some 44) (xIx 4 (s.τ 42) (s.τ 43) s.H) s <| .mk fun s =>
  @sOp (some 45) (xLoad 4 true (s.τ 44) s.H) s <| .mk fun s =>
  @sOp (some 46) (xFld 3 (s.τ 3) s.H) s <| .mk fun s =>
  @sOp (some 47) (xLoad 1 false (s.τ 46) s.H) s <| .mk fun s =>
  @sOp (some 48) (xMov (s.τ 5) s.H) s <| .mk fun s =>
  @sOp (some 49) (xIx 4 (s.τ 47) (s.τ 48) s.H) s <| .mk fun s =>
  @sOp (some 50) (xLoad 4 true (s.τ 49) s.H) s <| .mk fun s =>
  @sCall0 P (.func 56 []) [(s.τ 45), (s.τ 50)] (some 51) s ⟨W56_c5 P Φ L0⟩
def W56_l7 (P : Program) (Φ : Exit → St → Prop) (L0 : St → Prop) (s : St) : Prop :=
  @sOp (some 34) (xMov (s.τ 5) s.H) s <| .mk fun s =>
  @sOp (some 35) (xFld 3 (s.τ 2) s.H) s <| .mk fun s =>
  @sOp (some 36) (xLoad 1 false (s.τ 35) s.H) s <| .mk fun s =>
  @sOp (some 37) (xLen (s.τ 36) s.H) s <| .mk fun s =>
  @sOp (some 38) (xBin .lss false (s.τ 34) (s.τ 37) s.H) s <| .mk fun s =>
  @sIf (s.τ 38) ⟨W56_b6 P Φ L0 s⟩ ⟨W56_k2 P Φ s⟩
def W56_b8 (P : Program) (Φ : Exit → St → Prop) (s : St) : Prop :=
  @sOp (some 5) (xMov (.int .i64 0) s.H) s <| .mk fun s =>
  @sLoop s ⟨fun L0 s => W56_l7 P Φ L0 s⟩
def W56_c9 (P : Program) (Φ : Exit → St → Prop) (s : St) : Prop :=
  @sOp (some 33) (xPick (s.τ 25) (.bool true) (s.τ 32) s.H) s <| .mk fun s =>
  @sIf (s.τ 33) ⟨W56_b1 P Φ s⟩ ⟨W56_b8 P Φ s⟩
def W56_c10 (P : Program) (Φ : Exit → St → Prop) (s : St) : Prop :=
  @sGrd (guardOf (s.τ 25) false) (some 32) s ⟨fun s K => @sOp (some 32) (xBin .neq false (s.τ 28) (s.τ 31) s.H) s ⟨K⟩⟩ ⟨W56_c9 P Φ⟩
def W56_c11 (P : Program) (Φ : Exit → St → Prop) (s : St) : Prop :=
  @sGrd (guardOf (s.τ 25) false) (some 31) s ⟨fun s K => @sOp (some 31) (xLen (s.τ 30) s.H) s ⟨K⟩⟩ ⟨W56_c10 P Φ⟩
def W56_c12 (P : Program) (Φ : Exit → St → Prop) (s : St) : Prop :=
  @sGrd (guardOf (s.τ 25) false) (some 30) s ⟨fun s K => @sOp (some 30) (xLoad 1 false (s.τ 29) s.H) s ⟨K⟩⟩ ⟨W56_c11 P Φ⟩
def W56_c13 (P : Program) (Φ : Exit → St → Prop) (s : St) : Prop :=
  @sGrd (guardOf (s.τ 25) false) (some 29) s ⟨fun s K => @sOp (some 29) (xFld 3 (s.τ 3) s.H) s ⟨K⟩⟩ ⟨W56_c12 P Φ⟩
def W56_c14 (P : Program) (Φ : Exit → St → Prop) (s : St) : Prop :=
  @sGrd (guardOf (s.τ 25) false) (some 28) s ⟨fun s K => @sOp (some 28) (xLen (s.τ 27) s.H) s ⟨K⟩⟩ ⟨W56_c13 P Φ⟩
def W56_c15 (P : Program) (Φ : Exit → St → Prop) (s : St) : Prop :=
  @sGrd (guardOf (s.τ 25) false) (some 27) s ⟨fun s K => @sOp (some 27) (xLoad 1 false (s.τ 26) s.H) s ⟨K⟩⟩ ⟨W56_c14 P Φ⟩
def W56_c16 (P : Program) (Φ : Exit → St → Prop) (s : St) : Prop :=
  @sOp (some 24) (xPick (s.τ 18) (.bool true) (s.τ 23) s.H) s <| .mk fun s =>
  @sOp (some 25) (xMov (s.τ 24) s.H) s <| .mk fun s =>
  @sGrd (guardOf (s.τ 25) false) (some 26) s ⟨fun s K => @sOp (some 26) (xFld 3 (s.τ 2) s.H) s ⟨K⟩⟩ ⟨W56_c15 P Φ⟩
def W56_c17 (P : Program) (Φ : Exit → St → Prop) (s : St) : Prop :=
  @sGrd (guardOf (s.τ 18) false) (some 23) s ⟨fun s K => @sOp (some 23) (xBin .neq false (s.τ 20) (s.τ 22) s.H) s ⟨K⟩⟩ ⟨W56_c16 P Φ⟩
def W56_c18 (P : Program) (Φ : Exit → St → Prop) (s : St) : Prop :=
  @sGrd (guardOf (s.τ 18) false) (some 22) s ⟨fun s K => @sOp (some 22) (xLoad 1 false (s.τ 21) s.H) s ⟨K⟩⟩ ⟨W56_c17 P Φ⟩
def W56_c19 (P : Program) (Φ : Exit → St → Prop) (s : St) : Prop :=
  @sGrd (guardOf (s.τ 18) false) (some 21) s ⟨fun s K => @sOp (some 21) (xFld 2 (s.τ 3) s.H) s ⟨K⟩⟩ ⟨W56_c18 P Φ⟩
def W56_c20 (P : Program) (Φ : Exit → St → Prop) (s : St) : Prop :=
  @sGrd (guardOf (s.τ 18) false) (some 20) s ⟨fun s K => @sOp (some 20) (xLoad 1 false (s.τ 19) s.H) s ⟨K⟩⟩ ⟨W56_c19 P Φ⟩
def W56_c21 (P : Program) (Φ : Exit → St → Prop) (s : St) : Prop :=
  @sOp (some 17) (xPick (s.τ 11) (.bool true) (s.τ 16) s.H) s <| .mk fun s =>
  @sOp (some 18) (xMov (s.τ 17) s.H) s <| .mk fun s =>
  @sGrd (guardOf (s.τ 18) false) (some 19) s ⟨fun s K => @sOp (some 19) (xFld 2 (s.τ 2) s.H) s ⟨K⟩⟩ ⟨W56_c20 P Φ⟩
def W56_c22 (P : Program) (Φ : Exit → St → Prop) (s : St) : Prop :=
  @sGrd (guardOf (s.τ 11) false) (some 16) s ⟨fun s K => @sOp (some 16) (xBin .neq false (s.τ 13) (s.τ 15) s.H) s ⟨K⟩⟩ ⟨W56_c21 P Φ⟩
def W56_c23 (P : Program) (Φ : Exit → St → Prop) (s : St) : Prop :=
  @sGrd (guardOf (s.τ 11) false) (some 15) s ⟨fun s K => @sOp (some 15) (xLoad 1 false (s.τ 14) s.H) s ⟨K⟩⟩ ⟨W56_c22 P Φ⟩
def W56_c24 (P : Program) (Φ : Exit → St → Prop) (s : St) : Prop :=
  @sGrd (guardOf (s.τ 11) false) (some 14) s ⟨fun s K => @sOp (some 14) (xFld 1 (s.τ 3) s.H) s ⟨K⟩⟩ ⟨W56_c23 P Φ⟩
def W56_c25 (P : Program) (Φ : Exit → St → Prop) (s : St) : Prop :=
  @sGrd (guardOf (s.τ 11) false) (some 13) s ⟨fun s K => @sOp (some 13) (xLoad 1 false (s.τ 12) s.H) s ⟨K⟩⟩ ⟨W56_c24 P Φ⟩
def W56 (P : Program) (Φ : Exit → St → Prop) (s : St) : Prop :=
  @sOp (some 2) (xBox 2 31 (s.τ 0) s.H) s <| .mk fun s =>
  @sOp (some 3) (xBox 3 31 (s.τ 1) s.H) s <| .mk fun s =>
  @sOp (some 4) (xMov (.bool false) s.H) s <| .mk fun s =>
  @sOp (some 6) (xFld 0 (s.τ 2) s.H) s <| .mk fun s =>
  @sOp (some 7) (xLoad 1 false (s.τ 6) s.H) s <| .mk fun s =>
  @sOp (some 8) (xFld 0 (s.τ 3) s.H) s <| .mk fun s =>
  @sOp (some 9) (xLoad 1 false (s.τ 8) s.H) s <| .mk fun s =>
  @sOp (some 10) (xBin .neq false (s.τ 7) (s.τ 9) s.H) s <| .mk fun s =>
  @sOp (some 11) (xMov (s.τ 10) s.H) s <| .mk fun s =>
  @sGrd (guardOf (s.τ 11) false) (some 12) s ⟨fun s K => @sOp (some 12) (xFld 1 (s.τ 2) s.H) s ⟨K⟩⟩ ⟨W56_c25 P Φ⟩
theorem W56_rs (τ : Nat → AV) (H : Heap) : resV Try.prog τ H [.tmp 4] = some (τ 4) := by kernel_rfl
theorem W56_eq (Φ : Exit → St → Prop) (s : St) : awp Try.prog (Try.f56.body.getD .skip) Φ s = W56 Try.prog Φ s := by kernel_rfl

-- 57 "penance/penanceref5.Any"
def W57_b1 (P : Program) (Φ : Exit → St → Prop) (s : St) : Prop :=
  @sOp (some 2) (xMov (.bool true) s.H) s <| .mk fun s =>
  Φ .ret s
def W57_k2 (P : Program) (Φ : Exit → St → Prop) (s : St) : Prop :=
  @sOp (some 2) (xMov (.bool false) s.H) s <| .mk fun s =>
  Φ .ret s
def W57_b3 (P : Program) (Φ : Exit → St → Prop) (L0 : St → Prop) (s : St) : Prop :=
  @sOp (some 2) (xMov (.bool true) s.H) s <| .mk fun s =>
  Φ .ret s
def W57_b4 (P : Program) (Φ : Exit → St → Prop) (L0 : St → Prop) (s : St) : Prop :=
  @sOp (some 12) (xMov (s.τ 3) s.H) s <| .mk fun s =>
  @sOp (some 13) (xBin .add false (s.τ 12) (.int .i64 1) s.H) s <| .mk fun s =>
  @sOp (some 3) (xMov (s.τ 13) s.H) s <| .mk fun s =>
  L0 s
def W57_c5 (P : Program) (Φ : Exit → St → Prop) (L0 : St → Prop) (s : St) : Prop :=
  @sIf (s.τ 19) ⟨W57_b3 P Φ L0 s⟩ ⟨W57_b4 P Φ L0 s⟩
def W57_b6 (P : Program) (Φ : Exit → St → Prop) (L0 : St → Prop) (s : St) : Prop :=
  @sOp (some 14) (xFld 8 (s.τ 1) s.H) s <| .mk fun s =>
  @sOp (some 15) (xLoad 1 false (s.τ 14) s.H) s <| .mk fun s =>
  @sOp (some 16) (xMov (s.τ 3) s.H) s <| .mk fun s =>
  @sOp (some 17) (xIx 9 (s.τ 15) (s.τ 16) s.H) s <| .mk fun s =>
  @sOp (some 18) (xLoad 9 true (s.τ 17) s.H) s <| .mk fun s =>
  @sCall P (.func 57 []) [(s.τ 18)] (some 19) s ⟨W57_c5 P Φ L0⟩
def W57_l7 (P : Program) (Φ : Exit → St → Prop) (L0 : St → Prop) (s : St) : Prop :=
  @sOp (some 7) (xMov (s.τ 3) s.H) s <| .mk fun s =>
  @sOp (some 8) (xFld 8 (s.τ 1) s.H) s <| .mk fun s =>
  @sOp (some 9) (xLoad 1 false (s.τ 8) s.H) s <| .mk fun s =>
  @sOp (some 10) (xLen (s.τ 9) s.H) s <| .mk fun s =>
  @sOp (some 11) (xBin .lss false (s.τ 7) (s.τ 10) s.H) s <| .mk fun s =>
  @sIf (s.τ 11) ⟨W57_b6 P Φ L0 s⟩ ⟨W57_k2 P Φ s⟩
def W57_b8 (P : Program) (Φ : Exit → St → Prop) (s : St) : Prop :=
  @sOp (some 3) (xMov (.int .i64 0) s.H) s <| .mk fun s =>
  @sLoop s ⟨fun L0 s => W57_l7 P Φ L0 s⟩
def W57 (P : Program) (Φ : Exit → St → Prop) (s : St) : Prop :=
  @sOp (some 1) (xBox 1 34 (s.τ 0) s.H) s <| .mk fun s =>
  @sOp (some 2) (xMov (.bool false) s.H) s <| .mk fun s =>
  @sOp (some 4) (xFld 0 (s.τ 1) s.H) s <| .mk fun s =>
  @sOp (some 5) (xLoad 1 false (s.τ 4) s.H) s <| .mk fun s =>
  @sOp (some 6) (xBin .eql false (s.τ 5) (.int .i64 14) s.H) s <| .mk fun s =>
  @sIf (s.τ 6) ⟨W57_b1 P Φ s⟩ ⟨W57_b8 P Φ s⟩
theorem W57_rs (τ : Nat → AV) (H : Heap) : resV Try.prog τ H [.tmp 2] = some (τ 2) := by kernel_rfl
theorem W57_eq (Φ : Exit → St → Prop) (s : St) : awp Try.prog (Try.f57.body.getD .skip) Φ s = W57 Try.prog Φ s := by kernel_rfl

-- 58 "penance/term.sameExpr"
def W58_c1 (P : Program) (Φ : Exit → St → Prop) (s : St) : Prop :=
  @sOp (some 30) (xPick (s.τ 24) (s.τ 29) (.bool false) s.H) s <| .mk fun s =>
  @sOp (some 4) (xMov (s.τ 30) s.H) s <| .mk fun s =>
  Φ .ret s
def W58_c2 (P : Program) (Φ : Exit → St → Prop) (s : St) : Prop :=
  @sGrd (guardOf (s.τ 24) true) (some 29) s ⟨fun s K => @sCall P (.func 81 []) [(s.τ 26), (s.τ 28), (.func 58 [])] (some 29) s ⟨K⟩⟩ ⟨W58_c1 P Φ⟩
def W58_c3 (P : Program) (Φ : Exit → St → Prop) (s : St) : Prop :=
  @sGrd (guardOf (s.τ 24) true) (some 28) s ⟨fun s K => @sOp (some 28) (xLoad 1 false (s.τ 27) s.H) s ⟨K⟩⟩ ⟨W58_c2 P Φ⟩
def W58_c4 (P : Program) (Φ : Exit → St → Prop) (s : St) : Prop :=
  @sGrd (guardOf (s.τ 24) true) (some 27) s ⟨fun s K => @sOp (some 27) (xFld 3 (s.τ 3) s.H) s ⟨K⟩⟩ ⟨W58_c3 P Φ⟩
def W58_c5 (P : Program) (Φ : Exit → St → Prop) (s : St) : Prop :=
  @sGrd (guardOf (s.τ 24) true) (some 26) s ⟨fun s K => @sOp (some 26) (xLoad 1 false (s.τ 25) s.H) s ⟨K⟩⟩ ⟨W58_c4 P Φ⟩
def W58_c6 (P : Program) (Φ : Exit → St → Prop) (s : St) : Prop :=
  @sOp (some 23) (xPick (s.τ 17) (s.τ 22) (.bool false) s.H) s <| .mk fun s =>
  @sOp (some 24) (xMov (s.τ 23) s.H) s <| .mk fun s =>
  @sGrd (guardOf (s.τ 24) true) (some 25) s ⟨fun s K => @sOp (some 25) (xFld 3 (s.τ 2) s.H) s ⟨K⟩⟩ ⟨W58_c5 P Φ⟩
def W58_c7 (P : Program) (Φ : Exit → St → Prop) (s : St) : Prop :=
  @sGrd (guardOf (s.τ 17) true) (some 22) s ⟨fun s K => @sOp (some 22) (xBin .eql false (s.τ 19) (s.τ 21) s.H) s ⟨K⟩⟩ ⟨W58_c6 P Φ⟩
def W58_c8 (P : Program) (Φ : Exit → St → Prop) (s : St) : Prop :=
  @sGrd (guardOf (s.τ 17) true) (some 21) s ⟨fun s K => @sOp (some 21) (xLoad 1 false (s.τ 20) s.H) s ⟨K⟩⟩ ⟨W58_c7 P Φ⟩
def W58_c9 (P : Program) (Φ : Exit → St → Prop) (s : St) : Prop :=
  @sGrd (guardOf (s.τ 17) true) (some 20) s ⟨fun s K => @sOp (some 20) (xFld 2 (s.τ 3) s.H) s ⟨K⟩⟩ ⟨W58_c8 P Φ⟩
def W58_c10 (P : Program) (Φ : Exit → St → Prop) (s : St) : Prop :=
  @sGrd (guardOf (s.τ 17) true) (some 19) s ⟨fun s K => @sOp (some 19) (xLoad 1 false (s.τ 18) s.H) s ⟨K⟩⟩ ⟨W58_c9 P Φ⟩
def W58_c11 (P : Program) (Φ : Exit → St → Prop) (s : St) : Prop :=
  @sOp (some 16) (xPick (s.τ 10) (s.τ 15) (.bool false) s.H) s <| .mk fun s =>
  @sOp (some 17) (xMov (s.τ 16) s.H) s <| .mk fun s =>
  @sGrd (guardOf (s.τ 17) true) (some 18) s ⟨fun s K => @sOp (some 18) (xFld 2 (s.τ 2) s.H) s ⟨K⟩⟩ ⟨W58_c10 P Φ⟩
def W58_c12 (P : Program) (Φ : Exit → St → Prop) (s : St) : Prop :=
  @sGrd (guardOf (s.τ 10) true) (some 15) s ⟨fun s K => @sOp (some 15) (xBin .eql false (s.τ 12) (s.τ 14) s.H) s ⟨K⟩⟩ ⟨W58_c11 P Φ⟩
def W58_c13 (P : Program) (Φ : Exit → St → Prop) (s : St) : Prop :=
  @sGrd (guardOf (s.τ 10) true) (some 14) s ⟨fun s K => @sOp (some 14) (xLoad 1 false (s.τ 13) s.H) s ⟨K⟩⟩ ⟨W58_c12 P Φ⟩
def W58_c14 (P : Program) (Φ : Exit → St → Prop) (s : St) : Prop :=
  @sGrd (guardOf (s.τ 10) true) (some 13) s ⟨fun s K => @sOp (some 13) (xFld 1 (s.τ 3) s.H) s ⟨K⟩⟩ ⟨W58_c13 P Φ⟩
def W58_c15 (P : Program) (Φ : Exit → St → Prop) (s : St) : Prop :=
  @sGrd (guardOf (s.τ 10) true) (some 12) s ⟨fun s K => @sOp (some 12) (xLoad 1 false (s.τ 11) s.H) s ⟨K⟩⟩ ⟨W58_c14 P Φ⟩
def W58 (P : Program) (Φ : Exit → St → Prop) (s : St) : Prop :=
  @sOp (some 2) (xBox 2 31 (s.τ 0) s.H) s <| .mk fun s =>
  @sOp (some 3) (xBox 3 31 (s.τ 1) s.H) s <| .mk fun s =>
  @sOp (some 4) (xMov (.bool false) s.H) s <| .mk fun s =>
  @sOp (some 5) (xFld 0 (s.τ 2) s.H) s <| .mk fun s =>
  @sOp (some 6) (xLoad 1 false (s.τ 5) s.H) s <| .mk fun s =>
  @sOp (some 7) (xFld 0 (s.τ 3) s.H) s <| .mk fun s =>
  @sOp (some 8) (xLoad 1 false (s.τ 7) s.H) s <| .mk fun s =>
  @sOp (some 9) (xBin .eql false (s.τ 6) (s.τ 8) s.H) s <| .mk fun s =>
  @sOp (some 10) (xMov (s.τ 9) s.H) s <| .mk fun s =>
  @sGrd (guardOf (s.τ 10) true) (some 11) s ⟨fun s K => @sOp (some 11) (xFld 1 (s.τ 2) s.H) s ⟨K⟩⟩ ⟨W58_c15 P Φ⟩
theorem W58_rs (τ : Nat → AV) (H : Heap) : resV Try.prog τ H [.tmp 4] = some (τ 4) := by kernel_rfl
theorem W58_eq (Φ : Exit → St → Prop) (s : St) : awp Try.prog (Try.f58.body.getD .skip) Φ s = W58 Try.prog Φ s := by kernel_rfl

-- 59 "slices.EqualFunc[[]penance/api.Term,[]penance/api.Term,penance/api.Term,penance/api.Term]"
def W59_b1 (P : Program) (Φ : Exit → St → Prop) (s : St) : Prop :=
  @sOp (some 6) (xMov (.bool false) s.H) s <| .mk fun s =>
  Φ .ret s
def W59_k2 (P : Program) (Φ : Exit → St → Prop) (s : St) : Prop :=
  @sOp (some 6) (xMov (.bool true) s.H) s <| .mk fun s =>
  Φ .ret s
def W59_b3 (P : Program) (Φ : Exit → St → Prop) (L0 : St → Prop) (s : St) : Prop :=
  @sOp (some 6) (xMov (.bool false) s.H) s <| .mk fun s =>
  Φ .ret s
def W59_b4 (P : Program) (Φ : Exit → St → Prop) (L0 : St → Prop) (s : St) : Prop :=
  @sOp (some 31) (xBin .add false (s.τ 17) (.int .i64 1) s.H) s <| .mk fun s =>
  @sOp (some 17) (xMov (s.τ 31) s.H) s <| .mk fun s =>
  L0 s
def W59_c5 (P : Program) (Φ : Exit → St → Prop) (L0 : St → Prop) (s : St) : Prop :=
  @sOp (some 30) (xNot (s.τ 29) s.H) s <| .mk fun s =>
  @sIf (s.τ 30) ⟨W59_b3 P Φ L0 s⟩ ⟨W59_b4 P Φ L0 s⟩
def W59_b6 (P : Program) (Φ : Exit → St → Prop) (L0 : St → Prop) (s : St) : Prop :=
  @sOp (some 19) (xMov (s.τ 17) s.H) s <| .mk fun s =>
  @sOp (some 20) (xIx 9 (s.τ 15) (s.τ 17) s.H) s <| .mk fun s =>
  @sOp (some 21) (xLoad 9 true (s.τ 20) s.H) s <| .mk fun s =>
  @sOp (some 8) (xAlloc 8 34 [.int .i64 0, .int .i64 0, .int .i64 0, .str ⟨#[]⟩, .int .i64 0, .int .i64 0, .str ⟨#[]⟩, .nils, .nils] s.H) s <| .mk fun s =>
  @sOp (some 7) (xMov (s.τ 19) s.H) s <| .mk fun s =>
  @sOp none (xStore 9 (s.τ 8) (s.τ 21) s.H) s <| .mk fun s =>
  @sOp (some 22) (xMov (s.τ 1) s.H) s <| .mk fun s =>
  @sOp (some 23) (xMov (s.τ 7) s.H) s <| .mk fun s =>
  @sOp (some 24) (xIx 9 (s.τ 22) (s.τ 23) s.H) s <| .mk fun s =>
  @sOp (some 25) (xLoad 9 true (s.τ 24) s.H) s <| .mk fun s =>
  @sOp (some 9) (xAlloc 9 34 [.int .i64 0, .int .i64 0, .int .i64 0, .str ⟨#[]⟩, .int .i64 0, .int .i64 0, .str ⟨#[]⟩, .nils, .nils] s.H) s <| .mk fun s =>
  @sOp none (xStore 9 (s.τ 9) (s.τ 25) s.H) s <| .mk fun s =>
  @sOp (some 26) (xMov (s.τ 2) s.H) s <| .mk fun s =>
  @sOp (some 27) (xLoad 9 true (s.τ 8) s.H) s <| .mk fun s =>
  @sOp (some 28) (xLoad 9 true (s.τ 9) s.H) s <| .mk fun s =>
  @sCall P (s.τ 26) [(s.τ 27), (s.τ 28)] (some 29) s ⟨W59_c5 P Φ L0⟩
def W59_l7 (P : Program) (Φ : Exit → St → Prop) (L0 : St → Prop) (s : St) : Prop :=
  @sOp (some 18) (xBin .lss false (s.τ 17) (s.τ 16) s.H) s <| .mk fun s =>
  @sIf (s.τ 18) ⟨W59_b6 P Φ L0 s⟩ ⟨W59_k2 P Φ s⟩
def W59_b8 (P : Program) (Φ : Exit → St → Prop) (s : St) : Prop :=
  @sOp (some 15) (xMov (s.τ 0) s.H) s <| .mk fun s =>
  @sOp (some 16) (xLen (s.τ 15) s.H) s <| .mk fun s =>
  @sOp (some 17) (xMov (.int .i64 0) s.H) s <| .mk fun s =>
  @sLoop s ⟨fun L0 s => W59_l7 P Φ L0 s⟩
def W59 (P : Program) (Φ : Exit → St → Prop) (s : St) : Prop :=
  @sOp (some 6) (xMov (.bool false) s.H) s <| .mk fun s =>
  @sOp (some 10) (xMov (s.τ 0) s.H) s <| .mk fun s =>
  @sOp (some 11) (xLen (s.τ 10) s.H) s <| .mk fun s =>
  @sOp (some 12) (xMov (s.τ 1) s.H) s <| .mk fun s =>
  @sOp (some 13) (xLen (s.τ 12) s.H) s <| .mk fun s =>
  @sOp (some 14) (xBin .neq false (s.τ 11) (s.τ 13) s.H) s <| .mk fun s =>
  @sIf (s.τ 14) ⟨W59_b1 P Φ s⟩ ⟨W59_b8 P Φ s⟩
theorem W59_rs (τ : Nat → AV) (H : Heap) : resV Try.prog τ H [.tmp 6] = some (τ 6) := by kernel_rfl
theorem W59_eq (Φ : Exit → St → Prop) (s : St) : awp Try.prog (Try.f59.body.getD .skip) Φ s = W59 Try.prog Φ s := by kernel_rfl

-- 60 "penance/term.Norm$1"

def W60 (P : Program) (Φ : Exit → St → Prop) (s : St) : Prop :=
  @sOp (some 1) (xBox 1 34 (s.τ 0) s.H) s <| .mk fun s =>
  @sOp (some 2) (xMov (.bool false) s.H) s <| .mk fun s =>
  @sOp (some 3) (xFld 0 (s.τ 1) s.H) s <| .mk fun s =>
  @sOp (some 4) (xLoad 1 false (s.τ 3) s.H) s <| .mk fun s =>
  @sOp (some 5) (xBin .eql false (s.τ 4) (.int .i64 0) s.H) s <| .mk fun s =>
  @sOp (some 2) (xMov (s.τ 5) s.H) s <| .mk fun s =>
  Φ .ret s
theorem W60_rs (τ : Nat → AV) (H : Heap) : resV Try.prog τ H [.tmp 2] = some (τ 2) := by kernel_rfl
theorem W60_eq (Φ : Exit → St → Prop) (s : St) : awp Try.prog (Try.f60.body.getD .skip) Φ s = W60 Try.prog Φ s := by kernel_rfl

-- 61 "penance/term.own"
def W61_c1 (P : Program) (Φ : Exit → St → Prop) (u4 : St) (s : St) : Prop :=
  @sChk (compat ([27] ++ (occ (.func 83 []) ++ occL [(u4.τ 26)]), [27] ++ (occ (.func 83 []) ++ occL [(u4.τ 26)])) (occ (s.τ 1), [])) <| .mk <|
  @sOp (some 28) (xFld 8 (s.τ 1) s.H) s <| .mk fun u6 =>
  @sOp none (xStore 1 (u6.τ 28) (u6.τ 24) u6.H) u6 <| .mk fun u7 =>
  @sOp (some 29) (xFld 4 (u7.τ 1) u7.H) u7 <| .mk fun u8 =>
  @sOp none (xStore 4 (u8.τ 29) (u8.τ 27) u8.H) u8 <| .mk fun s =>
  @sOp (some 30) (xLoad 9 true (s.τ 1) s.H) s <| .mk fun s =>
  @sOp none (xStore 9 (s.τ 2) (s.τ 30) s.H) s <| .mk fun s =>
  Φ .ret s
def W61_c2 (P : Program) (Φ : Exit → St → Prop) (u1 : St) (s : St) : Prop :=
  @sChk (compat ([24] ++ (occ (.func 82 []) ++ occL [(u1.τ 23)]), [24] ++ (occ (.func 82 []) ++ occL [(u1.τ 23)])) (occ (s.τ 1), [])) <| .mk <|
  @sOp (some 25) (xFld 4 (s.τ 1) s.H) s <| .mk fun u3 =>
  @sChk (compat ([24] ++ (occ (.func 82 []) ++ occL [(u1.τ 23)]), [24] ++ (occ (.func 82 []) ++ occL [(u1.τ 23)])) (occ (u3.τ 25), [])) <| .mk <|
  @sOp (some 26) (xLoad 4 true (u3.τ 25) u3.H) u3 <| .mk fun u4 =>
  @sCall0 P (.func 83 []) [(u4.τ 26)] (some 27) u4 ⟨W61_c1 P Φ u4⟩
def W61_k3 (P : Program) (Φ : Exit → St → Prop) (s : St) : Prop :=
  @sOp (some 23) (xMov (s.τ 3) s.H) s <| .mk fun u1 =>
  @sCall0 P (.func 82 []) [(u1.τ 23)] (some 24) u1 ⟨W61_c2 P Φ u1⟩
def W61_c4 (P : Program) (Φ : Exit → St → Prop) (L0 : St → Prop) (s : St) : Prop :=
  @sOp (some 20) (xLit 9 1 [.int .i64 0, .int .i64 0, .int .i64 0, .str ⟨#[]⟩, .int .i64 0, .int .i64 0, .str ⟨#[]⟩, .nils, .nils] [(0, (s.τ 19))] s.H) s <| .mk fun s =>
  @sOp (some 21) (xApp P 34 9 120 (some 21) (s.τ 17) (s.τ 20) s.H) s <| .mk fun s =>
  @sOp (some 3) (xMov (s.τ 21) s.H) s <| .mk fun s =>
  @sOp (some 22) (xBin .add false (s.τ 13) (.int .i64 1) s.H) s <| .mk fun s =>
  @sOp (some 13) (xMov (s.τ 22) s.H) s <| .mk fun s =>
  L0 s
def W61_b5 (P : Program) (Φ : Exit → St → Prop) (L0 : St → Prop) (s : St) : Prop :=
  @sOp (some 15) (xIx 9 (s.τ 11) (s.τ 13) s.H) s <| .mk fun s =>
  @sOp (some 16) (xLoad 9 true (s.τ 15) s.H) s <| .mk fun s =>
  @sOp (some 5) (xAlloc 5 34 [.int .i64 0, .int .i64 0, .int .i64 0, .str ⟨#[]⟩, .int .i64 0, .int .i64 0, .str ⟨#[]⟩, .nils, .nils] s.H) s <| .mk fun s =>
  @sOp none (xStore 9 (s.τ 5) (s.τ 16) s.H) s <| .mk fun s =>
  @sOp (some 17) (xMov (s.τ 3) s.H) s <| .mk fun s =>
  @sOp (some 18) (xLoad 9 true (s.τ 5) s.H) s <| .mk fun s =>
  @sCall P (.func 61 []) [(s.τ 18)] (some 19) s ⟨W61_c4 P Φ L0⟩
def W61_l6 (P : Program) (Φ : Exit → St → Prop) (L0 : St → Prop) (s : St) : Prop :=
  @sOp (some 14) (xBin .lss false (s.τ 13) (s.τ 12) s.H) s <| .mk fun s =>
  @sIf (s.τ 14) ⟨W61_b5 P Φ L0 s⟩ ⟨W61_k3 P Φ s⟩
def W61 (P : Program) (Φ : Exit → St → Prop) (s : St) : Prop :=
  @sOp (some 1) (xBox 1 34 (s.τ 0) s.H) s <| .mk fun s =>
  @sOp (some 2) (xAlloc 2 34 [.int .i64 0, .int .i64 0, .int .i64 0, .str ⟨#[]⟩, .int .i64 0, .int .i64 0, .str ⟨#[]⟩, .nils, .nils] s.H) s <| .mk fun s =>
  @sOp (some 6) (xFld 8 (s.τ 1) s.H) s <| .mk fun s =>
  @sOp (some 7) (xLoad 1 false (s.τ 6) s.H) s <| .mk fun s =>
  @sOp (some 8) (xLen (s.τ 7) s.H) s <| .mk fun s =>
  @sOp (some 9) (xMks 9 34 9 120 [.int .i64 0, .int .i64 0, .int .i64 0, .str ⟨#[]⟩, .int .i64 0, .int .i64 0, .str ⟨#[]⟩, .nils, .nils] (.int .i64 0) (s.τ 8) s.H) s <| .mk fun s =>
  @sOp (some 3) (xMov (s.τ 9) s.H) s <| .mk fun s =>
  @sOp (some 10) (xFld 8 (s.τ 1) s.H) s <| .mk fun s =>
  @sOp (some 11) (xLoad 1 false (s.τ 10) s.H) s <| .mk fun s =>
  @sOp (some 12) (xLen (s.τ 11) s.H) s <| .mk fun s =>
  @sOp (some 13) (xMov (.int .i64 0) s.H) s <| .mk fun s =>
  @sLoop s ⟨fun L0 s => W61_l6 P Φ L0 s⟩
theorem W61_rs (τ : Nat → AV) (H : Heap) : resV Try.prog τ H [.cell 2 34] = rdV H 9 true (τ 2) := by kernel_rfl
theorem W61_eq (Φ : Exit → St → Prop) (s : St) : awp Try.prog (Try.f61.body.getD .skip) Φ s = W61 Try.prog Φ s := by kernel_rfl

-- 62 "penance/term.active"

def W62 (P : Program) (Φ : Exit → St → Prop) (s : St) : Prop :=
  @sOp (some 1) (xBox 1 34 (s.τ 0) s.H) s <| .mk fun s =>
  @sOp (some 2) (xMov (.nilf) s.H) s <| .mk fun s =>
  @sOp (some 3) (xMkf 84 [(s.τ 1)] s.H) s <| .mk fun s =>
  @sOp (some 2) (xMov (s.τ 3) s.H) s <| .mk fun s =>
  Φ .ret s
theorem W62_rs (τ : Nat → AV) (H : Heap) : resV Try.prog τ H [.tmp 2] = some (τ 2) := by kernel_rfl
theorem W62_eq (Φ : Exit → St → Prop) (s : St) : awp Try.prog (Try.f62.body.getD .skip) Φ s = W62 Try.prog Φ s := by kernel_rfl

-- 63 "penance/penancelaw5.expr"
def W63_b1 (P : Program) (Φ : Exit → St → Prop) (s : St) : Prop :=
  @sOp (some 4) (xMov (.bool false) s.H) s <| .mk fun s =>
  Φ .ret s
def W63_k2 (P : Program) (Φ : Exit → St → Prop) (s : St) : Prop :=
  @sOp (some 4) (xMov (.bool true) s.H) s <| .mk fun s =>
  Φ .ret s
def W63_b3 (P : Program) (Φ : Exit → St → Prop) (L0 : St → Prop) (s : St) : Prop :=
  @sOp (some 4) (xMov (.bool false) s.H) s <| .mk fun s =>
  Φ .ret s
def W63_b4 (P : Program) (Φ : Exit → St → Prop) (L0 : St → Prop) (s : St) : Prop :=
  @sOp (some 19) (xMov (s.τ 5) s.H) s <| .mk fun s =>
  @sOp (some 20) (xBin .add false (s.τ 19) (.int .i64 1) s.H) s <| .mk fun s =>
  @sOp (some 5) (xMov (s.τ 20) s.H) s <| .mk fun s =>
  L0 s
def W63_c5 (P : Program) (Φ : Exit → St → Prop) (L0 : St → Prop) (s : St) : Prop :=
  @sOp (some 29) (xNot (s.τ 28) s.H) s <| .mk fun s =>
  @sIf (s.τ 29) ⟨W63_b3 P Φ L0 s⟩ ⟨W63_b4 P Φ L0 s⟩
def W63_b6 (P : Program) (Φ : Exit → St → Prop) (L0 : St → Prop) (s : St) : Prop :=
  @sOp (some 21) (xFld 3 (s.τ 2) s.H) s <| .mk fun s =>
  @sOp (some 22) (xLoad 1 false (s.τ 21) s.H) s <| .mk fun s =>
  @sOp (some 23) (xMov (s.τ 5) s.H) s <| .mk fun s =>
  @sOp (some 24) (xIx 4 (s.τ 22) (s.τ 23) s.H) s <| .mk fun s =>
  @sOp (some 25) (xLoad 4 true (s.τ 24) s.H) s <| .mk fun s =>
  @sOp (some 26) (xMov (s.τ 1) s.H) s <| .mk fun s =>
  @sOp (some 27) (xBin .add false (s.τ 26) (.int .i64 1) s.H) s <| .mk fun s =>
  @sCall P (.func 63 []) [(s.τ 25), (s.τ 27)] (some 28) s ⟨W63_c5 P Φ L0⟩
def W63_l7 (P : Program) (Φ : Exit → St → Prop) (L0 : St → Prop) (s : St) : Prop :=
  @sOp (some 14) (xMov (s.τ 5) s.H) s <| .mk fun s =>
  @sOp (some 15) (xFld 3 (s.τ 2) s.H) s <| .mk fun s =>
  @sOp (some 16) (xLoad 1 false (s.τ 15) s.H) s <| .mk fun s =>
  @sOp (some 17) (xLen (s.τ 16) s.H) s <| .mk fun s =>
  @sOp (some 18) (xBin .lss false (s.τ 14) (s.τ 17) s.H) s <| .mk fun s =>
  @sIf (s.τ 18) ⟨W63_b6 P Φ L0 s⟩ ⟨W63_k2 P Φ s⟩
def W63_b8 (P : Program) (Φ : Exit → St → Prop) (s : St) : Prop :=
  @sOp (some 5) (xMov (.int .i64 0) s.H) s <| .mk fun s =>
  @sLoop s ⟨fun L0 s => W63_l7 P Φ L0 s⟩
def W63_c9 (P : Program) (Φ : Exit → St → Prop) (s : St) : Prop :=
  @sOp (some 13) (xPick (s.τ 8) (.bool true) (s.τ 12) s.H) s <| .mk fun s =>
  @sIf (s.τ 13) ⟨W63_b1 P Φ s⟩ ⟨W63_b8 P Φ s⟩
def W63_c10 (P : Program) (Φ : Exit → St → Prop) (s : St) : Prop :=
  @sGrd (guardOf (s.τ 8) false) (some 12) s ⟨fun s K => @sOp (some 12) (xBin .gtr false (s.τ 11) (.int .i64 5) s.H) s ⟨K⟩⟩ ⟨W63_c9 P Φ⟩
def W63_c11 (P : Program) (Φ : Exit → St → Prop) (s : St) : Prop :=
  @sGrd (guardOf (s.τ 8) false) (some 11) s ⟨fun s K => @sOp (some 11) (xLen (s.τ 10) s.H) s ⟨K⟩⟩ ⟨W63_c10 P Φ⟩
def W63_c12 (P : Program) (Φ : Exit → St → Prop) (s : St) : Prop :=
  @sGrd (guardOf (s.τ 8) false) (some 10) s ⟨fun s K => @sOp (some 10) (xLoad 1 false (s.τ 9) s.H) s ⟨K⟩⟩ ⟨W63_c11 P Φ⟩
def W63 (P : Program) (Φ : Exit → St → Prop) (s : St) : Prop :=
  @sOp (some 2) (xBox 2 31 (s.τ 0) s.H) s <| .mk fun s =>
  @sOp (some 4) (xMov (.bool false) s.H) s <| .mk fun s =>
  @sOp (some 6) (xMov (s.τ 1) s.H) s <| .mk fun s =>
  @sOp (some 7) (xBin .gtr false (s.τ 6) (.int .i64 10) s.H) s <| .mk fun s =>
  @sOp (some 8) (xMov (s.τ 7) s.H) s <| .mk fun s =>
  @sGrd (guardOf (s.τ 8) false) (some 9) s ⟨fun s K => @sOp (some 9) (xFld 3 (s.τ 2) s.H) s ⟨K⟩⟩ ⟨W63_c12 P Φ⟩
theorem W63_rs (τ : Nat → AV) (H : Heap) : resV Try.prog τ H [.tmp 4] = some (τ 4) := by kernel_rfl
theorem W63_eq (Φ : Exit → St → Prop) (s : St) : awp Try.prog (Try.f63.body.getD .skip) Φ s = W63 Try.prog Φ s := by kernel_rfl

-- 64 "penance/penancelaw2.Few"
def W64_c1 (P : Program) (Φ : Exit → St → Prop) (s : St) : Prop :=
  @sOp (some 5) (xBin .leq false (s.τ 4) (.int .i64 20) s.H) s <| .mk fun s =>
  @sOp (some 2) (xMov (s.τ 5) s.H) s <| .mk fun s =>
  Φ .ret s
def W64 (P : Program) (Φ : Exit → St → Prop) (s : St) : Prop :=
  @sOp (some 2) (xMov (.bool false) s.H) s <| .mk fun s =>
  @sOp (some 3) (xMov (s.τ 0) s.H) s <| .mk fun s =>
  @sCall P (.func 86 []) [(s.τ 3), (.int .i64 0)] (some 4) s ⟨W64_c1 P Φ⟩
theorem W64_rs (τ : Nat → AV) (H : Heap) : resV Try.prog τ H [.tmp 2] = some (τ 2) := by kernel_rfl
theorem W64_eq (Φ : Exit → St → Prop) (s : St) : awp Try.prog (Try.f64.body.getD .skip) Φ s = W64 Try.prog Φ s := by kernel_rfl

-- 65 "penance/penancelaw3.Stacks"

def W65 (P : Program) (Φ : Exit → St → Prop) (s : St) : Prop :=
  @sOp (some 0) (xMov (.nils) s.H) s <| .mk fun s =>
  @sOp (some 1) (xLit 1 2 [.str ⟨#[]⟩] [(0, (.str ⟨#[115]⟩)), (1, (.str ⟨#[117, 110, 100, 111]⟩))] s.H) s <| .mk fun s =>
  @sOp (some 0) (xMov (s.τ 1) s.H) s <| .mk fun s =>
  Φ .ret s
theorem W65_rs (τ : Nat → AV) (H : Heap) : resV Try.prog τ H [.tmp 0] = some (τ 0) := by kernel_rfl
theorem W65_eq (Φ : Exit → St → Prop) (s : St) : awp Try.prog (Try.f65.body.getD .skip) Φ s = W65 Try.prog Φ s := by kernel_rfl

-- 66 "penance/penancelaw3.Vars"

def W66 (P : Program) (Φ : Exit → St → Prop) (s : St) : Prop :=
  @sOp (some 0) (xMov (.nils) s.H) s <| .mk fun s =>
  @sOp (some 1) (xLit 1 3 [.str ⟨#[]⟩] [(0, (.str ⟨#[120]⟩)), (1, (.str ⟨#[121]⟩)), (2, (.str ⟨#[116, 111, 116, 97, 108]⟩))] s.H) s <| .mk fun s =>
  @sOp (some 0) (xMov (s.τ 1) s.H) s <| .mk fun s =>
  Φ .ret s
theorem W66_rs (τ : Nat → AV) (H : Heap) : resV Try.prog τ H [.tmp 0] = some (τ 0) := by kernel_rfl
theorem W66_eq (Φ : Exit → St → Prop) (s : St) : awp Try.prog (Try.f66.body.getD .skip) Φ s = W66 Try.prog Φ s := by kernel_rfl

-- 67 "penance/penancelaw3.within"
def W67_k1 (P : Program) (Φ : Exit → St → Prop) (s : St) : Prop :=
  @sOp (some 14) (xMov (s.τ 5) s.H) s <| .mk fun s =>
  @sOp (some 4) (xMov (s.τ 14) s.H) s <| .mk fun s =>
  Φ .ret s
def W67_b2 (P : Program) (Φ : Exit → St → Prop) (s : St) : Prop :=
  @sOp (some 11) (xMov (s.τ 5) s.H) s <| .mk fun s =>
  @sOp (some 12) (xMov (s.τ 1) s.H) s <| .mk fun s =>
  @sOp (some 13) (xBin .add false (s.τ 11) (s.τ 12) s.H) s <| .mk fun s =>
  @sOp (some 5) (xMov (s.τ 13) s.H) s <| .mk fun s =>
  W67_k1 P Φ s
def W67 (P : Program) (Φ : Exit → St → Prop) (s : St) : Prop :=
  @sOp (some 4) (xMov (.int .i64 0) s.H) s <| .mk fun s =>
  @sOp (some 6) (xMov (s.τ 0) s.H) s <| .mk fun s =>
  @sOp (some 7) (xMov (s.τ 1) s.H) s <| .mk fun s =>
  @sOp (some 8) (xBin .rem false (s.τ 6) (s.τ 7) s.H) s <| .mk fun s =>
  @sOp (some 5) (xMov (s.τ 8) s.H) s <| .mk fun s =>
  @sOp (some 9) (xMov (s.τ 5) s.H) s <| .mk fun s =>
  @sOp (some 10) (xBin .lss false (s.τ 9) (.int .i64 0) s.H) s <| .mk fun s =>
  @sIf (s.τ 10) ⟨W67_b2 P Φ s⟩ ⟨W67_k1 P Φ s⟩
theorem W67_rs (τ : Nat → AV) (H : Heap) : resV Try.prog τ H [.tmp 4] = some (τ 4) := by kernel_rfl
theorem W67_eq (Φ : Exit → St → Prop) (s : St) : awp Try.prog (Try.f67.body.getD .skip) Φ s = W67 Try.prog Φ s := by kernel_rfl

-- 68 "penance/penancelaw3.Defs"

def W68 (P : Program) (Φ : Exit → St → Prop) (s : St) : Prop :=
  @sOp (some 0) (xMov (.nils) s.H) s <| .mk fun s =>
  @sOp (some 1) (xLit 1 5 [.str ⟨#[]⟩] [(0, (.str ⟨#[109, 97, 105, 110]⟩)), (1, (.str ⟨#[112]⟩)), (2, (.str ⟨#[113]⟩)), (3, (.str ⟨#[114, 101, 116, 114, 121]⟩)), (4, (.str ⟨#[108, 97, 115, 116]⟩))] s.H) s <| .mk fun s =>
  @sOp (some 0) (xMov (s.τ 1) s.H) s <| .mk fun s =>
  Φ .ret s
theorem W68_rs (τ : Nat → AV) (H : Heap) : resV Try.prog τ H [.tmp 0] = some (τ 0) := by kernel_rfl
theorem W68_eq (Φ : Exit → St → Prop) (s : St) : awp Try.prog (Try.f68.body.getD .skip) Φ s = W68 Try.prog Φ s := by kernel_rfl

-- 69 "(penance/penancelaw3.Raw).Make"
def W69_c1 (P : Program) (Φ : Exit → St → Prop) (s : St) : Prop :=
  @sOp (some 44) (xIx 1 (s.τ 40) (s.τ 43) s.H) s <| .mk fun s =>
  @sOp (some 45) (xLoad 1 false (s.τ 44) s.H) s <| .mk fun s =>
  @sOp (some 46) (xBuild [.int .i64 0, .str ⟨#[]⟩, .str ⟨#[]⟩, .int .i64 0, .int .i64 0, .str ⟨#[]⟩, .nils, .nils] [(0, 1, (.int .i64 1)), (1, 1, (s.τ 45))] s.H) s <| .mk fun s =>
  @sOp none (xStore 8 (s.τ 4) (s.τ 46) s.H) s <| .mk fun s =>
  Φ .ret s
def W69_b2 (P : Program) (Φ : Exit → St → Prop) (s : St) : Prop :=
  @sOp (some 40) (xLit 1 3 [.str ⟨#[]⟩] [(0, (.str ⟨#[112, 97, 121]⟩)), (1, (.str ⟨#[115, 104, 105, 112]⟩)), (2, (.str ⟨#[97, 115, 107]⟩))] s.H) s <| .mk fun s =>
  @sOp (some 41) (xFld 2 (s.τ 2) s.H) s <| .mk fun s =>
  @sOp (some 42) (xLoad 1 false (s.τ 41) s.H) s <| .mk fun s =>
  @sCall P (.func 67 []) [(s.τ 42), (.int .i64 3)] (some 43) s ⟨W69_c1 P Φ⟩
def W69_c3 (P : Program) (Φ : Exit → St → Prop) (s : St) : Prop :=
  @sOp (some 54) (xIx 1 (s.τ 50) (s.τ 53) s.H) s <| .mk fun s =>
  @sOp (some 55) (xLoad 1 false (s.τ 54) s.H) s <| .mk fun s =>
  @sOp (some 56) (xMov (s.τ 5) s.H) s <| .mk fun s =>
  @sOp (some 57) (xBuild [.int .i64 0, .str ⟨#[]⟩, .str ⟨#[]⟩, .int .i64 0, .int .i64 0, .str ⟨#[]⟩, .nils, .nils] [(0, 1, (.int .i64 1)), (1, 1, (s.τ 55)), (2, 1, (s.τ 56))] s.H) s <| .mk fun s =>
  @sOp none (xStore 8 (s.τ 4) (s.τ 57) s.H) s <| .mk fun s =>
  Φ .ret s
def W69_b4 (P : Program) (Φ : Exit → St → Prop) (s : St) : Prop :=
  @sOp (some 50) (xLit 1 3 [.str ⟨#[]⟩] [(0, (.str ⟨#[112, 97, 121]⟩)), (1, (.str ⟨#[115, 104, 105, 112]⟩)), (2, (.str ⟨#[97, 115, 107]⟩))] s.H) s <| .mk fun s =>
  @sOp (some 51) (xFld 2 (s.τ 2) s.H) s <| .mk fun s =>
  @sOp (some 52) (xLoad 1 false (s.τ 51) s.H) s <| .mk fun s =>
  @sCall P (.func 67 []) [(s.τ 52), (.int .i64 3)] (some 53) s ⟨W69_c3 P Φ⟩
def W69_c5 (P : Program) (Φ : Exit → St → Prop) (s : St) : Prop :=
  @sOp (some 65) (xBuild [.int .i64 0, .str ⟨#[]⟩, .str ⟨#[]⟩, .int .i64 0, .int .i64 0, .str ⟨#[]⟩, .nils, .nils] [(0, 1, (.int .i64 2)), (2, 1, (s.τ 60)), (3, 4, (s.τ 64))] s.H) s <| .mk fun u6 =>
  @sOp none (xStore 8 (u6.τ 4) (u6.τ 65) u6.H) u6 <| .mk fun s =>
  Φ .ret s
def W69_c6 (P : Program) (Φ : Exit → St → Prop) (s : St) : Prop :=
  @sCall0 P (.func 88 []) [(s.τ 62), (s.τ 63)] (some 64) s ⟨W69_c5 P Φ⟩
def W69_b7 (P : Program) (Φ : Exit → St → Prop) (s : St) : Prop :=
  @sOp (some 60) (xMov (s.τ 5) s.H) s <| .mk fun u1 =>
  @sOp (some 61) (xFld 3 (u1.τ 2) u1.H) u1 <| .mk fun u2 =>
  @sOp (some 62) (xLoad 1 false (u2.τ 61) u2.H) u2 <| .mk fun u3 =>
  @sChk (compat (occ (u1.τ 2), []) ([63] ++ (occ (.func 66 []) ++ occL []), [63] ++ (occ (.func 66 []) ++ occL []))) <| .mk <|
  @sChk (compat (occ (u2.τ 61), []) ([63] ++ (occ (.func 66 []) ++ occL []), [63] ++ (occ (.func 66 []) ++ occL []))) <| .mk <|
  @sCall0 P (.func 66 []) [] (some 63) u3 ⟨W69_c6 P Φ⟩
def W69_b8 (P : Program) (Φ : Exit → St → Prop) (s : St) : Prop :=
  @sOp (some 69) (xMov (s.τ 6) s.H) s <| .mk fun s =>
  @sOp (some 70) (xLoad 8 true (s.τ 8) s.H) s <| .mk fun s =>
  @sOp (some 71) (xLit 8 1 [.int .i64 0, .str ⟨#[]⟩, .str ⟨#[]⟩, .int .i64 0, .int .i64 0, .str ⟨#[]⟩, .nils, .nils] [(0, (s.τ 70))] s.H) s <| .mk fun s =>
  @sOp (some 72) (xBuild [.int .i64 0, .str ⟨#[]⟩, .str ⟨#[]⟩, .int .i64 0, .int .i64 0, .str ⟨#[]⟩, .nils, .nils] [(0, 1, (.int .i64 3)), (1, 1, (s.τ 69)), (7, 1, (s.τ 71))] s.H) s <| .mk fun s =>
  @sOp none (xStore 8 (s.τ 4) (s.τ 72) s.H) s <| .mk fun s =>
  Φ .ret s
def W69_b9 (P : Program) (Φ : Exit → St → Prop) (s : St) : Prop :=
  @sOp (some 75) (xMov (s.τ 6) s.H) s <| .mk fun s =>
  @sOp (some 76) (xBuild [.int .i64 0, .str ⟨#[]⟩, .str ⟨#[]⟩, .int .i64 0, .int .i64 0, .str ⟨#[]⟩, .nils, .nils] [(0, 1, (.int .i64 4)), (1, 1, (s.τ 75))] s.H) s <| .mk fun s =>
  @sOp none (xStore 8 (s.τ 4) (s.τ 76) s.H) s <| .mk fun s =>
  Φ .ret s
def W69_b10 (P : Program) (Φ : Exit → St → Prop) (s : St) : Prop :=
  @sOp (some 79) (xMov (s.τ 6) s.H) s <| .mk fun s =>
  @sOp (some 80) (xBuild [.int .i64 0, .str ⟨#[]⟩, .str ⟨#[]⟩, .int .i64 0, .int .i64 0, .str ⟨#[]⟩, .nils, .nils] [(0, 1, (.int .i64 5)), (1, 1, (s.τ 79))] s.H) s <| .mk fun s =>
  @sOp none (xStore 8 (s.τ 4) (s.τ 80) s.H) s <| .mk fun s =>
  Φ .ret s
def W69_c11 (P : Program) (Φ : Exit → St → Prop) (s : St) : Prop :=
  @sOp (some 88) (xIx 1 (s.τ 84) (s.τ 87) s.H) s <| .mk fun u6 =>
  @sOp (some 89) (xLoad 1 false (u6.τ 88) u6.H) u6 <| .mk fun u7 =>
  @sOp (some 90) (xBuild [.int .i64 0, .str ⟨#[]⟩, .str ⟨#[]⟩, .int .i64 0, .int .i64 0, .str ⟨#[]⟩, .nils, .nils] [(0, 1, (.int .i64 6)), (1, 1, (u7.τ 83)), (2, 1, (u7.τ 89))] u7.H) u7 <| .mk fun u8 =>
  @sOp none (xStore 8 (u8.τ 4) (u8.τ 90) u8.H) u8 <| .mk fun s =>
  Φ .ret s
def W69_c12 (P : Program) (Φ : Exit → St → Prop) (u1 : St) (s : St) : Prop :=
  @sChk (compat ([84] ++ (occ (.func 65 []) ++ occL []), [84] ++ (occ (.func 65 []) ++ occL [])) (occ (s.τ 2), [])) <| .mk <|
  @sOp (some 85) (xFld 2 (s.τ 2) s.H) s <| .mk fun u3 =>
  @sChk (compat ([84] ++ (occ (.func 65 []) ++ occL []), [84] ++ (occ (.func 65 []) ++ occL [])) (occ (u3.τ 85), [])) <| .mk <|
  @sOp (some 86) (xLoad 1 false (u3.τ 85) u3.H) u3 <| .mk fun u4 =>
  @sCall0 P (.func 67 []) [(u4.τ 86), (.int .i64 2)] (some 87) u4 ⟨W69_c11 P Φ⟩
def W69_b13 (P : Program) (Φ : Exit → St → Prop) (s : St) : Prop :=
  @sOp (some 83) (xMov (s.τ 6) s.H) s <| .mk fun u1 =>
  @sCall0 P (.func 65 []) [] (some 84) u1 ⟨W69_c12 P Φ u1⟩
def W69_b14 (P : Program) (Φ : Exit → St → Prop) (s : St) : Prop :=
  @sOp (some 93) (xLoad 8 true (s.τ 8) s.H) s <| .mk fun s =>
  @sOp (some 94) (xLit 8 1 [.int .i64 0, .str ⟨#[]⟩, .str ⟨#[]⟩, .int .i64 0, .int .i64 0, .str ⟨#[]⟩, .nils, .nils] [(0, (s.τ 93))] s.H) s <| .mk fun s =>
  @sOp (some 95) (xBuild [.int .i64 0, .str ⟨#[]⟩, .str ⟨#[]⟩, .int .i64 0, .int .i64 0, .str ⟨#[]⟩, .nils, .nils] [(0, 1, (.int .i64 7)), (7, 1, (s.τ 94))] s.H) s <| .mk fun s =>
  @sOp none (xStore 8 (s.τ 4) (s.τ 95) s.H) s <| .mk fun s =>
  Φ .ret s
def W69_b15 (P : Program) (Φ : Exit → St → Prop) (s : St) : Prop :=
  @sOp (some 98) (xBuild [.int .i64 0, .str ⟨#[]⟩, .str ⟨#[]⟩, .int .i64 0, .int .i64 0, .str ⟨#[]⟩, .nils, .nils] [(0, 1, (.int .i64 8))] s.H) s <| .mk fun s =>
  @sOp none (xStore 8 (s.τ 4) (s.τ 98) s.H) s <| .mk fun s =>
  Φ .ret s
def W69_c16 (P : Program) (Φ : Exit → St → Prop) (u0 : St) (u1 : St) (u2 : St) (u3 : St) (s : St) : Prop :=
  @sChk (compat ([103] ++ (occ (.func 66 []) ++ occL []), [103] ++ (occ (.func 66 []) ++ occL [])) (occ (s.τ 8), [])) <| .mk <|
  @sChk (compat ([104] ++ (occ (.func 88 []) ++ occL [(u3.τ 102), (u3.τ 103)]), [104] ++ (occ (.func 88 []) ++ occL [(u3.τ 102), (u3.τ 103)])) (occ (s.τ 8), [])) <| .mk <|
  @sOp (some 105) (xLoad 8 true (s.τ 8) s.H) s <| .mk fun u5 =>
  @sChk (compat ([103] ++ (occ (.func 66 []) ++ occL []), [103] ++ (occ (.func 66 []) ++ occL [])) (occ (u5.τ 9), [])) <| .mk <|
  @sChk (compat ([104] ++ (occ (.func 88 []) ++ occL [(u3.τ 102), (u3.τ 103)]), [104] ++ (occ (.func 88 []) ++ occL [(u3.τ 102), (u3.τ 103)])) (occ (u5.τ 9), [])) <| .mk <|
  @sOp (some 106) (xLoad 8 true (u5.τ 9) u5.H) u5 <| .mk fun u6 =>
  @sChk (compat (occ (u0.τ 2), []) ([107] ++ occL [(u6.τ 105), (u6.τ 106)], [107] ++ occL [(u6.τ 105), (u6.τ 106)])) <| .mk <|
  @sChk (compat (occ (u1.τ 101), []) ([107] ++ occL [(u6.τ 105), (u6.τ 106)], [107] ++ occL [(u6.τ 105), (u6.τ 106)])) <| .mk <|
  @sChk (compat ([103] ++ (occ (.func 66 []) ++ occL []), [103] ++ (occ (.func 66 []) ++ occL [])) ([107] ++ occL [(u6.τ 105), (u6.τ 106)], [107] ++ occL [(u6.τ 105), (u6.τ 106)])) <| .mk <|
  @sChk (compat ([104] ++ (occ (.func 88 []) ++ occL [(u3.τ 102), (u3.τ 103)]), [104] ++ (occ (.func 88 []) ++ occL [(u3.τ 102), (u3.τ 103)])) ([107] ++ occL [(u6.τ 105), (u6.τ 106)], [107] ++ occL [(u6.τ 105), (u6.τ 106)])) <| .mk <|
  @sOp (some 107) (xLit 8 2 [.int .i64 0, .str ⟨#[]⟩, .str ⟨#[]⟩, .int .i64 0, .int .i64 0, .str ⟨#[]⟩, .nils, .nils] [(0, (u6.τ 105)), (1, (u6.τ 106))] u6.H) u6 <| .mk fun u7 =>
  @sOp (some 108) (xBuild [.int .i64 0, .str ⟨#[]⟩, .str ⟨#[]⟩, .int .i64 0, .int .i64 0, .str ⟨#[]⟩, .nils, .nils] [(0, 1, (.int .i64 9)), (3, 4, (u7.τ 104)), (7, 1, (u7.τ 107))] u7.H) u7 <| .mk fun u8 =>
  @sOp none (xStore 8 (u8.τ 4) (u8.τ 108) u8.H) u8 <| .mk fun s =>
  Φ .ret s
def W69_c17 (P : Program) (Φ : Exit → St → Prop) (u0 : St) (u1 : St) (u2 : St) (s : St) : Prop :=
  @sCall0 P (.func 88 []) [(s.τ 102), (s.τ 103)] (some 104) s ⟨W69_c16 P Φ u0 u1 u2 s⟩
def W69_b18 (P : Program) (Φ : Exit → St → Prop) (s : St) : Prop :=
  @sOp (some 101) (xFld 3 (s.τ 2) s.H) s <| .mk fun u1 =>
  @sOp (some 102) (xLoad 1 false (u1.τ 101) u1.H) u1 <| .mk fun u2 =>
  @sChk (compat (occ (s.τ 2), []) ([103] ++ (occ (.func 66 []) ++ occL []), [103] ++ (occ (.func 66 []) ++ occL []))) <| .mk <|
  @sChk (compat (occ (u1.τ 101), []) ([103] ++ (occ (.func 66 []) ++ occL []), [103] ++ (occ (.func 66 []) ++ occL []))) <| .mk <|
  @sCall0 P (.func 66 []) [] (some 103) u2 ⟨W69_c17 P Φ s u1 u2⟩
def W69_b19 (P : Program) (Φ : Exit → St → Prop) (s : St) : Prop :=
  @sOp (some 111) (xLoad 8 true (s.τ 8) s.H) s <| .mk fun s =>
  @sOp (some 112) (xLoad 8 true (s.τ 9) s.H) s <| .mk fun s =>
  @sOp (some 113) (xLit 8 2 [.int .i64 0, .str ⟨#[]⟩, .str ⟨#[]⟩, .int .i64 0, .int .i64 0, .str ⟨#[]⟩, .nils, .nils] [(0, (s.τ 111)), (1, (s.τ 112))] s.H) s <| .mk fun s =>
  @sOp (some 114) (xBuild [.int .i64 0, .str ⟨#[]⟩, .str ⟨#[]⟩, .int .i64 0, .int .i64 0, .str ⟨#[]⟩, .nils, .nils] [(0, 1, (.int .i64 10)), (7, 1, (s.τ 113))] s.H) s <| .mk fun s =>
  @sOp none (xStore 8 (s.τ 4) (s.τ 114) s.H) s <| .mk fun s =>
  Φ .ret s
def W69_b20 (P : Program) (Φ : Exit → St → Prop) (s : St) : Prop :=
  @sOp (some 118) (xLoad 8 true (s.τ 8) s.H) s <| .mk fun s =>
  @sOp (some 119) (xLoad 8 true (s.τ 9) s.H) s <| .mk fun s =>
  @sOp (some 120) (xLit 8 2 [.int .i64 0, .str ⟨#[]⟩, .str ⟨#[]⟩, .int .i64 0, .int .i64 0, .str ⟨#[]⟩, .nils, .nils] [(0, (s.τ 118)), (1, (s.τ 119))] s.H) s <| .mk fun s =>
  @sOp (some 121) (xBuild [.int .i64 0, .str ⟨#[]⟩, .str ⟨#[]⟩, .int .i64 0, .int .i64 0, .str ⟨#[]⟩, .nils, .nils] [(0, 1, (.int .i64 11)), (7, 1, (s.τ 120))] s.H) s <| .mk fun s =>
  @sOp none (xStore 8 (s.τ 4) (s.τ 121) s.H) s <| .mk fun s =>
  Φ .ret s
def W69_b21 (P : Program) (Φ : Exit → St → Prop) (s : St) : Prop :=
  @sOp (some 124) (xMov (s.τ 7) s.H) s <| .mk fun s =>
  @sOp (some 125) (xBuild [.int .i64 0, .str ⟨#[]⟩, .str ⟨#[]⟩, .int .i64 0, .int .i64 0, .str ⟨#[]⟩, .nils, .nils] [(0, 1, (.int .i64 13)), (1, 1, (s.τ 124))] s.H) s <| .mk fun s =>
  @sOp none (xStore 8 (s.τ 4) (s.τ 125) s.H) s <| .mk fun s =>
  Φ .ret s
def W69_b22 (P : Program) (Φ : Exit → St → Prop) (s : St) : Prop :=
  @sOp (some 128) (xBuild [.int .i64 0, .str ⟨#[]⟩, .str ⟨#[]⟩, .int .i64 0, .int .i64 0, .str ⟨#[]⟩, .nils, .nils] [(0, 1, (.int .i64 0))] s.H) s <| .mk fun s =>
  @sOp none (xStore 8 (s.τ 4) (s.τ 128) s.H) s <| .mk fun s =>
  Φ .ret s
def W69_b23 (P : Program) (Φ : Exit → St → Prop) (s : St) : Prop :=
  @sOp (some 129) (xLoad 8 true (s.τ 8) s.H) s <| .mk fun s =>
  @sOp (some 130) (xLoad 8 true (s.τ 9) s.H) s <| .mk fun s =>
  @sOp (some 131) (xLit 8 2 [.int .i64 0, .str ⟨#[]⟩, .str ⟨#[]⟩, .int .i64 0, .int .i64 0, .str ⟨#[]⟩, .nils, .nils] [(0, (s.τ 129)), (1, (s.τ 130))] s.H) s <| .mk fun s =>
  @sOp (some 132) (xBuild [.int .i64 0, .str ⟨#[]⟩, .str ⟨#[]⟩, .int .i64 0, .int .i64 0, .str ⟨#[]⟩, .nils, .nils] [(0, 1, (.int .i64 12)), (7, 1, (s.τ 131))] s.H) s <| .mk fun s =>
  @sOp none (xStore 8 (s.τ 4) (s.τ 132) s.H) s <| .mk fun s =>
  Φ .ret s
def W69_b24 (P : Program) (Φ : Exit → St → Prop) (s : St) : Prop :=
  @sOp (some 127) (xBin .eql false (s.τ 36) (.int .i64 17) s.H) s <| .mk fun s =>
  @sOp (some 126) (xMov (s.τ 127) s.H) s <| .mk fun s =>
  @sIf (s.τ 126) ⟨W69_b22 P Φ s⟩ ⟨W69_b23 P Φ s⟩
def W69_b25 (P : Program) (Φ : Exit → St → Prop) (s : St) : Prop :=
  @sOp (some 123) (xBin .eql false (s.τ 36) (.int .i64 16) s.H) s <| .mk fun s =>
  @sOp (some 122) (xMov (s.τ 123) s.H) s <| .mk fun s =>
  @sIf (s.τ 122) ⟨W69_b21 P Φ s⟩ ⟨W69_b24 P Φ s⟩
def W69_k26 (P : Program) (Φ : Exit → St → Prop) (s : St) : Prop :=
  @sIf (s.τ 115) ⟨W69_b20 P Φ s⟩ ⟨W69_b25 P Φ s⟩
def W69_b27 (P : Program) (Φ : Exit → St → Prop) (s : St) : Prop :=
  @sOp (some 117) (xBin .eql false (s.τ 36) (.int .i64 15) s.H) s <| .mk fun s =>
  @sOp (some 115) (xMov (s.τ 117) s.H) s <| .mk fun s =>
  W69_k26 P Φ s
def W69_b28 (P : Program) (Φ : Exit → St → Prop) (s : St) : Prop :=
  @sOp (some 116) (xBin .eql false (s.τ 36) (.int .i64 14) s.H) s <| .mk fun s =>
  @sOp (some 115) (xMov (s.τ 116) s.H) s <| .mk fun s =>
  @sIf (s.τ 115) ⟨W69_k26 P Φ s⟩ ⟨W69_b27 P Φ s⟩
def W69_b29 (P : Program) (Φ : Exit → St → Prop) (s : St) : Prop :=
  @sOp (some 110) (xBin .eql false (s.τ 36) (.int .i64 13) s.H) s <| .mk fun s =>
  @sOp (some 109) (xMov (s.τ 110) s.H) s <| .mk fun s =>
  @sIf (s.τ 109) ⟨W69_b19 P Φ s⟩ ⟨W69_b28 P Φ s⟩
def W69_b30 (P : Program) (Φ : Exit → St → Prop) (s : St) : Prop :=
  @sOp (some 100) (xBin .eql false (s.τ 36) (.int .i64 12) s.H) s <| .mk fun s =>
  @sOp (some 99) (xMov (s.τ 100) s.H) s <| .mk fun s =>
  @sIf (s.τ 99) ⟨W69_b18 P Φ s⟩ ⟨W69_b29 P Φ s⟩
def W69_b31 (P : Program) (Φ : Exit → St → Prop) (s : St) : Prop :=
  @sOp (some 97) (xBin .eql false (s.τ 36) (.int .i64 11) s.H) s <| .mk fun s =>
  @sOp (some 96) (xMov (s.τ 97) s.H) s <| .mk fun s =>
  @sIf (s.τ 96) ⟨W69_b15 P Φ s⟩ ⟨W69_b30 P Φ s⟩
def W69_b32 (P : Program) (Φ : Exit → St → Prop) (s : St) : Prop :=
  @sOp (some 92) (xBin .eql false (s.τ 36) (.int .i64 10) s.H) s <| .mk fun s =>
  @sOp (some 91) (xMov (s.τ 92) s.H) s <| .mk fun s =>
  @sIf (s.τ 91) ⟨W69_b14 P Φ s⟩ ⟨W69_b31 P Φ s⟩
def W69_b33 (P : Program) (Φ : Exit → St → Prop) (s : St) : Prop :=
  @sOp (some 82) (xBin .eql false (s.τ 36) (.int .i64 9) s.H) s <| .mk fun s =>
  @sOp (some 81) (xMov (s.τ 82) s.H) s <| .mk fun s =>
  @sIf (s.τ 81) ⟨W69_b13 P Φ s⟩ ⟨W69_b32 P Φ s⟩
def W69_b34 (P : Program) (Φ : Exit → St → Prop) (s : St) : Prop :=
  @sOp (some 78) (xBin .eql false (s.τ 36) (.int .i64 8) s.H) s <| .mk fun s =>
  @sOp (some 77) (xMov (s.τ 78) s.H) s <| .mk fun s =>
  @sIf (s.τ 77) ⟨W69_b10 P Φ s⟩ ⟨W69_b33 P Φ s⟩
def W69_b35 (P : Program) (Φ : Exit → St → Prop) (s : St) : Prop :=
  @sOp (some 74) (xBin .eql false (s.τ 36) (.int .i64 7) s.H) s <| .mk fun s =>
  @sOp (some 73) (xMov (s.τ 74) s.H) s <| .mk fun s =>
  @sIf (s.τ 73) ⟨W69_b9 P Φ s⟩ ⟨W69_b34 P Φ s⟩
def W69_k36 (P : Program) (Φ : Exit → St → Prop) (s : St) : Prop :=
  @sIf (s.τ 66) ⟨W69_b8 P Φ s⟩ ⟨W69_b35 P Φ s⟩
def W69_b37 (P : Program) (Φ : Exit → St → Prop) (s : St) : Prop :=
  @sOp (some 68) (xBin .eql false (s.τ 36) (.int .i64 6) s.H) s <| .mk fun s =>
  @sOp (some 66) (xMov (s.τ 68) s.H) s <| .mk fun s =>
  W69_k36 P Φ s
def W69_b38 (P : Program) (Φ : Exit → St → Prop) (s : St) : Prop :=
  @sOp (some 67) (xBin .eql false (s.τ 36) (.int .i64 5) s.H) s <| .mk fun s =>
  @sOp (some 66) (xMov (s.τ 67) s.H) s <| .mk fun s =>
  @sIf (s.τ 66) ⟨W69_k36 P Φ s⟩ ⟨W69_b37 P Φ s⟩
def W69_b39 (P : Program) (Φ : Exit → St → Prop) (s : St) : Prop :=
  @sOp (some 59) (xBin .eql false (s.τ 36) (.int .i64 4) s.H) s <| .mk fun s =>
  @sOp (some 58) (xMov (s.τ 59) s.H) s <| .mk fun s =>
  @sIf (s.τ 58) ⟨W69_b7 P Φ s⟩ ⟨W69_b38 P Φ s⟩
def W69_k40 (P : Program) (Φ : Exit → St → Prop) (s : St) : Prop :=
  @sIf (s.τ 47) ⟨W69_b4 P Φ s⟩ ⟨W69_b39 P Φ s⟩
def W69_b41 (P : Program) (Φ : Exit → St → Prop) (s : St) : Prop :=
  @sOp (some 49) (xBin .eql false (s.τ 36) (.int .i64 3) s.H) s <| .mk fun s =>
  @sOp (some 47) (xMov (s.τ 49) s.H) s <| .mk fun s =>
  W69_k40 P Φ s
def W69_b42 (P : Program) (Φ : Exit → St → Prop) (s : St) : Prop :=
  @sOp (some 48) (xBin .eql false (s.τ 36) (.int .i64 2) s.H) s <| .mk fun s =>
  @sOp (some 47) (xMov (s.τ 48) s.H) s <| .mk fun s =>
  @sIf (s.τ 47) ⟨W69_k40 P Φ s⟩ ⟨W69_b41 P Φ s⟩
def W69_k43 (P : Program) (Φ : Exit → St → Prop) (s : St) : Prop :=
  @sIf (s.τ 37) ⟨W69_b2 P Φ s⟩ ⟨W69_b42 P Φ s⟩
def W69_b44 (P : Program) (Φ : Exit → St → Prop) (s : St) : Prop :=
  @sOp (some 39) (xBin .eql false (s.τ 36) (.int .i64 1) s.H) s <| .mk fun s =>
  @sOp (some 37) (xMov (s.τ 39) s.H) s <| .mk fun s =>
  W69_k43 P Φ s
def W69_c45 (P : Program) (Φ : Exit → St → Prop) (s : St) : Prop :=
  @sOp (some 38) (xBin .eql false (s.τ 36) (.int .i64 0) s.H) s <| .mk fun s =>
  @sOp (some 37) (xMov (s.τ 38) s.H) s <| .mk fun s =>
  @sIf (s.τ 37) ⟨W69_k43 P Φ s⟩ ⟨W69_b44 P Φ s⟩
def W69_c46 (P : Program) (Φ : Exit → St → Prop) (u0 : St) (u2 : St) (u3 : St) (u5 : St) (s : St) : Prop :=
  @sChk (compat (occ (u0.τ 2), []) ([8], [8])) <| .mk <|
  @sChk (compat ([30] ++ (occ (.func 87 []) ++ occL [(u2.τ 28), (.int .i64 0), (u2.τ 29)]), [30] ++ (occ (.func 87 []) ++ occL [(u2.τ 28), (.int .i64 0), (u2.τ 29)])) ([8], [8])) <| .mk <|
  @sChk (compat (occ (u3.τ 2), []) ([8], [8])) <| .mk <|
  @sChk (compat ([33] ++ (occ (.func 87 []) ++ occL [(u5.τ 31), (.int .i64 1), (u5.τ 32)]), [33] ++ (occ (.func 87 []) ++ occL [(u5.τ 31), (.int .i64 1), (u5.τ 32)])) ([8], [8])) <| .mk <|
  @sOp (some 8) (xAlloc 8 73 [.int .i64 0, .str ⟨#[]⟩, .str ⟨#[]⟩, .int .i64 0, .int .i64 0, .str ⟨#[]⟩, .nils, .nils] s.H) s <| .mk fun u7 =>
  @sChk (compat (occ (u0.τ 2), []) ([9], [9])) <| .mk <|
  @sChk (compat ([30] ++ (occ (.func 87 []) ++ occL [(u2.τ 28), (.int .i64 0), (u2.τ 29)]), [30] ++ (occ (.func 87 []) ++ occL [(u2.τ 28), (.int .i64 0), (u2.τ 29)])) ([9], [9])) <| .mk <|
  @sChk (compat (occ (u3.τ 2), []) ([9], [9])) <| .mk <|
  @sChk (compat ([33] ++ (occ (.func 87 []) ++ occL [(u5.τ 31), (.int .i64 1), (u5.τ 32)]), [33] ++ (occ (.func 87 []) ++ occL [(u5.τ 31), (.int .i64 1), (u5.τ 32)])) ([9], [9])) <| .mk <|
  @sChk (compat ([8], [8]) ([9], [9])) <| .mk <|
  @sOp (some 9) (xAlloc 9 73 [.int .i64 0, .str ⟨#[]⟩, .str ⟨#[]⟩, .int .i64 0, .int .i64 0, .str ⟨#[]⟩, .nils, .nils] u7.H) u7 <| .mk fun u8 =>
  @sOp none (xStore 8 (u8.τ 8) (u8.τ 30) u8.H) u8 <| .mk fun u9 =>
  @sOp none (xStore 8 (u9.τ 9) (u9.τ 33) u9.H) u9 <| .mk fun s =>
  @sOp (some 34) (xFld 0 (s.τ 2) s.H) s <| .mk fun s =>
  @sOp (some 35) (xLoad 1 false (s.τ 34) s.H) s <| .mk fun s =>
  @sCall P (.func 67 []) [(s.τ 35), (.int .i64 20)] (some 36) s ⟨W69_c45 P Φ⟩
def W69_c47 (P : Program) (Φ : Exit → St → Prop) (u0 : St) (u2 : St) (s : St) : Prop :=
  @sChk (compat ([30] ++ (occ (.func 87 []) ++ occL [(u2.τ 28), (.int .i64 0), (u2.τ 29)]), [30] ++ (occ (.func 87 []) ++ occL [(u2.τ 28), (.int .i64 0), (u2.τ 29)])) (occ (s.τ 2), [])) <| .mk <|
  @sOp (some 31) (xLoad 5 true (s.τ 2) s.H) s <| .mk fun u4 =>
  @sOp (some 32) (xMov (u4.τ 1) u4.H) u4 <| .mk fun u5 =>
  @sCall0 P (.func 87 []) [(u5.τ 31), (.int .i64 1), (u5.τ 32)] (some 33) u5 ⟨W69_c46 P Φ u0 u2 s u5⟩
def W69_c48 (P : Program) (Φ : Exit → St → Prop) (s : St) : Prop :=
  @sOp (some 26) (xIx 1 (s.τ 22) (s.τ 25) s.H) s <| .mk fun u17 =>
  @sOp (some 27) (xLoad 1 false (u17.τ 26) u17.H) u17 <| .mk fun u18 =>
  @sOp (some 5) (xMov (u18.τ 15) u18.H) u18 <| .mk fun u19 =>
  @sOp (some 6) (xMov (u19.τ 21) u19.H) u19 <| .mk fun u20 =>
  @sOp (some 7) (xMov (u20.τ 27) u20.H) u20 <| .mk fun s =>
  @sOp (some 28) (xLoad 5 true (s.τ 2) s.H) s <| .mk fun u1 =>
  @sOp (some 29) (xMov (u1.τ 1) u1.H) u1 <| .mk fun u2 =>
  @sCall0 P (.func 87 []) [(u2.τ 28), (.int .i64 0), (u2.τ 29)] (some 30) u2 ⟨W69_c47 P Φ s u2⟩
def W69_c49 (P : Program) (Φ : Exit → St → Prop) (u0 : St) (u3 : St) (u4 : St) (u5 : St) (u6 : St) (u9 : St) (u10 : St) (u11 : St) (u12 : St) (s : St) : Prop :=
  @sChk (compat ([10] ++ (occ (.func 66 []) ++ occL []), [10] ++ (occ (.func 66 []) ++ occL [])) (occ (s.τ 2), [])) <| .mk <|
  @sChk (compat ([13] ++ (occ (.func 67 []) ++ occL [(u3.τ 12), (.int .i64 3)]), [13] ++ (occ (.func 67 []) ++ occL [(u3.τ 12), (.int .i64 3)])) (occ (s.τ 2), [])) <| .mk <|
  @sChk (compat ([16] ++ (occ (.func 65 []) ++ occL []), [16] ++ (occ (.func 65 []) ++ occL [])) (occ (s.τ 2), [])) <| .mk <|
  @sChk (compat ([19] ++ (occ (.func 67 []) ++ occL [(u9.τ 18), (.int .i64 2)]), [19] ++ (occ (.func 67 []) ++ occL [(u9.τ 18), (.int .i64 2)])) (occ (s.τ 2), [])) <| .mk <|
  @sChk (compat ([22] ++ (occ (.func 68 []) ++ occL []), [22] ++ (occ (.func 68 []) ++ occL [])) (occ (s.τ 2), [])) <| .mk <|
  @sOp (some 23) (xFld 1 (s.τ 2) s.H) s <| .mk fun u14 =>
  @sChk (compat ([10] ++ (occ (.func 66 []) ++ occL []), [10] ++ (occ (.func 66 []) ++ occL [])) (occ (u14.τ 23), [])) <| .mk <|
  @sChk (compat ([13] ++ (occ (.func 67 []) ++ occL [(u3.τ 12), (.int .i64 3)]), [13] ++ (occ (.func 67 []) ++ occL [(u3.τ 12), (.int .i64 3)])) (occ (u14.τ 23), [])) <| .mk <|
  @sChk (compat ([16] ++ (occ (.func 65 []) ++ occL []), [16] ++ (occ (.func 65 []) ++ occL [])) (occ (u14.τ 23), [])) <| .mk <|
  @sChk (compat ([19] ++ (occ (.func 67 []) ++ occL [(u9.τ 18), (.int .i64 2)]), [19] ++ (occ (.func 67 []) ++ occL [(u9.τ 18), (.int .i64 2)])) (occ (u14.τ 23), [])) <| .mk <|
  @sChk (compat ([22] ++ (occ (.func 68 []) ++ occL []), [22] ++ (occ (.func 68 []) ++ occL [])) (occ (u14.τ 23), [])) <| .mk <|
  @sOp (some 24) (xLoad 1 false (u14.τ 23) u14.H) u14 <| .mk fun u15 =>
  @sChk (compat (occ (u4.τ 10), []) ([25] ++ (occ (.func 67 []) ++ occL [(u15.τ 24), (.int .i64 5)]), [25] ++ (occ (.func 67 []) ++ occL [(u15.τ 24), (.int .i64 5)]))) <| .mk <|
  @sChk (compat (occ (u5.τ 14), []) ([25] ++ (occ (.func 67 []) ++ occL [(u15.τ 24), (.int .i64 5)]), [25] ++ (occ (.func 67 []) ++ occL [(u15.τ 24), (.int .i64 5)]))) <| .mk <|
  @sChk (compat (occ (u10.τ 16), []) ([25] ++ (occ (.func 67 []) ++ occL [(u15.τ 24), (.int .i64 5)]), [25] ++ (occ (.func 67 []) ++ occL [(u15.τ 24), (.int .i64 5)]))) <| .mk <|
  @sChk (compat (occ (u11.τ 20), []) ([25] ++ (occ (.func 67 []) ++ occL [(u15.τ 24), (.int .i64 5)]), [25] ++ (occ (.func 67 []) ++ occL [(u15.τ 24), (.int .i64 5)]))) <| .mk <|
  @sCall0 P (.func 67 []) [(u15.τ 24), (.int .i64 5)] (some 25) u15 ⟨W69_c48 P Φ⟩
def W69_c50 (P : Program) (Φ : Exit → St → Prop) (u0 : St) (u3 : St) (u4 : St) (u5 : St) (u6 : St) (u9 : St) (s : St) : Prop :=
  @sOp (some 20) (xIx 1 (s.τ 16) (s.τ 19) s.H) s <| .mk fun u11 =>
  @sOp (some 21) (xLoad 1 false (u11.τ 20) u11.H) u11 <| .mk fun u12 =>
  @sChk (compat (occ (u4.τ 10), []) ([22] ++ (occ (.func 68 []) ++ occL []), [22] ++ (occ (.func 68 []) ++ occL []))) <| .mk <|
  @sChk (compat (occ (u5.τ 14), []) ([22] ++ (occ (.func 68 []) ++ occL []), [22] ++ (occ (.func 68 []) ++ occL []))) <| .mk <|
  @sChk (compat (occ (s.τ 16), []) ([22] ++ (occ (.func 68 []) ++ occL []), [22] ++ (occ (.func 68 []) ++ occL []))) <| .mk <|
  @sChk (compat (occ (u11.τ 20), []) ([22] ++ (occ (.func 68 []) ++ occL []), [22] ++ (occ (.func 68 []) ++ occL []))) <| .mk <|
  @sCall0 P (.func 68 []) [] (some 22) u12 ⟨W69_c49 P Φ u0 u3 u4 u5 u6 u9 s u11 u12⟩
def W69_c51 (P : Program) (Φ : Exit → St → Prop) (u0 : St) (u3 : St) (u4 : St) (u5 : St) (u6 : St) (s : St) : Prop :=
  @sChk (compat ([10] ++ (occ (.func 66 []) ++ occL []), [10] ++ (occ (.func 66 []) ++ occL [])) (occ (s.τ 2), [])) <| .mk <|
  @sChk (compat ([13] ++ (occ (.func 67 []) ++ occL [(u3.τ 12), (.int .i64 3)]), [13] ++ (occ (.func 67 []) ++ occL [(u3.τ 12), (.int .i64 3)])) (occ (s.τ 2), [])) <| .mk <|
  @sChk (compat ([16] ++ (occ (.func 65 []) ++ occL []), [16] ++ (occ (.func 65 []) ++ occL [])) (occ (s.τ 2), [])) <| .mk <|
  @sOp (some 17) (xFld 1 (s.τ 2) s.H) s <| .mk fun u8 =>
  @sChk (compat ([10] ++ (occ (.func 66 []) ++ occL []), [10] ++ (occ (.func 66 []) ++ occL [])) (occ (u8.τ 17), [])) <| .mk <|
  @sChk (compat ([13] ++ (occ (.func 67 []) ++ occL [(u3.τ 12), (.int .i64 3)]), [13] ++ (occ (.func 67 []) ++ occL [(u3.τ 12), (.int .i64 3)])) (occ (u8.τ 17), [])) <| .mk <|
  @sChk (compat ([16] ++ (occ (.func 65 []) ++ occL []), [16] ++ (occ (.func 65 []) ++ occL [])) (occ (u8.τ 17), [])) <| .mk <|
  @sOp (some 18) (xLoad 1 false (u8.τ 17) u8.H) u8 <| .mk fun u9 =>
  @sChk (compat (occ (u4.τ 10), []) ([19] ++ (occ (.func 67 []) ++ occL [(u9.τ 18), (.int .i64 2)]), [19] ++ (occ (.func 67 []) ++ occL [(u9.τ 18), (.int .i64 2)]))) <| .mk <|
  @sChk (compat (occ (u5.τ 14), []) ([19] ++ (occ (.func 67 []) ++ occL [(u9.τ 18), (.int .i64 2)]), [19] ++ (occ (.func 67 []) ++ occL [(u9.τ 18), (.int .i64 2)]))) <| .mk <|
  @sCall0 P (.func 67 []) [(u9.τ 18), (.int .i64 2)] (some 19) u9 ⟨W69_c50 P Φ u0 u3 u4 u5 u6 u9⟩
def W69_c52 (P : Program) (Φ : Exit → St → Prop) (u0 : St) (u3 : St) (s : St) : Prop :=
  @sOp (some 14) (xIx 1 (s.τ 10) (s.τ 13) s.H) s <| .mk fun u5 =>
  @sOp (some 15) (xLoad 1 false (u5.τ 14) u5.H) u5 <| .mk fun u6 =>
  @sChk (compat (occ (s.τ 10), []) ([16] ++ (occ (.func 65 []) ++ occL []), [16] ++ (occ (.func 65 []) ++ occL []))) <| .mk <|
  @sChk (compat (occ (u5.τ 14), []) ([16] ++ (occ (.func 65 []) ++ occL []), [16] ++ (occ (.func 65 []) ++ occL []))) <| .mk <|
  @sCall0 P (.func 65 []) [] (some 16) u6 ⟨W69_c51 P Φ u0 u3 s u5 u6⟩
def W69_c53 (P : Program) (Φ : Exit → St → Prop) (u0 : St) (s : St) : Prop :=
  @sChk (compat ([10] ++ (occ (.func 66 []) ++ occL []), [10] ++ (occ (.func 66 []) ++ occL [])) (occ (s.τ 2), [])) <| .mk <|
  @sOp (some 11) (xFld 1 (s.τ 2) s.H) s <| .mk fun u2 =>
  @sChk (compat ([10] ++ (occ (.func 66 []) ++ occL []), [10] ++ (occ (.func 66 []) ++ occL [])) (occ (u2.τ 11), [])) <| .mk <|
  @sOp (some 12) (xLoad 1 false (u2.τ 11) u2.H) u2 <| .mk fun u3 =>
  @sCall0 P (.func 67 []) [(u3.τ 12), (.int .i64 3)] (some 13) u3 ⟨W69_c52 P Φ u0 u3⟩
def W69 (P : Program) (Φ : Exit → St → Prop) (s : St) : Prop :=
  @sOp (some 2) (xBox 2 25 (s.τ 0) s.H) s <| .mk fun s =>
  @sOp (some 4) (xAlloc 4 73 [.int .i64 0, .str ⟨#[]⟩, .str ⟨#[]⟩, .int .i64 0, .int .i64 0, .str ⟨#[]⟩, .nils, .nils] s.H) s <| .mk fun s =>
  @sCall0 P (.func 66 []) [] (some 10) s ⟨W69_c53 P Φ s⟩
theorem W69_rs (τ : Nat → AV) (H : Heap) : resV Try.prog τ H [.cell 4 73] = rdV H 8 true (τ 4) := by kernel_rfl
theorem W69_eq (Φ : Exit → St → Prop) (s : St) : awp Try.prog (Try.f69.body.getD .skip) Φ s = W69 Try.prog Φ s := by kernel_rfl

end Go.Proofs.Ytkagfenchknjjaa
