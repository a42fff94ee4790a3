import Derived.Test.YtkagfenchknjjaaGA5
import Derived.Test.YtkagfenchknjjaaProg
import Derived.KernelRfl
set_option linter.unusedVariables false
namespace Go.Proofs.Ytkagfenchknjjaa
open Go Go.Am
-- 70 "penance/penanceref4.Lower"
def W70_b1 (P : Program) (Φ : EP) (s : St) : Prop :=
  @sOp (some 26) (xBuild [.nils, .int .i64 0, .nils, .int .i64 0] [] s.H) s <| .mk fun s =>
  @sOp none (xStore 4 (s.τ 2) (s.τ 26) s.H) s <| .mk fun s =>
  @sOp (some 3) (xMov (.int .i64 3) s.H) s <| .mk fun s =>
  Φ .ret s
def W70_b2 (P : Program) (Φ : EP) (s : St) : Prop :=
  @sOp (some 43) (xBuild [.nils, .int .i64 0, .nils, .int .i64 0] [] s.H) s <| .mk fun s =>
  @sOp none (xStore 4 (s.τ 2) (s.τ 43) s.H) s <| .mk fun s =>
  @sOp (some 3) (xMov (.int .i64 5) s.H) s <| .mk fun s =>
  Φ .ret s
def W70_b3 (P : Program) (Φ : EP) (s : St) : Prop :=
  @sOp (some 99) (xBuild [.nils, .int .i64 0, .nils, .int .i64 0] [] s.H) s <| .mk fun s =>
  @sOp none (xStore 4 (s.τ 2) (s.τ 99) s.H) s <| .mk fun s =>
  @sOp (some 3) (xMov (.int .i64 4) s.H) s <| .mk fun s =>
  Φ .ret s
def W70_b4 (P : Program) (Φ : EP) (s : St) : Prop :=
  @sOp (some 104) (xBuild [.nils, .int .i64 0, .nils, .int .i64 0] [] s.H) s <| .mk fun s =>
  @sOp none (xStore 4 (s.τ 2) (s.τ 104) s.H) s <| .mk fun s =>
  @sOp (some 3) (xMov (.int .i64 6) s.H) s <| .mk fun s =>
  Φ .ret s
def W70_b5 (P : Program) (Φ : EP) (s : St) : Prop :=
  @sOp (some 108) (xBuild [.nils, .int .i64 0, .nils, .int .i64 0] [] s.H) s <| .mk fun s =>
  @sOp none (xStore 4 (s.τ 2) (s.τ 108) s.H) s <| .mk fun s =>
  @sOp (some 3) (xMov (.int .i64 7) s.H) s <| .mk fun s =>
  Φ .ret s
def W70_b6 (P : Program) (Φ : EP) (s : St) : Prop :=
  @sLd 109 4 7 true s <| .mk fun s =>
  @sOp none (xStore 4 (s.τ 2) (s.τ 109) s.H) s <| .mk fun s =>
  @sOp (some 3) (xMov (.int .i64 0) s.H) s <| .mk fun s =>
  Φ .ret s
def W70_c7 (P : Program) (Φ : EP) (s : St) : Prop :=
  @sMv 105 107 s <| .mk fun s =>
  @sIf (s.τ 105) ⟨W70_b5 P Φ s⟩ ⟨W70_b6 P Φ s⟩
def W70_b8 (P : Program) (Φ : EP) (s : St) : Prop :=
  @sLd 106 3 1 true s <| .mk fun s =>
  @sCall P (.func 93 []) [(s.τ 106)] (some 107) s ⟨W70_c7 P Φ⟩
def W70_b9 (P : Program) (Φ : EP) (s : St) : Prop :=
  @sFl 101 3 7 s <| .mk fun s =>
  @sLd 102 1 101 false s <| .mk fun s =>
  @sOp (some 103) (xBin .lss false (s.τ 102) (.int .i64 0) s.H) s <| .mk fun s =>
  @sMv 100 103 s <| .mk fun s =>
  @sIf (s.τ 100) ⟨W70_b4 P Φ s⟩ ⟨W70_b8 P Φ s⟩
def W70_k10 (P : Program) (Φ : EP) (s : St) : Prop :=
  @sMv 95 6 s <| .mk fun s =>
  @sOp (some 96) (xNil (s.τ 95) s.H) s <| .mk fun s =>
  @sFl 97 3 96 s <| .mk fun s =>
  @sLd 98 1 97 false s <| .mk fun s =>
  @sMv 94 98 s <| .mk fun s =>
  @sIf (s.τ 94) ⟨W70_b3 P Φ s⟩ ⟨W70_b9 P Φ s⟩
def W70_c11 (P : Program) (Φ : EP) (L0 : SP) (u0 : St) (u1 : St) (s : St) : Prop :=
  @sChk (compat (occ (u0.τ 7), []) ([91] ++ occL [(s.τ 90)], [91] ++ occL [(s.τ 90)])) <| .mk <|
  @sChk (compat (occ (u1.τ 81), []) ([91] ++ occL [(s.τ 90)], [91] ++ occL [(s.τ 90)])) <| .mk <|
  @sOp (some 91) (xLit 9 1 [.int .i64 0, .int .i64 0, .int .i64 0, .str ⟨#[]⟩, .int .i64 0, .int .i64 0, .str ⟨#[]⟩, .nils, .nils] [(0, (s.τ 90))] s.H) s <| .mk fun u11 =>
  @sOp (some 92) (xApp P 34 9 120 (some 92) (u11.τ 82) (u11.τ 91) u11.H) u11 <| .mk fun u12 =>
  @sFl 93 2 7 u12 <| .mk fun u13 =>
  @sOp none (xStore 1 (u13.τ 93) (u13.τ 92) u13.H) u13 <| .mk fun s =>
  @sMv 79 9 s <| .mk fun s =>
  @sOp (some 80) (xBin .add false (s.τ 79) (.int .i64 1) s.H) s <| .mk fun s =>
  @sMv 9 80 s <| .mk fun s =>
  L0 s
def W70_b12 (P : Program) (Φ : EP) (L0 : SP) (s : St) : Prop :=
  @sFl 81 2 7 s <| .mk fun u1 =>
  @sLd 82 1 81 false u1 <| .mk fun u2 =>
  @sMv 83 6 u2 <| .mk fun u3 =>
  @sFl 84 2 1 u3 <| .mk fun u4 =>
  @sLd 85 1 84 false u4 <| .mk fun u5 =>
  @sMv 86 9 u5 <| .mk fun u6 =>
  @sOp (some 87) (xIx 9 (u6.τ 85) (u6.τ 86) u6.H) u6 <| .mk fun u7 =>
  @sFl 88 1 87 u7 <| .mk fun u8 =>
  @sLd 89 8 88 true u8 <| .mk fun u9 =>
  @sChk (compat (occ (s.τ 7), []) (cfp 90 92 [(u9.τ 83), (u9.τ 89)])) <| .mk <|
  @sChk (compat (occ (u1.τ 81), []) (cfp 90 92 [(u9.τ 83), (u9.τ 89)])) <| .mk <|
  @sCall0 P (.func 92 []) [(u9.τ 83), (u9.τ 89)] (some 90) u9 ⟨W70_c11 P Φ L0 s u1⟩
def W70_l13 (P : Program) (Φ : EP) (L0 : SP) (s : St) : Prop :=
  @sMv 74 9 s <| .mk fun s =>
  @sFl 75 2 1 s <| .mk fun s =>
  @sLd 76 1 75 false s <| .mk fun s =>
  @sOp (some 77) (xLen (s.τ 76) s.H) s <| .mk fun s =>
  @sOp (some 78) (xBin .lss false (s.τ 74) (s.τ 77) s.H) s <| .mk fun s =>
  @sIf (s.τ 78) ⟨W70_b12 P Φ L0 s⟩ ⟨W70_k10 P Φ s⟩
def W70_k14 (P : Program) (Φ : EP) (s : St) : Prop :=
  @sOp (some 9) (xMov (.int .i64 0) s.H) s <| .mk fun s =>
  @sLoop s ⟨fun L0 s => W70_l13 P Φ L0 s⟩
def W70_b15 (P : Program) (Φ : EP) (L0 : SP) (s : St) : Prop :=
  @sFl 63 0 7 s <| .mk fun u1 =>
  @sLd 64 1 63 false u1 <| .mk fun u2 =>
  @sFl 65 0 1 u2 <| .mk fun u3 =>
  @sLd 66 1 65 false u3 <| .mk fun u4 =>
  @sMv 67 8 u4 <| .mk fun u5 =>
  @sOp (some 68) (xIx 2 (u5.τ 66) (u5.τ 67) u5.H) u5 <| .mk fun u6 =>
  @sFl 69 1 68 u6 <| .mk fun u7 =>
  @sLd 70 1 69 false u7 <| .mk fun u8 =>
  @sChk (compat (occ (s.τ 7), []) ([71] ++ occL [(u8.τ 70)], [71] ++ occL [(u8.τ 70)])) <| .mk <|
  @sChk (compat (occ (u1.τ 63), []) ([71] ++ occL [(u8.τ 70)], [71] ++ occL [(u8.τ 70)])) <| .mk <|
  @sOp (some 71) (xLit 1 1 [.int .i64 0] [(0, (u8.τ 70))] u8.H) u8 <| .mk fun u9 =>
  @sOp (some 72) (xApp P 3 1 8 (some 72) (u9.τ 64) (u9.τ 71) u9.H) u9 <| .mk fun u10 =>
  @sFl 73 0 7 u10 <| .mk fun u11 =>
  @sOp none (xStore 1 (u11.τ 73) (u11.τ 72) u11.H) u11 <| .mk fun s =>
  @sMv 61 8 s <| .mk fun s =>
  @sOp (some 62) (xBin .add false (s.τ 61) (.int .i64 1) s.H) s <| .mk fun s =>
  @sMv 8 62 s <| .mk fun s =>
  L0 s
def W70_l16 (P : Program) (Φ : EP) (L0 : SP) (s : St) : Prop :=
  @sMv 56 8 s <| .mk fun s =>
  @sFl 57 0 1 s <| .mk fun s =>
  @sLd 58 1 57 false s <| .mk fun s =>
  @sOp (some 59) (xLen (s.τ 58) s.H) s <| .mk fun s =>
  @sOp (some 60) (xBin .lss false (s.τ 56) (s.τ 59) s.H) s <| .mk fun s =>
  @sIf (s.τ 60) ⟨W70_b15 P Φ L0 s⟩ ⟨W70_k14 P Φ s⟩
def W70_c17 (P : Program) (Φ : EP) (u0 : St) (u1 : St) (u2 : St) (u4 : St) (s : St) : Prop :=
  @sOp (some 55) (xBuild [.nils, .int .i64 0, .nils, .int .i64 0] [(1, 1, (s.τ 52)), (3, 1, (s.τ 54))] s.H) s <| .mk fun u6 =>
  @sChk (compat (occ (u0.τ 1), []) ([7], [7])) <| .mk <|
  @sChk (compat (occ (u1.τ 50), []) ([7], [7])) <| .mk <|
  @sChk (compat (occ (u2.τ 51), []) ([7], [7])) <| .mk <|
  @sChk (compat ([54] ++ (occ (.func 91 []) ++ occL [(u4.τ 53), (.str ⟨#[109, 97, 105, 110]⟩)]), [54] ++ (occ (.func 91 []) ++ occL [(u4.τ 53), (.str ⟨#[109, 97, 105, 110]⟩)])) ([7], [7])) <| .mk <|
  @sOp (some 7) (xAlloc 7 106 [.nils, .int .i64 0, .nils, .int .i64 0] u6.H) u6 <| .mk fun u7 =>
  @sOp none (xStore 4 (u7.τ 7) (u7.τ 55) u7.H) u7 <| .mk fun s =>
  @sOp (some 8) (xMov (.int .i64 0) s.H) s <| .mk fun s =>
  @sLoop s ⟨fun L0 s => W70_l16 P Φ L0 s⟩
def W70_b18 (P : Program) (Φ : EP) (s : St) : Prop :=
  @sMv 44 4 s <| .mk fun s =>
  @sFl 45 1 1 s <| .mk fun s =>
  @sLd 46 1 45 false s <| .mk fun s =>
  @sMv 47 5 s <| .mk fun s =>
  @sOp (some 48) (xBuild [.nils, .nils, .nils, .bool false] [(0, 1, (s.τ 44)), (1, 1, (s.τ 46)), (2, 1, (s.τ 47))] s.H) s <| .mk fun s =>
  @sOp (some 49) (xBox 49 133 (s.τ 48) s.H) s <| .mk fun s =>
  @sMv 6 49 s <| .mk fun s =>
  @sFl 50 1 1 s <| .mk fun u1 =>
  @sLd 51 1 50 false u1 <| .mk fun u2 =>
  @sOp (some 52) (xLen (u2.τ 51) u2.H) u2 <| .mk fun u3 =>
  @sMv 53 5 u3 <| .mk fun u4 =>
  @sChk (compat (occ (s.τ 1), []) ([54] ++ (occ (.func 91 []) ++ occL [(u4.τ 53), (.str ⟨#[109, 97, 105, 110]⟩)]), [54] ++ (occ (.func 91 []) ++ occL [(u4.τ 53), (.str ⟨#[109, 97, 105, 110]⟩)]))) <| .mk <|
  @sChk (compat (occ (u1.τ 50), []) ([54] ++ (occ (.func 91 []) ++ occL [(u4.τ 53), (.str ⟨#[109, 97, 105, 110]⟩)]), [54] ++ (occ (.func 91 []) ++ occL [(u4.τ 53), (.str ⟨#[109, 97, 105, 110]⟩)]))) <| .mk <|
  @sChk (compat (occ (u2.τ 51), []) ([54] ++ (occ (.func 91 []) ++ occL [(u4.τ 53), (.str ⟨#[109, 97, 105, 110]⟩)]), [54] ++ (occ (.func 91 []) ++ occL [(u4.τ 53), (.str ⟨#[109, 97, 105, 110]⟩)]))) <| .mk <|
  @sCall0 P (.func 91 []) [(u4.τ 53), (.str ⟨#[109, 97, 105, 110]⟩)] (some 54) u4 ⟨W70_c17 P Φ s u1 u2 u4⟩
def W70_c19 (P : Program) (Φ : EP) (s : St) : Prop :=
  @sOp (some 42) (xPick (s.τ 39) (.bool true) (s.τ 41) s.H) s <| .mk fun s =>
  @sIf (s.τ 42) ⟨W70_b2 P Φ s⟩ ⟨W70_b18 P Φ s⟩
def W70_c20 (P : Program) (Φ : EP) (s : St) : Prop :=
  @sGrd (guardOf (s.τ 39) false) (some 41) s ⟨fun s K => @sCall P (.func 90 []) [(s.τ 40)] (some 41) s ⟨K⟩⟩ ⟨W70_c19 P Φ⟩
def W70_c21 (P : Program) (Φ : EP) (s : St) : Prop :=
  @sOp (some 38) (xPick (s.τ 34) (.bool true) (s.τ 37) s.H) s <| .mk fun s =>
  @sMv 39 38 s <| .mk fun s =>
  @sGm 40 5 39 false s ⟨W70_c20 P Φ⟩
def W70_c22 (P : Program) (Φ : EP) (s : St) : Prop :=
  @sGrd (guardOf (s.τ 34) false) (some 37) s ⟨fun s K => @sCall P (.func 90 []) [(s.τ 36)] (some 37) s ⟨K⟩⟩ ⟨W70_c21 P Φ⟩
def W70_c23 (P : Program) (Φ : EP) (s : St) : Prop :=
  @sGl 36 1 35 34 false false s ⟨W70_c22 P Φ⟩
def W70_c24 (P : Program) (Φ : EP) (s : St) : Prop :=
  @sMv 34 33 s <| .mk fun s =>
  @sGf 35 1 1 34 false s ⟨W70_c23 P Φ⟩
def W70_c25 (P : Program) (Φ : EP) (s : St) : Prop :=
  @sMv 27 29 s <| .mk fun s =>
  @sOp (some 30) (xExt (s.τ 27) 0 s.H) s <| .mk fun s =>
  @sOp (some 31) (xExt (s.τ 27) 1 s.H) s <| .mk fun s =>
  @sMv 4 30 s <| .mk fun s =>
  @sMv 5 31 s <| .mk fun s =>
  @sMv 32 4 s <| .mk fun s =>
  @sCall P (.func 90 []) [(s.τ 32)] (some 33) s ⟨W70_c24 P Φ⟩
def W70_b26 (P : Program) (Φ : EP) (s : St) : Prop :=
  @sLd 28 3 1 true s <| .mk fun s =>
  @sCall P (.func 89 []) [(s.τ 28)] (some 29) s ⟨W70_c25 P Φ⟩
def W70_c27 (P : Program) (Φ : EP) (s : St) : Prop :=
  @sOp (some 25) (xPick (s.τ 20) (.bool true) (s.τ 24) s.H) s <| .mk fun s =>
  @sIf (s.τ 25) ⟨W70_b1 P Φ s⟩ ⟨W70_b26 P Φ s⟩
def W70_c28 (P : Program) (Φ : EP) (s : St) : Prop :=
  @sGrd (guardOf (s.τ 20) false) (some 24) s ⟨fun s K => @sOp (some 24) (xBin .gtr false (s.τ 23) (.int .i64 20) s.H) s ⟨K⟩⟩ ⟨W70_c27 P Φ⟩
def W70_c29 (P : Program) (Φ : EP) (s : St) : Prop :=
  @sGrd (guardOf (s.τ 20) false) (some 23) s ⟨fun s K => @sOp (some 23) (xLen (s.τ 22) s.H) s ⟨K⟩⟩ ⟨W70_c28 P Φ⟩
def W70_c30 (P : Program) (Φ : EP) (s : St) : Prop :=
  @sGl 22 1 21 20 false false s ⟨W70_c29 P Φ⟩
def W70_c31 (P : Program) (Φ : EP) (s : St) : Prop :=
  @sOp (some 19) (xPick (s.τ 14) (.bool true) (s.τ 18) s.H) s <| .mk fun s =>
  @sMv 20 19 s <| .mk fun s =>
  @sGf 21 2 1 20 false s ⟨W70_c30 P Φ⟩
def W70_c32 (P : Program) (Φ : EP) (s : St) : Prop :=
  @sGrd (guardOf (s.τ 14) false) (some 18) s ⟨fun s K => @sOp (some 18) (xBin .gtr false (s.τ 17) (.int .i64 10) s.H) s ⟨K⟩⟩ ⟨W70_c31 P Φ⟩
def W70_c33 (P : Program) (Φ : EP) (s : St) : Prop :=
  @sGrd (guardOf (s.τ 14) false) (some 17) s ⟨fun s K => @sOp (some 17) (xLen (s.τ 16) s.H) s ⟨K⟩⟩ ⟨W70_c32 P Φ⟩
def W70_c34 (P : Program) (Φ : EP) (s : St) : Prop :=
  @sGl 16 1 15 14 false false s ⟨W70_c33 P Φ⟩
def W70 (P : Program) (Φ : EP) (s : St) : Prop :=
  @sOp (some 1) (xBox 1 69 (s.τ 0) s.H) s <| .mk fun s =>
  @sOp (some 2) (xAlloc 2 106 [.nils, .int .i64 0, .nils, .int .i64 0] s.H) s <| .mk fun s =>
  @sOp (some 3) (xMov (.int .i64 0) s.H) s <| .mk fun s =>
  @sFl 10 0 1 s <| .mk fun s =>
  @sLd 11 1 10 false s <| .mk fun s =>
  @sOp (some 12) (xLen (s.τ 11) s.H) s <| .mk fun s =>
  @sOp (some 13) (xBin .gtr false (s.τ 12) (.int .i64 20) s.H) s <| .mk fun s =>
  @sMv 14 13 s <| .mk fun s =>
  @sGf 15 1 1 14 false s ⟨W70_c34 P Φ⟩
theorem W70_rs (τ : Nat → AV) (H : Heap) : resV Try.prog τ H [.cell 2 106, .tmp 3] = ob (ob (rdV H 4 true (τ 2)) fun v => ob (ob (some (τ 3)) fun v => ob (some []) fun vs => some (v :: vs)) fun vs => some (v :: vs)) fun vs => some (.tup vs) := by kernel_rfl
theorem W70_eq (Φ : EP) (s : St) : awp Try.prog (Try.f70.body.getD .skip) Φ s = W70 Try.prog Φ s := by kernel_rfl

-- 73 "penance/term.shapes"

def W73 (P : Program) (Φ : EP) (s : St) : Prop :=
  @sOp (some 0) (xMov (.nils) s.H) s <| .mk fun s =>
  @sOp (some 1) (xBuild [.int .i64 0, .int .i64 0, .bool false, .bool false, .int .i64 0] [] s.H) s <| .mk fun s =>
  @sOp (some 2) (xBuild [.int .i64 0, .int .i64 0, .bool false, .bool false, .int .i64 0] [(0, 1, (.int .i64 2)), (2, 1, (.bool true))] s.H) s <| .mk fun s =>
  @sOp (some 3) (xBuild [.int .i64 0, .int .i64 0, .bool false, .bool false, .int .i64 0] [(0, 1, (.int .i64 1)), (3, 1, (.bool true))] s.H) s <| .mk fun s =>
  @sOp (some 4) (xBuild [.int .i64 0, .int .i64 0, .bool false, .bool false, .int .i64 0] [(0, 1, (.int .i64 3)), (4, 1, (.int .i64 1))] s.H) s <| .mk fun s =>
  @sOp (some 5) (xBuild [.int .i64 0, .int .i64 0, .bool false, .bool false, .int .i64 0] [(0, 1, (.int .i64 3))] s.H) s <| .mk fun s =>
  @sOp (some 6) (xBuild [.int .i64 0, .int .i64 0, .bool false, .bool false, .int .i64 0] [(0, 1, (.int .i64 3))] s.H) s <| .mk fun s =>
  @sOp (some 7) (xBuild [.int .i64 0, .int .i64 0, .bool false, .bool false, .int .i64 0] [(0, 1, (.int .i64 3)), (1, 1, (.int .i64 3))] s.H) s <| .mk fun s =>
  @sOp (some 8) (xBuild [.int .i64 0, .int .i64 0, .bool false, .bool false, .int .i64 0] [(4, 1, (.int .i64 1))] s.H) s <| .mk fun s =>
  @sOp (some 9) (xBuild [.int .i64 0, .int .i64 0, .bool false, .bool false, .int .i64 0] [] s.H) s <| .mk fun s =>
  @sOp (some 10) (xBuild [.int .i64 0, .int .i64 0, .bool false, .bool false, .int .i64 0] [(3, 1, (.bool true)), (4, 1, (.int .i64 2))] s.H) s <| .mk fun s =>
  @sOp (some 11) (xBuild [.int .i64 0, .int .i64 0, .bool false, .bool false, .int .i64 0] [(4, 1, (.int .i64 2))] s.H) s <| .mk fun s =>
  @sOp (some 12) (xBuild [.int .i64 0, .int .i64 0, .bool false, .bool false, .int .i64 0] [(4, 1, (.int .i64 2))] s.H) s <| .mk fun s =>
  @sOp (some 13) (xBuild [.int .i64 0, .int .i64 0, .bool false, .bool false, .int .i64 0] [(4, 1, (.int .i64 2))] s.H) s <| .mk fun s =>
  @sOp (some 14) (xBuild [.int .i64 0, .int .i64 0, .bool false, .bool false, .int .i64 0] [(0, 1, (.int .i64 4))] s.H) s <| .mk fun s =>
  @sOp (some 15) (xBuild [.int .i64 0, .int .i64 0, .bool false, .bool false, .int .i64 0] [(0, 1, (.int .i64 5)), (1, 1, (.int .i64 2)), (2, 1, (.bool true))] s.H) s <| .mk fun s =>
  @sOp (some 16) (xLit 5 15 [.int .i64 0, .int .i64 0, .bool false, .bool false, .int .i64 0] [(0, (s.τ 1)), (1, (s.τ 2)), (2, (s.τ 3)), (3, (s.τ 4)), (4, (s.τ 5)), (5, (s.τ 6)), (6, (s.τ 7)), (7, (s.τ 8)), (8, (s.τ 9)), (9, (s.τ 10)), (10, (s.τ 11)), (11, (s.τ 12)), (12, (s.τ 13)), (13, (s.τ 14)), (14, (s.τ 15))] s.H) s <| .mk fun s =>
  @sMv 0 16 s <| .mk fun s =>
  Φ .ret s
theorem W73_rs (τ : Nat → AV) (H : Heap) : resV Try.prog τ H [.tmp 0] = some (τ 0) := by kernel_rfl
theorem W73_eq (Φ : EP) (s : St) : awp Try.prog (Try.f73.body.getD .skip) Φ s = W73 Try.prog Φ s := by kernel_rfl

-- 74 "(penance/term.bounds).number"
def W74_c1 (P : Program) (Φ : EP) (s : St) : Prop :=
  @sOp (some 17) (xPick (s.τ 12) (s.τ 16) (.bool false) s.H) s <| .mk fun s =>
  @sMv 6 17 s <| .mk fun s =>
  Φ .ret s
def W74_c2 (P : Program) (Φ : EP) (s : St) : Prop :=
  @sGrd (guardOf (s.τ 12) true) (some 16) s ⟨fun s K => @sOp (some 16) (xBin .lss false (s.τ 13) (s.τ 15) s.H) s ⟨K⟩⟩ ⟨W74_c1 P Φ⟩
def W74_c3 (P : Program) (Φ : EP) (s : St) : Prop :=
  @sGl 15 1 14 12 false true s ⟨W74_c2 P Φ⟩
def W74_c4 (P : Program) (Φ : EP) (s : St) : Prop :=
  @sGf 14 0 3 12 true s ⟨W74_c3 P Φ⟩
def W74_b5 (P : Program) (Φ : EP) (s : St) : Prop :=
  @sMv 10 2 s <| .mk fun s =>
  @sOp (some 11) (xBin .geq false (s.τ 10) (.int .i64 0) s.H) s <| .mk fun s =>
  @sMv 12 11 s <| .mk fun s =>
  @sGm 13 2 12 true s ⟨W74_c4 P Φ⟩
def W74_c6 (P : Program) (Φ : EP) (s : St) : Prop :=
  @sOp (some 27) (xPick (s.τ 22) (s.τ 26) (.bool false) s.H) s <| .mk fun s =>
  @sMv 6 27 s <| .mk fun s =>
  Φ .ret s
def W74_c7 (P : Program) (Φ : EP) (s : St) : Prop :=
  @sGrd (guardOf (s.τ 22) true) (some 26) s ⟨fun s K => @sOp (some 26) (xBin .lss false (s.τ 23) (s.τ 25) s.H) s ⟨K⟩⟩ ⟨W74_c6 P Φ⟩
def W74_c8 (P : Program) (Φ : EP) (s : St) : Prop :=
  @sGl 25 1 24 22 false true s ⟨W74_c7 P Φ⟩
def W74_c9 (P : Program) (Φ : EP) (s : St) : Prop :=
  @sGf 24 0 3 22 true s ⟨W74_c8 P Φ⟩
def W74_b10 (P : Program) (Φ : EP) (s : St) : Prop :=
  @sMv 20 2 s <| .mk fun s =>
  @sOp (some 21) (xBin .geq false (s.τ 20) (.int .i64 (-1)) s.H) s <| .mk fun s =>
  @sMv 22 21 s <| .mk fun s =>
  @sGm 23 2 22 true s ⟨W74_c9 P Φ⟩
def W74_c11 (P : Program) (Φ : EP) (s : St) : Prop :=
  @sOp (some 37) (xPick (s.τ 32) (s.τ 36) (.bool false) s.H) s <| .mk fun s =>
  @sMv 6 37 s <| .mk fun s =>
  Φ .ret s
def W74_c12 (P : Program) (Φ : EP) (s : St) : Prop :=
  @sGrd (guardOf (s.τ 32) true) (some 36) s ⟨fun s K => @sOp (some 36) (xBin .lss false (s.τ 33) (s.τ 35) s.H) s ⟨K⟩⟩ ⟨W74_c11 P Φ⟩
def W74_c13 (P : Program) (Φ : EP) (s : St) : Prop :=
  @sGl 35 1 34 32 false true s ⟨W74_c12 P Φ⟩
def W74_c14 (P : Program) (Φ : EP) (s : St) : Prop :=
  @sGf 34 1 3 32 true s ⟨W74_c13 P Φ⟩
def W74_b15 (P : Program) (Φ : EP) (s : St) : Prop :=
  @sMv 30 2 s <| .mk fun s =>
  @sOp (some 31) (xBin .geq false (s.τ 30) (.int .i64 0) s.H) s <| .mk fun s =>
  @sMv 32 31 s <| .mk fun s =>
  @sGm 33 2 32 true s ⟨W74_c14 P Φ⟩
def W74_c16 (P : Program) (Φ : EP) (s : St) : Prop :=
  @sOp (some 47) (xPick (s.τ 42) (s.τ 46) (.bool false) s.H) s <| .mk fun s =>
  @sMv 6 47 s <| .mk fun s =>
  Φ .ret s
def W74_c17 (P : Program) (Φ : EP) (s : St) : Prop :=
  @sGrd (guardOf (s.τ 42) true) (some 46) s ⟨fun s K => @sOp (some 46) (xBin .lss false (s.τ 43) (s.τ 45) s.H) s ⟨K⟩⟩ ⟨W74_c16 P Φ⟩
def W74_c18 (P : Program) (Φ : EP) (s : St) : Prop :=
  @sGl 45 1 44 42 false true s ⟨W74_c17 P Φ⟩
def W74_c19 (P : Program) (Φ : EP) (s : St) : Prop :=
  @sGf 44 2 3 42 true s ⟨W74_c18 P Φ⟩
def W74_b20 (P : Program) (Φ : EP) (s : St) : Prop :=
  @sMv 40 2 s <| .mk fun s =>
  @sOp (some 41) (xBin .geq false (s.τ 40) (.int .i64 0) s.H) s <| .mk fun s =>
  @sMv 42 41 s <| .mk fun s =>
  @sGm 43 2 42 true s ⟨W74_c19 P Φ⟩
def W74_b21 (P : Program) (Φ : EP) (s : St) : Prop :=
  @sMv 50 2 s <| .mk fun s =>
  @sOp (some 51) (xBin .geq false (s.τ 50) (.int .i64 0) s.H) s <| .mk fun s =>
  @sMv 6 51 s <| .mk fun s =>
  Φ .ret s
def W74_b22 (P : Program) (Φ : EP) (s : St) : Prop :=
  @sMv 52 2 s <| .mk fun s =>
  @sOp (some 53) (xBin .eql false (s.τ 52) (.int .i64 0) s.H) s <| .mk fun s =>
  @sMv 6 53 s <| .mk fun s =>
  Φ .ret s
def W74_b23 (P : Program) (Φ : EP) (s : St) : Prop :=
  @sOp (some 49) (xBin .eql false (s.τ 7) (.int .i64 5) s.H) s <| .mk fun s =>
  @sMv 48 49 s <| .mk fun s =>
  @sIf (s.τ 48) ⟨W74_b21 P Φ s⟩ ⟨W74_b22 P Φ s⟩
def W74_b24 (P : Program) (Φ : EP) (s : St) : Prop :=
  @sOp (some 39) (xBin .eql false (s.τ 7) (.int .i64 4) s.H) s <| .mk fun s =>
  @sMv 38 39 s <| .mk fun s =>
  @sIf (s.τ 38) ⟨W74_b20 P Φ s⟩ ⟨W74_b23 P Φ s⟩
def W74_b25 (P : Program) (Φ : EP) (s : St) : Prop :=
  @sOp (some 29) (xBin .eql false (s.τ 7) (.int .i64 3) s.H) s <| .mk fun s =>
  @sMv 28 29 s <| .mk fun s =>
  @sIf (s.τ 28) ⟨W74_b15 P Φ s⟩ ⟨W74_b24 P Φ s⟩
def W74_b26 (P : Program) (Φ : EP) (s : St) : Prop :=
  @sOp (some 19) (xBin .eql false (s.τ 7) (.int .i64 2) s.H) s <| .mk fun s =>
  @sMv 18 19 s <| .mk fun s =>
  @sIf (s.τ 18) ⟨W74_b10 P Φ s⟩ ⟨W74_b25 P Φ s⟩
def W74 (P : Program) (Φ : EP) (s : St) : Prop :=
  @sOp (some 3) (xBox 3 87 (s.τ 0) s.H) s <| .mk fun s =>
  @sOp (some 6) (xMov (.bool false) s.H) s <| .mk fun s =>
  @sMv 7 1 s <| .mk fun s =>
  @sOp (some 9) (xBin .eql false (s.τ 7) (.int .i64 1) s.H) s <| .mk fun s =>
  @sMv 8 9 s <| .mk fun s =>
  @sIf (s.τ 8) ⟨W74_b5 P Φ s⟩ ⟨W74_b26 P Φ s⟩
theorem W74_rs (τ : Nat → AV) (H : Heap) : resV Try.prog τ H [.tmp 6] = some (τ 6) := by kernel_rfl
theorem W74_eq (Φ : EP) (s : St) : awp Try.prog (Try.f74.body.getD .skip) Φ s = W74 Try.prog Φ s := by kernel_rfl

-- 75 "penance/term.none"
def W75_c1 (P : Program) (Φ : EP) (s : St) : Prop :=
  @sOp (some 21) (xPick (s.τ 16) (s.τ 20) (.bool false) s.H) s <| .mk fun s =>
  @sMv 2 21 s <| .mk fun s =>
  Φ .ret s
def W75_c2 (P : Program) (Φ : EP) (s : St) : Prop :=
  @sGrd (guardOf (s.τ 16) true) (some 20) s ⟨fun s K => @sOp (some 20) (xBin .eql false (s.τ 19) (.int .i64 0) s.H) s ⟨K⟩⟩ ⟨W75_c1 P Φ⟩
def W75_c3 (P : Program) (Φ : EP) (s : St) : Prop :=
  @sGrd (guardOf (s.τ 16) true) (some 19) s ⟨fun s K => @sOp (some 19) (xLen (s.τ 18) s.H) s ⟨K⟩⟩ ⟨W75_c2 P Φ⟩
def W75_c4 (P : Program) (Φ : EP) (s : St) : Prop :=
  @sGl 18 1 17 16 false true s ⟨W75_c3 P Φ⟩
def W75_c5 (P : Program) (Φ : EP) (s : St) : Prop :=
  @sOp (some 15) (xPick (s.τ 11) (s.τ 14) (.bool false) s.H) s <| .mk fun s =>
  @sMv 16 15 s <| .mk fun s =>
  @sGf 17 3 1 16 true s ⟨W75_c4 P Φ⟩
def W75_c6 (P : Program) (Φ : EP) (s : St) : Prop :=
  @sGrd (guardOf (s.τ 11) true) (some 14) s ⟨fun s K => @sOp (some 14) (xBin .eql false (s.τ 13) (.str ⟨#[]⟩) s.H) s ⟨K⟩⟩ ⟨W75_c5 P Φ⟩
def W75_c7 (P : Program) (Φ : EP) (s : St) : Prop :=
  @sGl 13 1 12 11 false true s ⟨W75_c6 P Φ⟩
def W75_c8 (P : Program) (Φ : EP) (s : St) : Prop :=
  @sOp (some 10) (xPick (s.τ 6) (s.τ 9) (.bool false) s.H) s <| .mk fun s =>
  @sMv 11 10 s <| .mk fun s =>
  @sGf 12 2 1 11 true s ⟨W75_c7 P Φ⟩
def W75_c9 (P : Program) (Φ : EP) (s : St) : Prop :=
  @sGrd (guardOf (s.τ 6) true) (some 9) s ⟨fun s K => @sOp (some 9) (xBin .eql false (s.τ 8) (.int .i64 0) s.H) s ⟨K⟩⟩ ⟨W75_c8 P Φ⟩
def W75_c10 (P : Program) (Φ : EP) (s : St) : Prop :=
  @sGl 8 1 7 6 false true s ⟨W75_c9 P Φ⟩
def W75 (P : Program) (Φ : EP) (s : St) : Prop :=
  @sOp (some 1) (xBox 1 31 (s.τ 0) s.H) s <| .mk fun s =>
  @sOp (some 2) (xMov (.bool false) s.H) s <| .mk fun s =>
  @sFl 3 0 1 s <| .mk fun s =>
  @sLd 4 1 3 false s <| .mk fun s =>
  @sOp (some 5) (xBin .eql false (s.τ 4) (.int .i64 0) s.H) s <| .mk fun s =>
  @sMv 6 5 s <| .mk fun s =>
  @sGf 7 1 1 6 true s ⟨W75_c10 P Φ⟩
theorem W75_rs (τ : Nat → AV) (H : Heap) : resV Try.prog τ H [.tmp 2] = some (τ 2) := by kernel_rfl
theorem W75_eq (Φ : EP) (s : St) : awp Try.prog (Try.f75.body.getD .skip) Φ s = W75 Try.prog Φ s := by kernel_rfl

-- 76 "penance/lex.Name"
def W76_b1 (P : Program) (Φ : EP) (s : St) : Prop :=
  @sOp (some 2) (xMov (.bool false) s.H) s <| .mk fun s =>
  Φ .ret s
def W76_k2 (P : Program) (Φ : EP) (s : St) : Prop :=
  @sOp (some 2) (xMov (.bool true) s.H) s <| .mk fun s =>
  Φ .ret s
def W76_b3 (P : Program) (Φ : EP) (L0 : SP) (s : St) : Prop :=
  @sOp (some 2) (xMov (.bool false) s.H) s <| .mk fun s =>
  Φ .ret s
def W76_c4 (P : Program) (Φ : EP) (L0 : SP) (s : St) : Prop :=
  @sOp (some 40) (xPick (s.τ 35) (.bool true) (s.τ 39) s.H) s <| .mk fun s =>
  @sIf (s.τ 40) ⟨W76_b3 P Φ L0 s⟩ ⟨L0 s⟩
def W76_c5 (P : Program) (Φ : EP) (L0 : SP) (s : St) : Prop :=
  @sGrd (guardOf (s.τ 35) false) (some 39) s ⟨fun s K => @sOp (some 39) (xNot (s.τ 38) s.H) s ⟨K⟩⟩ ⟨W76_c4 P Φ L0⟩
def W76_c6 (P : Program) (Φ : EP) (L0 : SP) (s : St) : Prop :=
  @sGrd (guardOf (s.τ 35) false) (some 38) s ⟨fun s K => @sCall P (.func 97 []) [(s.τ 37)] (some 38) s ⟨K⟩⟩ ⟨W76_c5 P Φ L0⟩
def W76_c7 (P : Program) (Φ : EP) (L0 : SP) (s : St) : Prop :=
  @sGrd (guardOf (s.τ 35) false) (some 37) s ⟨fun s K => @sOp (some 37) (xConv .u8 (s.τ 36) s.H) s ⟨K⟩⟩ ⟨W76_c6 P Φ L0⟩
def W76_c8 (P : Program) (Φ : EP) (L0 : SP) (s : St) : Prop :=
  @sOp (some 34) (xPick (s.τ 25) (.bool true) (s.τ 33) s.H) s <| .mk fun s =>
  @sMv 35 34 s <| .mk fun s =>
  @sGm 36 4 35 false s ⟨W76_c7 P Φ L0⟩
def W76_c9 (P : Program) (Φ : EP) (L0 : SP) (s : St) : Prop :=
  @sGrd (guardOf (s.τ 25) false) (some 33) s ⟨fun s K => @sOp (some 33) (xPick (s.τ 28) (s.τ 32) (.bool false) s.H) s ⟨K⟩⟩ ⟨W76_c8 P Φ L0⟩
def W76_c10 (P : Program) (Φ : EP) (L0 : SP) (s : St) : Prop :=
  @sGrd (guardOf (s.τ 28) true) (some 32) s ⟨fun s K => @sOp (some 32) (xNot (s.τ 31) s.H) s ⟨K⟩⟩ ⟨W76_c9 P Φ L0⟩
def W76_c11 (P : Program) (Φ : EP) (L0 : SP) (s : St) : Prop :=
  @sGrd (guardOf (s.τ 28) true) (some 31) s ⟨fun s K => @sCall P (.func 96 []) [(s.τ 30)] (some 31) s ⟨K⟩⟩ ⟨W76_c10 P Φ L0⟩
def W76_c12 (P : Program) (Φ : EP) (L0 : SP) (s : St) : Prop :=
  @sGrd (guardOf (s.τ 28) true) (some 30) s ⟨fun s K => @sOp (some 30) (xConv .u8 (s.τ 29) s.H) s ⟨K⟩⟩ ⟨W76_c11 P Φ L0⟩
def W76_c13 (P : Program) (Φ : EP) (L0 : SP) (s : St) : Prop :=
  @sGm 29 4 28 true s ⟨W76_c12 P Φ L0⟩
def W76_c14 (P : Program) (Φ : EP) (L0 : SP) (s : St) : Prop :=
  @sGm 28 27 25 false s ⟨W76_c13 P Φ L0⟩
def W76_c15 (P : Program) (Φ : EP) (L0 : SP) (s : St) : Prop :=
  @sGrd (guardOf (s.τ 25) false) (some 27) s ⟨fun s K => @sOp (some 27) (xBin .eql false (s.τ 26) (.int .i64 0) s.H) s ⟨K⟩⟩ ⟨W76_c14 P Φ L0⟩
def W76_b16 (P : Program) (Φ : EP) (L0 : SP) (s : St) : Prop :=
  @sOp (some 21) (xExt (s.τ 19) 1 s.H) s <| .mk fun s =>
  @sOp (some 22) (xExt (s.τ 19) 2 s.H) s <| .mk fun s =>
  @sMv 3 21 s <| .mk fun s =>
  @sMv 4 22 s <| .mk fun s =>
  @sMv 23 4 s <| .mk fun s =>
  @sOp (some 24) (xBin .gtr false (s.τ 23) (.int .i32 127) s.H) s <| .mk fun s =>
  @sMv 25 24 s <| .mk fun s =>
  @sGm 26 3 25 false s ⟨W76_c15 P Φ L0⟩
def W76_l17 (P : Program) (Φ : EP) (L0 : SP) (s : St) : Prop :=
  @sOp (some 19) (xNxt (s.τ 18) s.H) s <| .mk fun s =>
  @sOp (some 20) (xExt (s.τ 19) 0 s.H) s <| .mk fun s =>
  @sIf (s.τ 20) ⟨W76_b16 P Φ L0 s⟩ ⟨W76_k2 P Φ s⟩
def W76_b18 (P : Program) (Φ : EP) (s : St) : Prop :=
  @sMv 17 0 s <| .mk fun s =>
  @sOp (some 18) (xRng 18 (s.τ 17) s.H) s <| .mk fun s =>
  @sLoop s ⟨fun L0 s => W76_l17 P Φ L0 s⟩
def W76_c19 (P : Program) (Φ : EP) (s : St) : Prop :=
  @sOp (some 16) (xPick (s.τ 13) (.bool true) (s.τ 15) s.H) s <| .mk fun s =>
  @sIf (s.τ 16) ⟨W76_b1 P Φ s⟩ ⟨W76_b18 P Φ s⟩
def W76_c20 (P : Program) (Φ : EP) (s : St) : Prop :=
  @sGrd (guardOf (s.τ 13) false) (some 15) s ⟨fun s K => @sCall P (.func 95 []) [(s.τ 14)] (some 15) s ⟨K⟩⟩ ⟨W76_c19 P Φ⟩
def W76_c21 (P : Program) (Φ : EP) (s : St) : Prop :=
  @sOp (some 12) (xPick (s.τ 8) (.bool true) (s.τ 11) s.H) s <| .mk fun s =>
  @sMv 13 12 s <| .mk fun s =>
  @sGm 14 0 13 false s ⟨W76_c20 P Φ⟩
def W76_c22 (P : Program) (Φ : EP) (s : St) : Prop :=
  @sGrd (guardOf (s.τ 8) false) (some 11) s ⟨fun s K => @sOp (some 11) (xBin .gtr false (s.τ 10) (.int .i64 20) s.H) s ⟨K⟩⟩ ⟨W76_c21 P Φ⟩
def W76_c23 (P : Program) (Φ : EP) (s : St) : Prop :=
  @sGrd (guardOf (s.τ 8) false) (some 10) s ⟨fun s K => @sOp (some 10) (xSlen (s.τ 9) s.H) s ⟨K⟩⟩ ⟨W76_c22 P Φ⟩
def W76 (P : Program) (Φ : EP) (s : St) : Prop :=
  @sOp (some 2) (xMov (.bool false) s.H) s <| .mk fun s =>
  @sMv 5 0 s <| .mk fun s =>
  @sOp (some 6) (xSlen (s.τ 5) s.H) s <| .mk fun s =>
  @sOp (some 7) (xBin .lss false (s.τ 6) (.int .i64 1) s.H) s <| .mk fun s =>
  @sMv 8 7 s <| .mk fun s =>
  @sGm 9 0 8 false s ⟨W76_c23 P Φ⟩
theorem W76_rs (τ : Nat → AV) (H : Heap) : resV Try.prog τ H [.tmp 2] = some (τ 2) := by kernel_rfl
theorem W76_eq (Φ : EP) (s : St) : awp Try.prog (Try.f76.body.getD .skip) Φ s = W76 Try.prog Φ s := by kernel_rfl

-- 77 "penance/expr.Right"
def W77_k1 (P : Program) (Φ : EP) (s : St) : Prop :=
  @sOp none (xStore 1 (s.τ 4) (.bool true) s.H) s <| .mk fun s =>
  Φ .ret s
def W77_b2 (P : Program) (Φ : EP) (s : St) : Prop :=
  @sOp none (xStore 1 (s.τ 4) (.bool false) s.H) s <| .mk fun s =>
  Φ .ret s
def W77_b3 (P : Program) (Φ : EP) (s : St) : Prop :=
  @sOp none (xStore 1 (s.τ 4) (.bool false) s.H) s <| .mk fun s =>
  Φ .ret s
def W77_c4 (P : Program) (Φ : EP) (s : St) : Prop :=
  @sOp (some 64) (xPick (s.τ 55) (.bool true) (s.τ 63) s.H) s <| .mk fun s =>
  @sIf (s.τ 64) ⟨W77_b3 P Φ s⟩ ⟨Φ .normal s⟩
def W77_c5 (P : Program) (Φ : EP) (s : St) : Prop :=
  @sGrd (guardOf (s.τ 55) false) (some 63) s ⟨fun s K => @sOp (some 63) (xPick (s.τ 59) (s.τ 62) (.bool false) s.H) s ⟨K⟩⟩ ⟨W77_c4 P Φ⟩
def W77_c6 (P : Program) (Φ : EP) (s : St) : Prop :=
  @sGrd (guardOf (s.τ 59) true) (some 62) s ⟨fun s K => @sOp (some 62) (xBin .neq false (s.τ 61) (.int .i64 0) s.H) s ⟨K⟩⟩ ⟨W77_c5 P Φ⟩
def W77_c7 (P : Program) (Φ : EP) (s : St) : Prop :=
  @sGl 61 1 60 59 false true s ⟨W77_c6 P Φ⟩
def W77_c8 (P : Program) (Φ : EP) (s : St) : Prop :=
  @sGf 60 1 5 59 true s ⟨W77_c7 P Φ⟩
def W77_c9 (P : Program) (Φ : EP) (s : St) : Prop :=
  @sGm 59 58 55 false s ⟨W77_c8 P Φ⟩
def W77_c10 (P : Program) (Φ : EP) (s : St) : Prop :=
  @sGrd (guardOf (s.τ 55) false) (some 58) s ⟨fun s K => @sOp (some 58) (xBin .gtr false (s.τ 57) (.int .i64 2) s.H) s ⟨K⟩⟩ ⟨W77_c9 P Φ⟩
def W77_c11 (P : Program) (Φ : EP) (s : St) : Prop :=
  @sGl 57 1 56 55 false false s ⟨W77_c10 P Φ⟩
def W77_c12 (P : Program) (Φ : EP) (s : St) : Prop :=
  @sOp (some 54) (xPick (s.τ 39) (.bool true) (s.τ 53) s.H) s <| .mk fun s =>
  @sMv 55 54 s <| .mk fun s =>
  @sGf 56 0 5 55 false s ⟨W77_c11 P Φ⟩
def W77_c13 (P : Program) (Φ : EP) (s : St) : Prop :=
  @sGrd (guardOf (s.τ 39) false) (some 53) s ⟨fun s K => @sOp (some 53) (xPick (s.τ 43) (s.τ 52) (.bool false) s.H) s ⟨K⟩⟩ ⟨W77_c12 P Φ⟩
def W77_c14 (P : Program) (Φ : EP) (s : St) : Prop :=
  @sGrd (guardOf (s.τ 43) true) (some 52) s ⟨fun s K => @sOp (some 52) (xPick (s.τ 47) (.bool true) (s.τ 51) s.H) s ⟨K⟩⟩ ⟨W77_c13 P Φ⟩
def W77_c15 (P : Program) (Φ : EP) (s : St) : Prop :=
  @sGrd (guardOf (s.τ 47) false) (some 51) s ⟨fun s K => @sOp (some 51) (xBin .geq false (s.τ 49) (s.τ 50) s.H) s ⟨K⟩⟩ ⟨W77_c14 P Φ⟩
def W77_c16 (P : Program) (Φ : EP) (s : St) : Prop :=
  @sGl 50 1 3 47 false false s ⟨W77_c15 P Φ⟩
def W77_c17 (P : Program) (Φ : EP) (s : St) : Prop :=
  @sGl 49 1 48 47 false false s ⟨W77_c16 P Φ⟩
def W77_c18 (P : Program) (Φ : EP) (s : St) : Prop :=
  @sGf 48 1 5 47 false s ⟨W77_c17 P Φ⟩
def W77_c19 (P : Program) (Φ : EP) (s : St) : Prop :=
  @sGm 47 46 43 true s ⟨W77_c18 P Φ⟩
def W77_c20 (P : Program) (Φ : EP) (s : St) : Prop :=
  @sGrd (guardOf (s.τ 43) true) (some 46) s ⟨fun s K => @sOp (some 46) (xBin .lss false (s.τ 45) (.int .i64 0) s.H) s ⟨K⟩⟩ ⟨W77_c19 P Φ⟩
def W77_c21 (P : Program) (Φ : EP) (s : St) : Prop :=
  @sGl 45 1 44 43 false true s ⟨W77_c20 P Φ⟩
def W77_c22 (P : Program) (Φ : EP) (s : St) : Prop :=
  @sGf 44 1 5 43 true s ⟨W77_c21 P Φ⟩
def W77_c23 (P : Program) (Φ : EP) (s : St) : Prop :=
  @sGm 43 42 39 false s ⟨W77_c22 P Φ⟩
def W77_c24 (P : Program) (Φ : EP) (s : St) : Prop :=
  @sGrd (guardOf (s.τ 39) false) (some 42) s ⟨fun s K => @sOp (some 42) (xBin .eql false (s.τ 41) (.int .i64 2) s.H) s ⟨K⟩⟩ ⟨W77_c23 P Φ⟩
def W77_c25 (P : Program) (Φ : EP) (s : St) : Prop :=
  @sGl 41 1 40 39 false false s ⟨W77_c24 P Φ⟩
def W77_c26 (P : Program) (Φ : EP) (s : St) : Prop :=
  @sOp (some 38) (xPick (s.τ 34) (s.τ 37) (.bool false) s.H) s <| .mk fun s =>
  @sMv 39 38 s <| .mk fun s =>
  @sGf 40 0 5 39 false s ⟨W77_c25 P Φ⟩
def W77_c27 (P : Program) (Φ : EP) (s : St) : Prop :=
  @sGrd (guardOf (s.τ 34) true) (some 37) s ⟨fun s K => @sOp (some 37) (xBin .lss false (s.τ 36) (.int .i64 0) s.H) s ⟨K⟩⟩ ⟨W77_c26 P Φ⟩
def W77_c28 (P : Program) (Φ : EP) (s : St) : Prop :=
  @sGl 36 1 35 34 false true s ⟨W77_c27 P Φ⟩
def W77_b29 (P : Program) (Φ : EP) (s : St) : Prop :=
  @sFl 31 0 5 s <| .mk fun s =>
  @sLd 32 1 31 false s <| .mk fun s =>
  @sOp (some 33) (xBin .eql false (s.τ 32) (.int .i64 1) s.H) s <| .mk fun s =>
  @sMv 34 33 s <| .mk fun s =>
  @sGf 35 1 5 34 true s ⟨W77_c28 P Φ⟩
def W77_c30 (P : Program) (Φ : EP) (s : St) : Prop :=
  @sOp (some 30) (xPick (s.τ 22) (.bool true) (s.τ 29) s.H) s <| .mk fun s =>
  @sIf (s.τ 30) ⟨W77_b2 P Φ s⟩ ⟨W77_b29 P Φ s⟩
def W77_c31 (P : Program) (Φ : EP) (s : St) : Prop :=
  @sGrd (guardOf (s.τ 22) false) (some 29) s ⟨fun s K => @sOp (some 29) (xBin .neq false (s.τ 25) (s.τ 28) s.H) s ⟨K⟩⟩ ⟨W77_c30 P Φ⟩
def W77_c32 (P : Program) (Φ : EP) (u14 : St) (u15 : St) (u16 : St) (s : St) : Prop :=
  @sChk (compat (occ (u14.τ 5), []) (cfp 28 99 [(s.τ 27)])) <| .mk <|
  @sChk (compat (occ (u15.τ 23), []) (cfp 28 99 [(s.τ 27)])) <| .mk <|
  @sChk (compat (occ (u16.τ 24), []) (cfp 28 99 [(s.τ 27)])) <| .mk <|
  @sGrd (guardOf (s.τ 22) false) (some 28) s ⟨fun s K => @sCall0 P (.func 99 []) [(s.τ 27)] (some 28) s ⟨K⟩⟩ ⟨W77_c31 P Φ⟩
def W77_c33 (P : Program) (Φ : EP) (u14 : St) (u15 : St) (u16 : St) (s : St) : Prop :=
  @sGl 27 1 26 22 false false s ⟨W77_c32 P Φ u14 u15 u16⟩
def W77_c34 (P : Program) (Φ : EP) (u14 : St) (u15 : St) (u16 : St) (s : St) : Prop :=
  @sGf 26 0 5 22 false s ⟨W77_c33 P Φ u14 u15 u16⟩
def W77_c35 (P : Program) (Φ : EP) (u14 : St) (u15 : St) (s : St) : Prop :=
  @sGrd (guardOf (s.τ 22) false) (some 25) s ⟨fun s K => @sOp (some 25) (xLen (s.τ 24) s.H) s ⟨K⟩⟩ ⟨W77_c34 P Φ u14 u15 s⟩
def W77_c36 (P : Program) (Φ : EP) (u14 : St) (s : St) : Prop :=
  @sGl 24 1 23 22 false false s ⟨W77_c35 P Φ u14 s⟩
def W77_c37 (P : Program) (Φ : EP) (s : St) : Prop :=
  @sOp (some 21) (xPick (s.τ 17) (.bool true) (s.τ 20) s.H) s <| .mk fun u13 =>
  @sMv 22 21 u13 <| .mk fun u14 =>
  @sGf 23 3 5 22 false u14 ⟨W77_c36 P Φ u14⟩
def W77_c38 (P : Program) (Φ : EP) (s : St) : Prop :=
  @sGrd (guardOf (s.τ 17) false) (some 20) s ⟨fun s K => @sOp (some 20) (xBin .neq false (s.τ 19) (.str ⟨#[]⟩) s.H) s ⟨K⟩⟩ ⟨W77_c37 P Φ⟩
def W77_c39 (P : Program) (Φ : EP) (s : St) : Prop :=
  @sGl 19 1 18 17 false false s ⟨W77_c38 P Φ⟩
def W77_c40 (P : Program) (Φ : EP) (s : St) : Prop :=
  @sOp (some 16) (xPick (s.τ 12) (.bool true) (s.τ 15) s.H) s <| .mk fun u8 =>
  @sMv 17 16 u8 <| .mk fun u9 =>
  @sGf 18 2 5 17 false u9 ⟨W77_c39 P Φ⟩
def W77_c41 (P : Program) (Φ : EP) (s : St) : Prop :=
  @sGrd (guardOf (s.τ 12) false) (some 15) s ⟨fun s K => @sOp (some 15) (xBin .gtr false (s.τ 14) (.int .i64 17) s.H) s ⟨K⟩⟩ ⟨W77_c40 P Φ⟩
def W77_c42 (P : Program) (Φ : EP) (s : St) : Prop :=
  @sGl 14 1 13 12 false false s ⟨W77_c41 P Φ⟩
def W77_r43 (P : Program) (Φ : EP) (s : St) : Prop :=
  @sOp (some 5) (xAlloc 5 31 [.int .i64 0, .int .i64 0, .str ⟨#[]⟩, .nils] s.H) s <| .mk fun s =>
  @sOp none (xStore 4 (s.τ 5) (s.τ 8) s.H) s <| .mk fun s =>
  @sFl 9 0 5 s <| .mk fun u1 =>
  @sLd 10 1 9 false u1 <| .mk fun u2 =>
  @sOp (some 11) (xBin .lss false (u2.τ 10) (.int .i64 1) u2.H) u2 <| .mk fun u3 =>
  @sMv 12 11 u3 <| .mk fun u4 =>
  @sGf 13 0 5 12 false u4 ⟨W77_c42 P Φ⟩
def W77_c44 (P : Program) (Φ : EP) (s : St) : Prop :=
  @sRange P (s.τ 7) [8] s ⟨fun Φ s => W77_r43 P Φ s⟩ ⟨(blkK 0 (thenK (W77_k1 P Φ) Φ))⟩
def W77 (P : Program) (Φ : EP) (s : St) : Prop :=
  @sOp (some 2) (xBox 2 31 (s.τ 0) s.H) s <| .mk fun s =>
  @sOp (some 3) (xBox 3 3 (s.τ 1) s.H) s <| .mk fun s =>
  @sOp (some 4) (xAlloc 4 4 [.bool false] s.H) s <| .mk fun s =>
  @sLd 6 4 2 true s <| .mk fun s =>
  @sCall P (.func 98 []) [(s.τ 6)] (some 7) s ⟨W77_c44 P Φ⟩
theorem W77_rs (τ : Nat → AV) (H : Heap) : resV Try.prog τ H [.cell 4 4] = rdV H 1 false (τ 4) := by kernel_rfl
theorem W77_eq (Φ : EP) (s : St) : awp Try.prog (Try.f77.body.getD .skip) Φ s = W77 Try.prog Φ s := by kernel_rfl

-- 78 "penance/penanceref5.in"
def W78_c1 (P : Program) (Φ : EP) (s : St) : Prop :=
  @sOp (some 14) (xPick (s.τ 10) (s.τ 13) (.bool false) s.H) s <| .mk fun s =>
  @sMv 6 14 s <| .mk fun s =>
  Φ .ret s
def W78_c2 (P : Program) (Φ : EP) (s : St) : Prop :=
  @sGrd (guardOf (s.τ 10) true) (some 13) s ⟨fun s K => @sOp (some 13) (xBin .lss false (s.τ 11) (s.τ 12) s.H) s ⟨K⟩⟩ ⟨W78_c1 P Φ⟩
def W78_c3 (P : Program) (Φ : EP) (s : St) : Prop :=
  @sGm 12 2 10 true s ⟨W78_c2 P Φ⟩
def W78 (P : Program) (Φ : EP) (s : St) : Prop :=
  @sOp (some 6) (xMov (.bool false) s.H) s <| .mk fun s =>
  @sMv 7 0 s <| .mk fun s =>
  @sMv 8 1 s <| .mk fun s =>
  @sOp (some 9) (xBin .geq false (s.τ 7) (s.τ 8) s.H) s <| .mk fun s =>
  @sMv 10 9 s <| .mk fun s =>
  @sGm 11 0 10 true s ⟨W78_c3 P Φ⟩
theorem W78_rs (τ : Nat → AV) (H : Heap) : resV Try.prog τ H [.tmp 6] = some (τ 6) := by kernel_rfl
theorem W78_eq (Φ : EP) (s : St) : awp Try.prog (Try.f78.body.getD .skip) Φ s = W78 Try.prog Φ s := by kernel_rfl

-- 79 "penance/penanceref1.Key"
def W79_k1 (P : Program) (Φ : EP) (s : St) : Prop :=
  @sOp (some 2) (xMov (.bool false) s.H) s <| .mk fun s =>
  Φ .ret s
def W79_k2 (P : Program) (Φ : EP) (L0 : SP) (s : St) : Prop :=
  @sMv 16 3 s <| .mk fun s =>
  @sOp (some 17) (xBin .add false (s.τ 16) (.int .i64 1) s.H) s <| .mk fun s =>
  @sMv 3 17 s <| .mk fun s =>
  L0 s
def W79_k3 (P : Program) (Φ : EP) (L0 : SP) (s : St) : Prop :=
  @sOp (some 2) (xMov (.bool true) s.H) s <| .mk fun s =>
  Φ .ret s
def W79_b4 (P : Program) (Φ : EP) (L0 : SP) (L1 : SP) (s : St) : Prop :=
  @sOp (some 2) (xMov (.bool false) s.H) s <| .mk fun s =>
  Φ .ret s
def W79_b5 (P : Program) (Φ : EP) (L0 : SP) (L1 : SP) (s : St) : Prop :=
  @sMv 46 4 s <| .mk fun s =>
  @sOp (some 47) (xBin .add false (s.τ 46) (.int .i64 1) s.H) s <| .mk fun s =>
  @sMv 4 47 s <| .mk fun s =>
  L1 s
def W79_b6 (P : Program) (Φ : EP) (L0 : SP) (L1 : SP) (s : St) : Prop :=
  @sMv 48 0 s <| .mk fun s =>
  @sMv 49 4 s <| .mk fun s =>
  @sOp (some 50) (xSix (s.τ 48) (s.τ 49) s.H) s <| .mk fun s =>
  @sOp (some 51) (xBin .eql false (s.τ 50) (.int .u8 32) s.H) s <| .mk fun s =>
  @sIf (s.τ 51) ⟨W79_b4 P Φ L0 L1 s⟩ ⟨W79_b5 P Φ L0 L1 s⟩
def W79_l7 (P : Program) (Φ : EP) (L0 : SP) (L1 : SP) (s : St) : Prop :=
  @sMv 42 4 s <| .mk fun s =>
  @sMv 43 0 s <| .mk fun s =>
  @sOp (some 44) (xSlen (s.τ 43) s.H) s <| .mk fun s =>
  @sOp (some 45) (xBin .lss false (s.τ 42) (s.τ 44) s.H) s <| .mk fun s =>
  @sIf (s.τ 45) ⟨W79_b6 P Φ L0 L1 s⟩ ⟨W79_k3 P Φ L0 s⟩
def W79_b8 (P : Program) (Φ : EP) (L0 : SP) (s : St) : Prop :=
  @sOp (some 4) (xMov (.int .i64 0) s.H) s <| .mk fun s =>
  @sLoop s ⟨fun L1 s => W79_l7 P Φ L0 L1 s⟩
def W79_c9 (P : Program) (Φ : EP) (L0 : SP) (s : St) : Prop :=
  @sOp (some 41) (xPick (s.τ 30) (s.τ 40) (.bool false) s.H) s <| .mk fun s =>
  @sIf (s.τ 41) ⟨W79_b8 P Φ L0 s⟩ ⟨W79_k2 P Φ L0 s⟩
def W79_c10 (P : Program) (Φ : EP) (L0 : SP) (s : St) : Prop :=
  @sGrd (guardOf (s.τ 30) true) (some 40) s ⟨fun s K => @sOp (some 40) (xBin .eql false (s.τ 38) (s.τ 39) s.H) s ⟨K⟩⟩ ⟨W79_c9 P Φ L0⟩
def W79_c11 (P : Program) (Φ : EP) (L0 : SP) (s : St) : Prop :=
  @sGm 39 0 30 true s ⟨W79_c10 P Φ L0⟩
def W79_c12 (P : Program) (Φ : EP) (L0 : SP) (s : St) : Prop :=
  @sGrd (guardOf (s.τ 30) true) (some 38) s ⟨fun s K => @sOp (some 38) (xSsl (.str ⟨#[32, 118, 97, 114, 32, 115, 116, 97, 99, 107, 32, 112, 114, 111, 99, 32, 115, 107, 105, 112, 32, 100, 111, 32, 112, 117, 115, 104, 32, 114, 101, 118, 101, 114, 115, 101, 32, 97, 99, 99, 101, 112, 116, 32, 109, 101, 114, 103, 101, 32, 98, 108, 111, 99, 107, 32, 101, 120, 105, 116, 32, 105, 102, 32, 101, 108, 115, 101, 32, 99, 104, 111, 111, 115, 101, 32, 112, 97, 114, 32, 99, 97, 108, 108, 32]⟩) (some (s.τ 32)) (some (s.τ 37)) s.H) s ⟨K⟩⟩ ⟨W79_c11 P Φ L0⟩
def W79_c13 (P : Program) (Φ : EP) (L0 : SP) (s : St) : Prop :=
  @sGrd (guardOf (s.τ 30) true) (some 37) s ⟨fun s K => @sOp (some 37) (xBin .add false (s.τ 34) (s.τ 36) s.H) s ⟨K⟩⟩ ⟨W79_c12 P Φ L0⟩
def W79_c14 (P : Program) (Φ : EP) (L0 : SP) (s : St) : Prop :=
  @sGrd (guardOf (s.τ 30) true) (some 36) s ⟨fun s K => @sOp (some 36) (xSlen (s.τ 35) s.H) s ⟨K⟩⟩ ⟨W79_c13 P Φ L0⟩
def W79_c15 (P : Program) (Φ : EP) (L0 : SP) (s : St) : Prop :=
  @sGm 35 0 30 true s ⟨W79_c14 P Φ L0⟩
def W79_c16 (P : Program) (Φ : EP) (L0 : SP) (s : St) : Prop :=
  @sGrd (guardOf (s.τ 30) true) (some 34) s ⟨fun s K => @sOp (some 34) (xBin .add false (s.τ 33) (.int .i64 1) s.H) s ⟨K⟩⟩ ⟨W79_c15 P Φ L0⟩
def W79_c17 (P : Program) (Φ : EP) (L0 : SP) (s : St) : Prop :=
  @sGm 33 3 30 true s ⟨W79_c16 P Φ L0⟩
def W79_c18 (P : Program) (Φ : EP) (L0 : SP) (s : St) : Prop :=
  @sGrd (guardOf (s.τ 30) true) (some 32) s ⟨fun s K => @sOp (some 32) (xBin .add false (s.τ 31) (.int .i64 1) s.H) s ⟨K⟩⟩ ⟨W79_c17 P Φ L0⟩
def W79_c19 (P : Program) (Φ : EP) (L0 : SP) (s : St) : Prop :=
  @sOp (some 29) (xPick (s.τ 21) (s.τ 28) (.bool false) s.H) s <| .mk fun s =>
  @sMv 30 29 s <| .mk fun s =>
  @sGm 31 3 30 true s ⟨W79_c18 P Φ L0⟩
def W79_c20 (P : Program) (Φ : EP) (L0 : SP) (s : St) : Prop :=
  @sGrd (guardOf (s.τ 21) true) (some 28) s ⟨fun s K => @sOp (some 28) (xBin .eql false (s.τ 27) (.int .u8 32) s.H) s ⟨K⟩⟩ ⟨W79_c19 P Φ L0⟩
def W79_c21 (P : Program) (Φ : EP) (L0 : SP) (s : St) : Prop :=
  @sGrd (guardOf (s.τ 21) true) (some 27) s ⟨fun s K => @sOp (some 27) (xSix (.str ⟨#[32, 118, 97, 114, 32, 115, 116, 97, 99, 107, 32, 112, 114, 111, 99, 32, 115, 107, 105, 112, 32, 100, 111, 32, 112, 117, 115, 104, 32, 114, 101, 118, 101, 114, 115, 101, 32, 97, 99, 99, 101, 112, 116, 32, 109, 101, 114, 103, 101, 32, 98, 108, 111, 99, 107, 32, 101, 120, 105, 116, 32, 105, 102, 32, 101, 108, 115, 101, 32, 99, 104, 111, 111, 115, 101, 32, 112, 97, 114, 32, 99, 97, 108, 108, 32]⟩) (s.τ 26) s.H) s ⟨K⟩⟩ ⟨W79_c20 P Φ L0⟩
def W79_c22 (P : Program) (Φ : EP) (L0 : SP) (s : St) : Prop :=
  @sGrd (guardOf (s.τ 21) true) (some 26) s ⟨fun s K => @sOp (some 26) (xBin .add false (s.τ 25) (.int .i64 1) s.H) s ⟨K⟩⟩ ⟨W79_c21 P Φ L0⟩
def W79_c23 (P : Program) (Φ : EP) (L0 : SP) (s : St) : Prop :=
  @sGrd (guardOf (s.τ 21) true) (some 25) s ⟨fun s K => @sOp (some 25) (xBin .add false (s.τ 22) (s.τ 24) s.H) s ⟨K⟩⟩ ⟨W79_c22 P Φ L0⟩
def W79_c24 (P : Program) (Φ : EP) (L0 : SP) (s : St) : Prop :=
  @sGrd (guardOf (s.τ 21) true) (some 24) s ⟨fun s K => @sOp (some 24) (xSlen (s.τ 23) s.H) s ⟨K⟩⟩ ⟨W79_c23 P Φ L0⟩
def W79_c25 (P : Program) (Φ : EP) (L0 : SP) (s : St) : Prop :=
  @sGm 23 0 21 true s ⟨W79_c24 P Φ L0⟩
def W79_b26 (P : Program) (Φ : EP) (L0 : SP) (s : St) : Prop :=
  @sMv 18 3 s <| .mk fun s =>
  @sOp (some 19) (xSix (.str ⟨#[32, 118, 97, 114, 32, 115, 116, 97, 99, 107, 32, 112, 114, 111, 99, 32, 115, 107, 105, 112, 32, 100, 111, 32, 112, 117, 115, 104, 32, 114, 101, 118, 101, 114, 115, 101, 32, 97, 99, 99, 101, 112, 116, 32, 109, 101, 114, 103, 101, 32, 98, 108, 111, 99, 107, 32, 101, 120, 105, 116, 32, 105, 102, 32, 101, 108, 115, 101, 32, 99, 104, 111, 111, 115, 101, 32, 112, 97, 114, 32, 99, 97, 108, 108, 32]⟩) (s.τ 18) s.H) s <| .mk fun s =>
  @sOp (some 20) (xBin .eql false (s.τ 19) (.int .u8 32) s.H) s <| .mk fun s =>
  @sMv 21 20 s <| .mk fun s =>
  @sGm 22 3 21 true s ⟨W79_c25 P Φ L0⟩
def W79_c27 (P : Program) (Φ : EP) (L0 : SP) (s : St) : Prop :=
  @sOp (some 15) (xPick (s.τ 11) (s.τ 14) (.bool false) s.H) s <| .mk fun s =>
  @sIf (s.τ 15) ⟨W79_b26 P Φ L0 s⟩ ⟨W79_k1 P Φ s⟩
def W79_c28 (P : Program) (Φ : EP) (L0 : SP) (s : St) : Prop :=
  @sGrd (guardOf (s.τ 11) true) (some 14) s ⟨fun s K => @sOp (some 14) (xBin .gtr false (s.τ 13) (.int .i64 0) s.H) s ⟨K⟩⟩ ⟨W79_c27 P Φ L0⟩
def W79_c29 (P : Program) (Φ : EP) (L0 : SP) (s : St) : Prop :=
  @sGrd (guardOf (s.τ 11) true) (some 13) s ⟨fun s K => @sOp (some 13) (xSlen (s.τ 12) s.H) s ⟨K⟩⟩ ⟨W79_c28 P Φ L0⟩
def W79_l30 (P : Program) (Φ : EP) (L0 : SP) (s : St) : Prop :=
  @sMv 5 3 s <| .mk fun s =>
  @sMv 6 0 s <| .mk fun s =>
  @sOp (some 7) (xSlen (s.τ 6) s.H) s <| .mk fun s =>
  @sOp (some 8) (xBin .add false (s.τ 5) (s.τ 7) s.H) s <| .mk fun s =>
  @sOp (some 9) (xBin .add false (s.τ 8) (.int .i64 2) s.H) s <| .mk fun s =>
  @sOp (some 10) (xBin .leq false (s.τ 9) (.int .i64 85) s.H) s <| .mk fun s =>
  @sMv 11 10 s <| .mk fun s =>
  @sGm 12 0 11 true s ⟨W79_c29 P Φ L0⟩
def W79 (P : Program) (Φ : EP) (s : St) : Prop :=
  @sOp (some 2) (xMov (.bool false) s.H) s <| .mk fun s =>
  @sOp (some 3) (xMov (.int .i64 0) s.H) s <| .mk fun s =>
  @sLoop s ⟨fun L0 s => W79_l30 P Φ L0 s⟩
theorem W79_rs (τ : Nat → AV) (H : Heap) : resV Try.prog τ H [.tmp 2] = some (τ 2) := by kernel_rfl
theorem W79_eq (Φ : EP) (s : St) : awp Try.prog (Try.f79.body.getD .skip) Φ s = W79 Try.prog Φ s := by kernel_rfl

-- 80 "penance/penanceref1.word"
def W80_c1 (P : Program) (Φ : EP) (s : St) : Prop :=
  @sOp (some 26) (xPick (s.τ 11) (.bool true) (s.τ 25) s.H) s <| .mk fun s =>
  @sMv 4 26 s <| .mk fun s =>
  Φ .ret s
def W80_c2 (P : Program) (Φ : EP) (s : St) : Prop :=
  @sGrd (guardOf (s.τ 11) false) (some 25) s ⟨fun s K => @sOp (some 25) (xPick (s.τ 14) (s.τ 24) (.bool false) s.H) s ⟨K⟩⟩ ⟨W80_c1 P Φ⟩
def W80_c3 (P : Program) (Φ : EP) (s : St) : Prop :=
  @sGrd (guardOf (s.τ 14) true) (some 24) s ⟨fun s K => @sOp (some 24) (xPick (s.τ 21) (.bool true) (s.τ 23) s.H) s ⟨K⟩⟩ ⟨W80_c2 P Φ⟩
def W80_c4 (P : Program) (Φ : EP) (s : St) : Prop :=
  @sGrd (guardOf (s.τ 21) false) (some 23) s ⟨fun s K => @sOp (some 23) (xBin .eql false (s.τ 22) (.int .u8 95) s.H) s ⟨K⟩⟩ ⟨W80_c3 P Φ⟩
def W80_c5 (P : Program) (Φ : EP) (s : St) : Prop :=
  @sGm 22 0 21 false s ⟨W80_c4 P Φ⟩
def W80_c6 (P : Program) (Φ : EP) (s : St) : Prop :=
  @sGm 21 20 14 true s ⟨W80_c5 P Φ⟩
def W80_c7 (P : Program) (Φ : EP) (s : St) : Prop :=
  @sGrd (guardOf (s.τ 14) true) (some 20) s ⟨fun s K => @sOp (some 20) (xPick (s.τ 17) (s.τ 19) (.bool false) s.H) s ⟨K⟩⟩ ⟨W80_c6 P Φ⟩
def W80_c8 (P : Program) (Φ : EP) (s : St) : Prop :=
  @sGrd (guardOf (s.τ 17) true) (some 19) s ⟨fun s K => @sOp (some 19) (xBin .leq false (s.τ 18) (.int .u8 57) s.H) s ⟨K⟩⟩ ⟨W80_c7 P Φ⟩
def W80_c9 (P : Program) (Φ : EP) (s : St) : Prop :=
  @sGm 18 0 17 true s ⟨W80_c8 P Φ⟩
def W80_c10 (P : Program) (Φ : EP) (s : St) : Prop :=
  @sGm 17 16 14 true s ⟨W80_c9 P Φ⟩
def W80_c11 (P : Program) (Φ : EP) (s : St) : Prop :=
  @sGrd (guardOf (s.τ 14) true) (some 16) s ⟨fun s K => @sOp (some 16) (xBin .geq false (s.τ 15) (.int .u8 48) s.H) s ⟨K⟩⟩ ⟨W80_c10 P Φ⟩
def W80_c12 (P : Program) (Φ : EP) (s : St) : Prop :=
  @sGm 15 0 14 true s ⟨W80_c11 P Φ⟩
def W80_c13 (P : Program) (Φ : EP) (s : St) : Prop :=
  @sGm 14 13 11 false s ⟨W80_c12 P Φ⟩
def W80_c14 (P : Program) (Φ : EP) (s : St) : Prop :=
  @sGrd (guardOf (s.τ 11) false) (some 13) s ⟨fun s K => @sOp (some 13) (xNot (s.τ 12) s.H) s ⟨K⟩⟩ ⟨W80_c13 P Φ⟩
def W80_c15 (P : Program) (Φ : EP) (s : St) : Prop :=
  @sOp (some 10) (xPick (s.τ 7) (s.τ 9) (.bool false) s.H) s <| .mk fun s =>
  @sMv 11 10 s <| .mk fun s =>
  @sGm 12 1 11 false s ⟨W80_c14 P Φ⟩
def W80_c16 (P : Program) (Φ : EP) (s : St) : Prop :=
  @sGrd (guardOf (s.τ 7) true) (some 9) s ⟨fun s K => @sOp (some 9) (xBin .leq false (s.τ 8) (.int .u8 122) s.H) s ⟨K⟩⟩ ⟨W80_c15 P Φ⟩
def W80 (P : Program) (Φ : EP) (s : St) : Prop :=
  @sOp (some 4) (xMov (.bool false) s.H) s <| .mk fun s =>
  @sMv 5 0 s <| .mk fun s =>
  @sOp (some 6) (xBin .geq false (s.τ 5) (.int .u8 97) s.H) s <| .mk fun s =>
  @sMv 7 6 s <| .mk fun s =>
  @sGm 8 0 7 true s ⟨W80_c16 P Φ⟩
theorem W80_rs (τ : Nat → AV) (H : Heap) : resV Try.prog τ H [.tmp 4] = some (τ 4) := by kernel_rfl
theorem W80_eq (Φ : EP) (s : St) : awp Try.prog (Try.f80.body.getD .skip) Φ s = W80 Try.prog Φ s := by kernel_rfl

-- 81 "slices.EqualFunc[[]penance/api.Expr,[]penance/api.Expr,penance/api.Expr,penance/api.Expr]"
def W81_b1 (P : Program) (Φ : EP) (s : St) : Prop :=
  @sOp (some 6) (xMov (.bool false) s.H) s <| .mk fun s =>
  Φ .ret s
def W81_k2 (P : Program) (Φ : EP) (s : St) : Prop :=
  @sOp (some 6) (xMov (.bool true) s.H) s <| .mk fun s =>
  Φ .ret s
def W81_b3 (P : Program) (Φ : EP) (L0 : SP) (s : St) : Prop :=
  @sOp (some 6) (xMov (.bool false) s.H) s <| .mk fun s =>
  Φ .ret s
def W81_b4 (P : Program) (Φ : EP) (L0 : SP) (s : St) : Prop :=
  @sOp (some 31) (xBin .add false (s.τ 17) (.int .i64 1) s.H) s <| .mk fun s =>
  @sMv 17 31 s <| .mk fun s =>
  L0 s
def W81_c5 (P : Program) (Φ : EP) (L0 : SP) (s : St) : Prop :=
  @sOp (some 30) (xNot (s.τ 29) s.H) s <| .mk fun s =>
  @sIf (s.τ 30) ⟨W81_b3 P Φ L0 s⟩ ⟨W81_b4 P Φ L0 s⟩
def W81_b6 (P : Program) (Φ : EP) (L0 : SP) (s : St) : Prop :=
  @sMv 19 17 s <| .mk fun s =>
  @sOp (some 20) (xIx 4 (s.τ 15) (s.τ 17) s.H) s <| .mk fun s =>
  @sLd 21 4 20 true s <| .mk fun s =>
  @sOp (some 8) (xAlloc 8 31 [.int .i64 0, .int .i64 0, .str ⟨#[]⟩, .nils] s.H) s <| .mk fun s =>
  @sMv 7 19 s <| .mk fun s =>
  @sOp none (xStore 4 (s.τ 8) (s.τ 21) s.H) s <| .mk fun s =>
  @sMv 22 1 s <| .mk fun s =>
  @sMv 23 7 s <| .mk fun s =>
  @sOp (some 24) (xIx 4 (s.τ 22) (s.τ 23) s.H) s <| .mk fun s =>
  @sLd 25 4 24 true s <| .mk fun s =>
  @sOp (some 9) (xAlloc 9 31 [.int .i64 0, .int .i64 0, .str ⟨#[]⟩, .nils] s.H) s <| .mk fun s =>
  @sOp none (xStore 4 (s.τ 9) (s.τ 25) s.H) s <| .mk fun s =>
  @sMv 26 2 s <| .mk fun s =>
  @sLd 27 4 8 true s <| .mk fun s =>
  @sLd 28 4 9 true s <| .mk fun s =>
  @sCall P (s.τ 26) [(s.τ 27), (s.τ 28)] (some 29) s ⟨W81_c5 P Φ L0⟩
def W81_l7 (P : Program) (Φ : EP) (L0 : SP) (s : St) : Prop :=
  @sOp (some 18) (xBin .lss false (s.τ 17) (s.τ 16) s.H) s <| .mk fun s =>
  @sIf (s.τ 18) ⟨W81_b6 P Φ L0 s⟩ ⟨W81_k2 P Φ s⟩
def W81_b8 (P : Program) (Φ : EP) (s : St) : Prop :=
  @sMv 15 0 s <| .mk fun s =>
  @sOp (some 16) (xLen (s.τ 15) s.H) s <| .mk fun s =>
  @sOp (some 17) (xMov (.int .i64 0) s.H) s <| .mk fun s =>
  @sLoop s ⟨fun L0 s => W81_l7 P Φ L0 s⟩
def W81 (P : Program) (Φ : EP) (s : St) : Prop :=
  @sOp (some 6) (xMov (.bool false) s.H) s <| .mk fun s =>
  @sMv 10 0 s <| .mk fun s =>
  @sOp (some 11) (xLen (s.τ 10) s.H) s <| .mk fun s =>
  @sMv 12 1 s <| .mk fun s =>
  @sOp (some 13) (xLen (s.τ 12) s.H) s <| .mk fun s =>
  @sOp (some 14) (xBin .neq false (s.τ 11) (s.τ 13) s.H) s <| .mk fun s =>
  @sIf (s.τ 14) ⟨W81_b1 P Φ s⟩ ⟨W81_b8 P Φ s⟩
theorem W81_rs (τ : Nat → AV) (H : Heap) : resV Try.prog τ H [.tmp 6] = some (τ 6) := by kernel_rfl
theorem W81_eq (Φ : EP) (s : St) : awp Try.prog (Try.f81.body.getD .skip) Φ s = W81 Try.prog Φ s := by kernel_rfl

-- 82 "slices.Clone[[]penance/api.Term,penance/api.Term]"
def W82_b1 (P : Program) (Φ : EP) (s : St) : Prop :=
  @sOp (some 2) (xMov (.nils) s.H) s <| .mk fun s =>
  Φ .ret s
def W82_b2 (P : Program) (Φ : EP) (s : St) : Prop :=
  @sOp (some 5) (xRow 5 34 9 0 [.int .i64 0, .int .i64 0, .int .i64 0, .str ⟨#[]⟩, .int .i64 0, .int .i64 0, .str ⟨#[]⟩, .nils, .nils] [] s.H) s <| .mk fun s =>
  @sMv 6 0 s <| .mk fun s =>
  @sOp (some 7) (xApp P 34 9 120 (some 7) (s.τ 5) (s.τ 6) s.H) s <| .mk fun s =>
  @sMv 2 7 s <| .mk fun s =>
  Φ .ret s
def W82_c3 (P : Program) (Φ : EP) (s : St) : Prop :=
  @sIf (s.τ 4) ⟨W82_b1 P Φ s⟩ ⟨W82_b2 P Φ s⟩
def W82 (P : Program) (Φ : EP) (s : St) : Prop :=
  @sOp (some 2) (xMov (.nils) s.H) s <| .mk fun s =>
  @sMv 3 0 s <| .mk fun s =>
  @sNil false (s.τ 3) (some 4) s ⟨W82_c3 P Φ⟩
theorem W82_rs (τ : Nat → AV) (H : Heap) : resV Try.prog τ H [.tmp 2] = some (τ 2) := by kernel_rfl
theorem W82_eq (Φ : EP) (s : St) : awp Try.prog (Try.f82.body.getD .skip) Φ s = W82 Try.prog Φ s := by kernel_rfl

-- 83 "penance/term.ownExpr"
def W83_c1 (P : Program) (Φ : EP) (s : St) : Prop :=
  @sFl 25 3 1 s <| .mk fun s =>
  @sOp none (xStore 1 (s.τ 25) (s.τ 24) s.H) s <| .mk fun s =>
  @sLd 26 4 1 true s <| .mk fun s =>
  @sOp none (xStore 4 (s.τ 2) (s.τ 26) s.H) s <| .mk fun s =>
  Φ .ret s
def W83_k2 (P : Program) (Φ : EP) (s : St) : Prop :=
  @sMv 23 3 s <| .mk fun s =>
  @sCall P (.func 100 []) [(s.τ 23)] (some 24) s ⟨W83_c1 P Φ⟩
def W83_c3 (P : Program) (Φ : EP) (L0 : SP) (s : St) : Prop :=
  @sOp (some 20) (xLit 4 1 [.int .i64 0, .int .i64 0, .str ⟨#[]⟩, .nils] [(0, (s.τ 19))] s.H) s <| .mk fun s =>
  @sOp (some 21) (xApp P 31 4 56 (some 21) (s.τ 17) (s.τ 20) s.H) s <| .mk fun s =>
  @sMv 3 21 s <| .mk fun s =>
  @sOp (some 22) (xBin .add false (s.τ 13) (.int .i64 1) s.H) s <| .mk fun s =>
  @sMv 13 22 s <| .mk fun s =>
  L0 s
def W83_b4 (P : Program) (Φ : EP) (L0 : SP) (s : St) : Prop :=
  @sOp (some 15) (xIx 4 (s.τ 11) (s.τ 13) s.H) s <| .mk fun s =>
  @sLd 16 4 15 true s <| .mk fun s =>
  @sOp (some 5) (xAlloc 5 31 [.int .i64 0, .int .i64 0, .str ⟨#[]⟩, .nils] s.H) s <| .mk fun s =>
  @sOp none (xStore 4 (s.τ 5) (s.τ 16) s.H) s <| .mk fun s =>
  @sMv 17 3 s <| .mk fun s =>
  @sLd 18 4 5 true s <| .mk fun s =>
  @sCall P (.func 83 []) [(s.τ 18)] (some 19) s ⟨W83_c3 P Φ L0⟩
def W83_l5 (P : Program) (Φ : EP) (L0 : SP) (s : St) : Prop :=
  @sOp (some 14) (xBin .lss false (s.τ 13) (s.τ 12) s.H) s <| .mk fun s =>
  @sIf (s.τ 14) ⟨W83_b4 P Φ L0 s⟩ ⟨W83_k2 P Φ s⟩
def W83 (P : Program) (Φ : EP) (s : St) : Prop :=
  @sOp (some 1) (xBox 1 31 (s.τ 0) s.H) s <| .mk fun s =>
  @sOp (some 2) (xAlloc 2 31 [.int .i64 0, .int .i64 0, .str ⟨#[]⟩, .nils] s.H) s <| .mk fun s =>
  @sFl 6 3 1 s <| .mk fun s =>
  @sLd 7 1 6 false s <| .mk fun s =>
  @sOp (some 8) (xLen (s.τ 7) s.H) s <| .mk fun s =>
  @sOp (some 9) (xMks 9 31 4 56 [.int .i64 0, .int .i64 0, .str ⟨#[]⟩, .nils] (.int .i64 0) (s.τ 8) s.H) s <| .mk fun s =>
  @sMv 3 9 s <| .mk fun s =>
  @sFl 10 3 1 s <| .mk fun s =>
  @sLd 11 1 10 false s <| .mk fun s =>
  @sOp (some 12) (xLen (s.τ 11) s.H) s <| .mk fun s =>
  @sOp (some 13) (xMov (.int .i64 0) s.H) s <| .mk fun s =>
  @sLoop s ⟨fun L0 s => W83_l5 P Φ L0 s⟩
theorem W83_rs (τ : Nat → AV) (H : Heap) : resV Try.prog τ H [.cell 2 31] = rdV H 4 true (τ 2) := by kernel_rfl
theorem W83_eq (Φ : EP) (s : St) : awp Try.prog (Try.f83.body.getD .skip) Φ s = W83 Try.prog Φ s := by kernel_rfl

-- 84 "penance/term.active$1"
def W84_c1 (P : Program) (Φ : EP) (s : St) : Prop :=
  Φ .normal s
def W84 (P : Program) (Φ : EP) (s : St) : Prop :=
  @sLd 3 9 1 true s <| .mk fun s =>
  @sMv 4 0 s <| .mk fun s =>
  @sCall P (.func 85 []) [(s.τ 3), (s.τ 4)] (some 5) s ⟨W84_c1 P Φ⟩
theorem W84_rs (τ : Nat → AV) (H : Heap) : resV Try.prog τ H [] = ob (some []) fun vs => some (.tup vs) := by kernel_rfl
theorem W84_eq (Φ : EP) (s : St) : awp Try.prog (Try.f84.body.getD .skip) Φ s = W84 Try.prog Φ s := by kernel_rfl

-- 85 "penance/term.walk"
def W85_b1 (P : Program) (Φ : EP) (s : St) : Prop :=
  @sOp (some 4) (xMov (.bool false) s.H) s <| .mk fun s =>
  Φ .ret s
def W85_k2 (P : Program) (Φ : EP) (s : St) : Prop :=
  @sOp (some 4) (xMov (.bool true) s.H) s <| .mk fun s =>
  Φ .ret s
def W85_b3 (P : Program) (Φ : EP) (L0 : SP) (s : St) : Prop :=
  @sOp (some 4) (xMov (.bool false) s.H) s <| .mk fun s =>
  Φ .ret s
def W85_b4 (P : Program) (Φ : EP) (L0 : SP) (s : St) : Prop :=
  @sOp (some 36) (xBin .add false (s.τ 28) (.int .i64 1) s.H) s <| .mk fun s =>
  @sMv 28 36 s <| .mk fun s =>
  L0 s
def W85_c5 (P : Program) (Φ : EP) (L0 : SP) (s : St) : Prop :=
  @sOp (some 35) (xNot (s.τ 34) s.H) s <| .mk fun s =>
  @sIf (s.τ 35) ⟨W85_b3 P Φ L0 s⟩ ⟨W85_b4 P Φ L0 s⟩
def W85_b6 (P : Program) (Φ : EP) (L0 : SP) (s : St) : Prop :=
  @sOp (some 30) (xIx 9 (s.τ 26) (s.τ 28) s.H) s <| .mk fun s =>
  @sLd 31 9 30 true s <| .mk fun s =>
  @sOp (some 7) (xAlloc 7 34 [.int .i64 0, .int .i64 0, .int .i64 0, .str ⟨#[]⟩, .int .i64 0, .int .i64 0, .str ⟨#[]⟩, .nils, .nils] s.H) s <| .mk fun s =>
  @sOp none (xStore 9 (s.τ 7) (s.τ 31) s.H) s <| .mk fun s =>
  @sLd 32 9 7 true s <| .mk fun s =>
  @sMv 33 1 s <| .mk fun s =>
  @sCall P (.func 85 []) [(s.τ 32), (s.τ 33)] (some 34) s ⟨W85_c5 P Φ L0⟩
def W85_l7 (P : Program) (Φ : EP) (L0 : SP) (s : St) : Prop :=
  @sOp (some 29) (xBin .lss false (s.τ 28) (s.τ 27) s.H) s <| .mk fun s =>
  @sIf (s.τ 29) ⟨W85_b6 P Φ L0 s⟩ ⟨W85_k2 P Φ s⟩
def W85_k8 (P : Program) (Φ : EP) (s : St) : Prop :=
  @sMv 26 5 s <| .mk fun s =>
  @sOp (some 27) (xLen (s.τ 26) s.H) s <| .mk fun s =>
  @sOp (some 28) (xMov (.int .i64 0) s.H) s <| .mk fun s =>
  @sLoop s ⟨fun L0 s => W85_l7 P Φ L0 s⟩
def W85_b9 (P : Program) (Φ : EP) (s : St) : Prop :=
  @sMv 18 5 s <| .mk fun s =>
  @sMv 19 5 s <| .mk fun s =>
  @sOp (some 20) (xLen (s.τ 19) s.H) s <| .mk fun s =>
  @sOp (some 21) (xMin (s.τ 20) (.int .i64 1) s.H) s <| .mk fun s =>
  @sOp (some 22) (xSlc 9 (s.τ 18) none (some (s.τ 21)) s.H) s <| .mk fun s =>
  @sMv 5 22 s <| .mk fun s =>
  W85_k8 P Φ s
def W85_b10 (P : Program) (Φ : EP) (s : St) : Prop :=
  @sOp (some 4) (xMov (.bool true) s.H) s <| .mk fun s =>
  Φ .ret s
def W85_k11 (P : Program) (Φ : EP) (s : St) : Prop :=
  @sIf (s.τ 23) ⟨W85_k8 P Φ s⟩ ⟨W85_b10 P Φ s⟩
def W85_b12 (P : Program) (Φ : EP) (s : St) : Prop :=
  @sOp (some 25) (xBin .eql false (s.τ 15) (.int .i64 7) s.H) s <| .mk fun s =>
  @sMv 23 25 s <| .mk fun s =>
  W85_k11 P Φ s
def W85_b13 (P : Program) (Φ : EP) (s : St) : Prop :=
  @sOp (some 24) (xBin .eql false (s.τ 15) (.int .i64 11) s.H) s <| .mk fun s =>
  @sMv 23 24 s <| .mk fun s =>
  @sIf (s.τ 23) ⟨W85_k11 P Φ s⟩ ⟨W85_b12 P Φ s⟩
def W85_b14 (P : Program) (Φ : EP) (s : St) : Prop :=
  @sFl 12 8 2 s <| .mk fun s =>
  @sLd 13 1 12 false s <| .mk fun s =>
  @sMv 5 13 s <| .mk fun s =>
  @sFl 14 0 2 s <| .mk fun s =>
  @sLd 15 1 14 false s <| .mk fun s =>
  @sOp (some 17) (xBin .eql false (s.τ 15) (.int .i64 12) s.H) s <| .mk fun s =>
  @sMv 16 17 s <| .mk fun s =>
  @sIf (s.τ 16) ⟨W85_b9 P Φ s⟩ ⟨W85_b13 P Φ s⟩
def W85_c15 (P : Program) (Φ : EP) (s : St) : Prop :=
  @sOp (some 11) (xNot (s.τ 10) s.H) s <| .mk fun s =>
  @sIf (s.τ 11) ⟨W85_b1 P Φ s⟩ ⟨W85_b14 P Φ s⟩
def W85 (P : Program) (Φ : EP) (s : St) : Prop :=
  @sOp (some 2) (xBox 2 34 (s.τ 0) s.H) s <| .mk fun s =>
  @sOp (some 4) (xMov (.bool false) s.H) s <| .mk fun s =>
  @sMv 8 1 s <| .mk fun s =>
  @sLd 9 9 2 true s <| .mk fun s =>
  @sCall P (s.τ 8) [(s.τ 9)] (some 10) s ⟨W85_c15 P Φ⟩
theorem W85_rs (τ : Nat → AV) (H : Heap) : resV Try.prog τ H [.tmp 4] = some (τ 4) := by kernel_rfl
theorem W85_eq (Φ : EP) (s : St) : awp Try.prog (Try.f85.body.getD .skip) Φ s = W85 Try.prog Φ s := by kernel_rfl

-- 86 "penance/penancelaw2.size"
def W86_b1 (P : Program) (Φ : EP) (s : St) : Prop :=
  @sOp (some 4) (xMov (.int .i64 1000) s.H) s <| .mk fun s =>
  Φ .ret s
def W86_k2 (P : Program) (Φ : EP) (s : St) : Prop :=
  @sMv 30 5 s <| .mk fun s =>
  @sMv 4 30 s <| .mk fun s =>
  Φ .ret s
def W86_c3 (P : Program) (Φ : EP) (L0 : SP) (s : St) : Prop :=
  @sOp (some 29) (xBin .add false (s.τ 20) (s.τ 28) s.H) s <| .mk fun s =>
  @sMv 5 29 s <| .mk fun s =>
  @sMv 17 6 s <| .mk fun s =>
  @sOp (some 18) (xBin .add false (s.τ 17) (.int .i64 1) s.H) s <| .mk fun s =>
  @sMv 6 18 s <| .mk fun s =>
  L0 s
def W86_b4 (P : Program) (Φ : EP) (L0 : SP) (s : St) : Prop :=
  @sMv 19 5 s <| .mk fun s =>
  @sOp (some 20) (xBin .add false (s.τ 19) (.int .i64 1) s.H) s <| .mk fun s =>
  @sMv 21 0 s <| .mk fun s =>
  @sMv 22 6 s <| .mk fun s =>
  @sOp (some 23) (xIx 3 (s.τ 21) (s.τ 22) s.H) s <| .mk fun s =>
  @sFl 24 2 23 s <| .mk fun s =>
  @sLd 25 1 24 false s <| .mk fun s =>
  @sMv 26 1 s <| .mk fun s =>
  @sOp (some 27) (xBin .add false (s.τ 26) (.int .i64 1) s.H) s <| .mk fun s =>
  @sCall P (.func 86 []) [(s.τ 25), (s.τ 27)] (some 28) s ⟨W86_c3 P Φ L0⟩
def W86_c5 (P : Program) (Φ : EP) (L0 : SP) (s : St) : Prop :=
  @sOp (some 16) (xPick (s.τ 13) (s.τ 15) (.bool false) s.H) s <| .mk fun s =>
  @sIf (s.τ 16) ⟨W86_b4 P Φ L0 s⟩ ⟨W86_k2 P Φ s⟩
def W86_c6 (P : Program) (Φ : EP) (L0 : SP) (s : St) : Prop :=
  @sGrd (guardOf (s.τ 13) true) (some 15) s ⟨fun s K => @sOp (some 15) (xBin .leq false (s.τ 14) (.int .i64 20) s.H) s ⟨K⟩⟩ ⟨W86_c5 P Φ L0⟩
def W86_l7 (P : Program) (Φ : EP) (L0 : SP) (s : St) : Prop :=
  @sMv 9 6 s <| .mk fun s =>
  @sMv 10 0 s <| .mk fun s =>
  @sOp (some 11) (xLen (s.τ 10) s.H) s <| .mk fun s =>
  @sOp (some 12) (xBin .lss false (s.τ 9) (s.τ 11) s.H) s <| .mk fun s =>
  @sMv 13 12 s <| .mk fun s =>
  @sGm 14 5 13 true s ⟨W86_c6 P Φ L0⟩
def W86_b8 (P : Program) (Φ : EP) (s : St) : Prop :=
  @sOp (some 5) (xMov (.int .i64 0) s.H) s <| .mk fun s =>
  @sOp (some 6) (xMov (.int .i64 0) s.H) s <| .mk fun s =>
  @sLoop s ⟨fun L0 s => W86_l7 P Φ L0 s⟩
def W86 (P : Program) (Φ : EP) (s : St) : Prop :=
  @sOp (some 4) (xMov (.int .i64 0) s.H) s <| .mk fun s =>
  @sMv 7 1 s <| .mk fun s =>
  @sOp (some 8) (xBin .gtr false (s.τ 7) (.int .i64 8) s.H) s <| .mk fun s =>
  @sIf (s.τ 8) ⟨W86_b1 P Φ s⟩ ⟨W86_b8 P Φ s⟩
theorem W86_rs (τ : Nat → AV) (H : Heap) : resV Try.prog τ H [.tmp 4] = some (τ 4) := by kernel_rfl
theorem W86_eq (Φ : EP) (s : St) : awp Try.prog (Try.f86.body.getD .skip) Φ s = W86 Try.prog Φ s := by kernel_rfl

-- 87 "(penance/penancelaw3.Raw).part"
def W87_c1 (P : Program) (Φ : EP) (s : St) : Prop :=
  @sOp none (xStore 8 (s.τ 6) (s.τ 23) s.H) s <| .mk fun s =>
  Φ .ret s
def W87_b2 (P : Program) (Φ : EP) (s : St) : Prop :=
  @sFl 16 4 3 s <| .mk fun s =>
  @sLd 17 1 16 false s <| .mk fun s =>
  @sMv 18 1 s <| .mk fun s =>
  @sOp (some 19) (xIx 5 (s.τ 17) (s.τ 18) s.H) s <| .mk fun s =>
  @sLd 20 5 19 true s <| .mk fun s =>
  @sMv 21 2 s <| .mk fun s =>
  @sOp (some 22) (xBin .add false (s.τ 21) (.int .i64 1) s.H) s <| .mk fun s =>
  @sCall P (.func 69 []) [(s.τ 20), (s.τ 22)] (some 23) s ⟨W87_c1 P Φ⟩
def W87_b3 (P : Program) (Φ : EP) (s : St) : Prop :=
  @sOp (some 24) (xBuild [.int .i64 0, .str ⟨#[]⟩, .str ⟨#[]⟩, .int .i64 0, .int .i64 0, .str ⟨#[]⟩, .nils, .nils] [(0, 1, (.int .i64 0))] s.H) s <| .mk fun s =>
  @sOp none (xStore 8 (s.τ 6) (s.τ 24) s.H) s <| .mk fun s =>
  Φ .ret s
def W87_c4 (P : Program) (Φ : EP) (s : St) : Prop :=
  @sOp (some 15) (xPick (s.τ 12) (s.τ 14) (.bool false) s.H) s <| .mk fun s =>
  @sIf (s.τ 15) ⟨W87_b2 P Φ s⟩ ⟨W87_b3 P Φ s⟩
def W87_c5 (P : Program) (Φ : EP) (s : St) : Prop :=
  @sGrd (guardOf (s.τ 12) true) (some 14) s ⟨fun s K => @sOp (some 14) (xBin .lss false (s.τ 13) (.int .i64 6) s.H) s ⟨K⟩⟩ ⟨W87_c4 P Φ⟩
def W87 (P : Program) (Φ : EP) (s : St) : Prop :=
  @sOp (some 3) (xBox 3 25 (s.τ 0) s.H) s <| .mk fun s =>
  @sOp (some 6) (xAlloc 6 73 [.int .i64 0, .str ⟨#[]⟩, .str ⟨#[]⟩, .int .i64 0, .int .i64 0, .str ⟨#[]⟩, .nils, .nils] s.H) s <| .mk fun s =>
  @sMv 7 1 s <| .mk fun s =>
  @sFl 8 4 3 s <| .mk fun s =>
  @sLd 9 1 8 false s <| .mk fun s =>
  @sOp (some 10) (xLen (s.τ 9) s.H) s <| .mk fun s =>
  @sOp (some 11) (xBin .lss false (s.τ 7) (s.τ 10) s.H) s <| .mk fun s =>
  @sMv 12 11 s <| .mk fun s =>
  @sGm 13 2 12 true s ⟨W87_c5 P Φ⟩
theorem W87_rs (τ : Nat → AV) (H : Heap) : resV Try.prog τ H [.cell 6 73] = rdV H 8 true (τ 6) := by kernel_rfl
theorem W87_eq (Φ : EP) (s : St) : awp Try.prog (Try.f87.body.getD .skip) Φ s = W87 Try.prog Φ s := by kernel_rfl

-- 88 "penance/penancelaw2.One"
def W88_b1 (P : Program) (Φ : EP) (s : St) : Prop :=
  @sOp (some 8) (xBuild [.int .i64 0, .int .i64 0, .str ⟨#[]⟩, .nils] [(0, 1, (.int .i64 1)), (1, 1, (.int .i64 1))] s.H) s <| .mk fun s =>
  @sOp none (xStore 4 (s.τ 4) (s.τ 8) s.H) s <| .mk fun s =>
  Φ .ret s
def W88_c2 (P : Program) (Φ : EP) (s : St) : Prop :=
  @sOp none (xStore 4 (s.τ 4) (s.τ 13) s.H) s <| .mk fun s =>
  Φ .ret s
def W88_b3 (P : Program) (Φ : EP) (s : St) : Prop :=
  @sMv 9 0 s <| .mk fun s =>
  @sOp (some 10) (xIx 3 (s.τ 9) (.int .i64 0) s.H) s <| .mk fun s =>
  @sLd 11 3 10 true s <| .mk fun s =>
  @sMv 12 1 s <| .mk fun s =>
  @sCall P (.func 101 []) [(s.τ 11), (s.τ 12)] (some 13) s ⟨W88_c2 P Φ⟩
def W88 (P : Program) (Φ : EP) (s : St) : Prop :=
  @sOp (some 4) (xAlloc 4 31 [.int .i64 0, .int .i64 0, .str ⟨#[]⟩, .nils] s.H) s <| .mk fun s =>
  @sMv 5 0 s <| .mk fun s =>
  @sOp (some 6) (xLen (s.τ 5) s.H) s <| .mk fun s =>
  @sOp (some 7) (xBin .eql false (s.τ 6) (.int .i64 0) s.H) s <| .mk fun s =>
  @sIf (s.τ 7) ⟨W88_b1 P Φ s⟩ ⟨W88_b3 P Φ s⟩
theorem W88_rs (τ : Nat → AV) (H : Heap) : resV Try.prog τ H [.cell 4 31] = rdV H 4 true (τ 4) := by kernel_rfl
theorem W88_eq (Φ : EP) (s : St) : awp Try.prog (Try.f88.body.getD .skip) Φ s = W88 Try.prog Φ s := by kernel_rfl

end Go.Proofs.Ytkagfenchknjjaa
set_option linter.unusedVariables false
namespace Go.Proofs.Ytkagfenchknjjaa
open Go Go.Am
-- 89 "penance/penanceref4.names"
def W89_k1 (P : Program) (Φ : EP) (s : St) : Prop :=
  @sMv 40 4 s <| .mk fun s =>
  @sMv 41 5 s <| .mk fun s =>
  @sMv 2 40 s <| .mk fun s =>
  @sMv 3 41 s <| .mk fun s =>
  Φ .ret s
def W89_b2 (P : Program) (Φ : EP) (L0 : SP) (s : St) : Prop :=
  @sMv 31 5 s <| .mk fun s =>
  @sFl 32 2 1 s <| .mk fun s =>
  @sLd 33 1 32 false s <| .mk fun s =>
  @sMv 34 7 s <| .mk fun s =>
  @sOp (some 35) (xIx 9 (s.τ 33) (s.τ 34) s.H) s <| .mk fun s =>
  @sFl 36 0 35 s <| .mk fun s =>
  @sLd 37 1 36 false s <| .mk fun s =>
  @sOp (some 38) (xLit 1 1 [.str ⟨#[]⟩] [(0, (s.τ 37))] s.H) s <| .mk fun s =>
  @sOp (some 39) (xApp P 9 1 16 (some 39) (s.τ 31) (s.τ 38) s.H) s <| .mk fun s =>
  @sMv 5 39 s <| .mk fun s =>
  @sMv 29 7 s <| .mk fun s =>
  @sOp (some 30) (xBin .add false (s.τ 29) (.int .i64 1) s.H) s <| .mk fun s =>
  @sMv 7 30 s <| .mk fun s =>
  L0 s
def W89_l3 (P : Program) (Φ : EP) (L0 : SP) (s : St) : Prop :=
  @sMv 24 7 s <| .mk fun s =>
  @sFl 25 2 1 s <| .mk fun s =>
  @sLd 26 1 25 false s <| .mk fun s =>
  @sOp (some 27) (xLen (s.τ 26) s.H) s <| .mk fun s =>
  @sOp (some 28) (xBin .lss false (s.τ 24) (s.τ 27) s.H) s <| .mk fun s =>
  @sIf (s.τ 28) ⟨W89_b2 P Φ L0 s⟩ ⟨W89_k1 P Φ s⟩
def W89_k4 (P : Program) (Φ : EP) (s : St) : Prop :=
  @sOp (some 7) (xMov (.int .i64 0) s.H) s <| .mk fun s =>
  @sLoop s ⟨fun L0 s => W89_l3 P Φ L0 s⟩
def W89_b5 (P : Program) (Φ : EP) (L0 : SP) (s : St) : Prop :=
  @sMv 15 4 s <| .mk fun s =>
  @sFl 16 0 1 s <| .mk fun s =>
  @sLd 17 1 16 false s <| .mk fun s =>
  @sMv 18 6 s <| .mk fun s =>
  @sOp (some 19) (xIx 2 (s.τ 17) (s.τ 18) s.H) s <| .mk fun s =>
  @sFl 20 0 19 s <| .mk fun s =>
  @sLd 21 1 20 false s <| .mk fun s =>
  @sOp (some 22) (xLit 1 1 [.str ⟨#[]⟩] [(0, (s.τ 21))] s.H) s <| .mk fun s =>
  @sOp (some 23) (xApp P 9 1 16 (some 23) (s.τ 15) (s.τ 22) s.H) s <| .mk fun s =>
  @sMv 4 23 s <| .mk fun s =>
  @sMv 13 6 s <| .mk fun s =>
  @sOp (some 14) (xBin .add false (s.τ 13) (.int .i64 1) s.H) s <| .mk fun s =>
  @sMv 6 14 s <| .mk fun s =>
  L0 s
def W89_l6 (P : Program) (Φ : EP) (L0 : SP) (s : St) : Prop :=
  @sMv 8 6 s <| .mk fun s =>
  @sFl 9 0 1 s <| .mk fun s =>
  @sLd 10 1 9 false s <| .mk fun s =>
  @sOp (some 11) (xLen (s.τ 10) s.H) s <| .mk fun s =>
  @sOp (some 12) (xBin .lss false (s.τ 8) (s.τ 11) s.H) s <| .mk fun s =>
  @sIf (s.τ 12) ⟨W89_b5 P Φ L0 s⟩ ⟨W89_k4 P Φ s⟩
def W89 (P : Program) (Φ : EP) (s : St) : Prop :=
  @sOp (some 1) (xBox 1 69 (s.τ 0) s.H) s <| .mk fun s =>
  @sOp (some 2) (xMov (.nils) s.H) s <| .mk fun s =>
  @sOp (some 3) (xMov (.nils) s.H) s <| .mk fun s =>
  @sOp (some 4) (xMov (.nils) s.H) s <| .mk fun s =>
  @sOp (some 5) (xMov (.nils) s.H) s <| .mk fun s =>
  @sOp (some 6) (xMov (.int .i64 0) s.H) s <| .mk fun s =>
  @sLoop s ⟨fun L0 s => W89_l6 P Φ L0 s⟩
theorem W89_rs (τ : Nat → AV) (H : Heap) : resV Try.prog τ H [.tmp 2, .tmp 3] = ob (ob (some (τ 2)) fun v => ob (ob (some (τ 3)) fun v => ob (some []) fun vs => some (v :: vs)) fun vs => some (v :: vs)) fun vs => some (.tup vs) := by kernel_rfl
theorem W89_eq (Φ : EP) (s : St) : awp Try.prog (Try.f89.body.getD .skip) Φ s = W89 Try.prog Φ s := by kernel_rfl

-- 90 "penance/penanceref4.twice"
def W90_k1 (P : Program) (Φ : EP) (s : St) : Prop :=
  @sOp (some 2) (xMov (.bool false) s.H) s <| .mk fun s =>
  Φ .ret s
def W90_b2 (P : Program) (Φ : EP) (L0 : SP) (s : St) : Prop :=
  @sOp (some 2) (xMov (.bool true) s.H) s <| .mk fun s =>
  Φ .ret s
def W90_b3 (P : Program) (Φ : EP) (L0 : SP) (s : St) : Prop :=
  @sMv 8 3 s <| .mk fun s =>
  @sOp (some 9) (xBin .add false (s.τ 8) (.int .i64 1) s.H) s <| .mk fun s =>
  @sMv 3 9 s <| .mk fun s =>
  L0 s
def W90_c4 (P : Program) (Φ : EP) (L0 : SP) (s : St) : Prop :=
  @sMv 16 3 s <| .mk fun s =>
  @sOp (some 17) (xBin .neq false (s.τ 15) (s.τ 16) s.H) s <| .mk fun s =>
  @sIf (s.τ 17) ⟨W90_b2 P Φ L0 s⟩ ⟨W90_b3 P Φ L0 s⟩
def W90_b5 (P : Program) (Φ : EP) (L0 : SP) (s : St) : Prop :=
  @sMv 10 0 s <| .mk fun s =>
  @sMv 11 0 s <| .mk fun s =>
  @sMv 12 3 s <| .mk fun s =>
  @sOp (some 13) (xIx 1 (s.τ 11) (s.τ 12) s.H) s <| .mk fun s =>
  @sLd 14 1 13 false s <| .mk fun s =>
  @sCall P (.func 91 []) [(s.τ 10), (s.τ 14)] (some 15) s ⟨W90_c4 P Φ L0⟩
def W90_l6 (P : Program) (Φ : EP) (L0 : SP) (s : St) : Prop :=
  @sMv 4 3 s <| .mk fun s =>
  @sMv 5 0 s <| .mk fun s =>
  @sOp (some 6) (xLen (s.τ 5) s.H) s <| .mk fun s =>
  @sOp (some 7) (xBin .lss false (s.τ 4) (s.τ 6) s.H) s <| .mk fun s =>
  @sIf (s.τ 7) ⟨W90_b5 P Φ L0 s⟩ ⟨W90_k1 P Φ s⟩
def W90 (P : Program) (Φ : EP) (s : St) : Prop :=
  @sOp (some 2) (xMov (.bool false) s.H) s <| .mk fun s =>
  @sOp (some 3) (xMov (.int .i64 0) s.H) s <| .mk fun s =>
  @sLoop s ⟨fun L0 s => W90_l6 P Φ L0 s⟩
theorem W90_rs (τ : Nat → AV) (H : Heap) : resV Try.prog τ H [.tmp 2] = some (τ 2) := by kernel_rfl
theorem W90_eq (Φ : EP) (s : St) : awp Try.prog (Try.f90.body.getD .skip) Φ s = W90 Try.prog Φ s := by kernel_rfl

-- 91 "penance/penanceref4.find"
def W91_k1 (P : Program) (Φ : EP) (s : St) : Prop :=
  @sOp (some 4) (xMov (.int .i64 (-1)) s.H) s <| .mk fun s =>
  Φ .ret s
def W91_b2 (P : Program) (Φ : EP) (L0 : SP) (s : St) : Prop :=
  @sMv 18 5 s <| .mk fun s =>
  @sMv 4 18 s <| .mk fun s =>
  Φ .ret s
def W91_b3 (P : Program) (Φ : EP) (L0 : SP) (s : St) : Prop :=
  @sMv 10 5 s <| .mk fun s =>
  @sOp (some 11) (xBin .add false (s.τ 10) (.int .i64 1) s.H) s <| .mk fun s =>
  @sMv 5 11 s <| .mk fun s =>
  L0 s
def W91_b4 (P : Program) (Φ : EP) (L0 : SP) (s : St) : Prop :=
  @sMv 12 0 s <| .mk fun s =>
  @sMv 13 5 s <| .mk fun s =>
  @sOp (some 14) (xIx 1 (s.τ 12) (s.τ 13) s.H) s <| .mk fun s =>
  @sLd 15 1 14 false s <| .mk fun s =>
  @sMv 16 1 s <| .mk fun s =>
  @sOp (some 17) (xBin .eql false (s.τ 15) (s.τ 16) s.H) s <| .mk fun s =>
  @sIf (s.τ 17) ⟨W91_b2 P Φ L0 s⟩ ⟨W91_b3 P Φ L0 s⟩
def W91_l5 (P : Program) (Φ : EP) (L0 : SP) (s : St) : Prop :=
  @sMv 6 5 s <| .mk fun s =>
  @sMv 7 0 s <| .mk fun s =>
  @sOp (some 8) (xLen (s.τ 7) s.H) s <| .mk fun s =>
  @sOp (some 9) (xBin .lss false (s.τ 6) (s.τ 8) s.H) s <| .mk fun s =>
  @sIf (s.τ 9) ⟨W91_b4 P Φ L0 s⟩ ⟨W91_k1 P Φ s⟩
def W91 (P : Program) (Φ : EP) (s : St) : Prop :=
  @sOp (some 4) (xMov (.int .i64 0) s.H) s <| .mk fun s =>
  @sOp (some 5) (xMov (.int .i64 0) s.H) s <| .mk fun s =>
  @sLoop s ⟨fun L0 s => W91_l5 P Φ L0 s⟩
theorem W91_rs (τ : Nat → AV) (H : Heap) : resV Try.prog τ H [.tmp 4] = some (τ 4) := by kernel_rfl
theorem W91_eq (Φ : EP) (s : St) : awp Try.prog (Try.f91.body.getD .skip) Φ s = W91 Try.prog Φ s := by kernel_rfl

-- 92 "(*penance/penanceref4.lower).proc"
def W92_k1 (P : Program) (Φ : EP) (s : St) : Prop :=
  @sLd 116 9 5 true s <| .mk fun s =>
  @sOp none (xStore 9 (s.τ 4) (s.τ 116) s.H) s <| .mk fun s =>
  Φ .ret s
def W92_c2 (P : Program) (Φ : EP) (L0 : SP) (u0 : St) (u1 : St) (s : St) : Prop :=
  @sChk (compat (occ (u0.τ 5), []) ([113] ++ occL [(s.τ 112)], [113] ++ occL [(s.τ 112)])) <| .mk <|
  @sChk (compat (occ (u1.τ 104), []) ([113] ++ occL [(s.τ 112)], [113] ++ occL [(s.τ 112)])) <| .mk <|
  @sOp (some 113) (xLit 9 1 [.int .i64 0, .int .i64 0, .int .i64 0, .str ⟨#[]⟩, .int .i64 0, .int .i64 0, .str ⟨#[]⟩, .nils, .nils] [(0, (s.τ 112))] s.H) s <| .mk fun u10 =>
  @sOp (some 114) (xApp P 34 9 120 (some 114) (u10.τ 105) (u10.τ 113) u10.H) u10 <| .mk fun u11 =>
  @sFl 115 8 5 u11 <| .mk fun u12 =>
  @sOp none (xStore 1 (u12.τ 115) (u12.τ 114) u12.H) u12 <| .mk fun s =>
  @sMv 102 6 s <| .mk fun s =>
  @sOp (some 103) (xBin .add false (s.τ 102) (.int .i64 1) s.H) s <| .mk fun s =>
  @sMv 6 103 s <| .mk fun s =>
  L0 s
def W92_b3 (P : Program) (Φ : EP) (L0 : SP) (s : St) : Prop :=
  @sFl 104 8 5 s <| .mk fun u1 =>
  @sLd 105 1 104 false u1 <| .mk fun u2 =>
  @sMv 106 0 u2 <| .mk fun u3 =>
  @sFl 107 7 3 u3 <| .mk fun u4 =>
  @sLd 108 1 107 false u4 <| .mk fun u5 =>
  @sMv 109 6 u5 <| .mk fun u6 =>
  @sOp (some 110) (xIx 8 (u6.τ 108) (u6.τ 109) u6.H) u6 <| .mk fun u7 =>
  @sLd 111 8 110 true u7 <| .mk fun u8 =>
  @sChk (compat (occ (s.τ 5), []) (cfp 112 92 [(u8.τ 106), (u8.τ 111)])) <| .mk <|
  @sChk (compat (occ (u1.τ 104), []) (cfp 112 92 [(u8.τ 106), (u8.τ 111)])) <| .mk <|
  @sCall0 P (.func 92 []) [(u8.τ 106), (u8.τ 111)] (some 112) u8 ⟨W92_c2 P Φ L0 s u1⟩
def W92_l4 (P : Program) (Φ : EP) (L0 : SP) (s : St) : Prop :=
  @sMv 97 6 s <| .mk fun s =>
  @sFl 98 7 3 s <| .mk fun s =>
  @sLd 99 1 98 false s <| .mk fun s =>
  @sOp (some 100) (xLen (s.τ 99) s.H) s <| .mk fun s =>
  @sOp (some 101) (xBin .lss false (s.τ 97) (s.τ 100) s.H) s <| .mk fun s =>
  @sIf (s.τ 101) ⟨W92_b3 P Φ L0 s⟩ ⟨W92_k1 P Φ s⟩
def W92_k5 (P : Program) (Φ : EP) (s : St) : Prop :=
  @sOp (some 6) (xMov (.int .i64 0) s.H) s <| .mk fun s =>
  @sLoop s ⟨fun L0 s => W92_l4 P Φ L0 s⟩
def W92_c6 (P : Program) (Φ : EP) (s : St) : Prop :=
  @sFl 29 1 5 s <| .mk fun s =>
  @sOp none (xStore 1 (s.τ 29) (s.τ 28) s.H) s <| .mk fun s =>
  W92_k5 P Φ s
def W92_b7 (P : Program) (Φ : EP) (s : St) : Prop :=
  @sMv 21 0 s <| .mk fun s =>
  @sMv 22 0 s <| .mk fun s =>
  @sOp (some 23) (xNil (s.τ 22) s.H) s <| .mk fun s =>
  @sFl 24 0 23 s <| .mk fun s =>
  @sLd 25 1 24 false s <| .mk fun s =>
  @sFl 26 2 3 s <| .mk fun s =>
  @sLd 27 1 26 false s <| .mk fun s =>
  @sCall0 P (.func 102 []) [(s.τ 21), (s.τ 25), (s.τ 27)] (some 28) s ⟨W92_c6 P Φ⟩
def W92_b8 (P : Program) (Φ : EP) (s : St) : Prop :=
  @sFl 14 1 3 s <| .mk fun s =>
  @sLd 15 1 14 false s <| .mk fun s =>
  @sFl 16 3 5 s <| .mk fun s =>
  @sOp none (xStore 1 (s.τ 16) (s.τ 15) s.H) s <| .mk fun s =>
  @sFl 17 1 5 s <| .mk fun s =>
  @sOp none (xStore 1 (s.τ 17) (.int .i64 (-1)) s.H) s <| .mk fun s =>
  @sFl 18 2 3 s <| .mk fun s =>
  @sLd 19 1 18 false s <| .mk fun s =>
  @sOp (some 20) (xBin .neq false (s.τ 19) (.str ⟨#[]⟩) s.H) s <| .mk fun s =>
  @sIf (s.τ 20) ⟨W92_b7 P Φ s⟩ ⟨W92_k5 P Φ s⟩
def W92_c9 (P : Program) (Φ : EP) (u11 : St) (s : St) : Prop :=
  @sChk (compat (cfp 43 103 [(u11.τ 40), (u11.τ 42)]) (occ (s.τ 5), [])) <| .mk <|
  @sFl 44 1 5 s <| .mk fun u13 =>
  @sOp none (xStore 1 (u13.τ 44) (u13.τ 39) u13.H) u13 <| .mk fun u14 =>
  @sFl 45 4 5 u14 <| .mk fun u15 =>
  @sOp none (xStore 4 (u15.τ 45) (u15.τ 43) u15.H) u15 <| .mk fun s =>
  W92_k5 P Φ s
def W92_c10 (P : Program) (Φ : EP) (u7 : St) (s : St) : Prop :=
  @sMv 40 0 s <| .mk fun u9 =>
  @sChk (compat (cfp 39 102 [(u7.τ 32), (u7.τ 36), (u7.τ 38)]) (occ (u9.τ 3), [])) <| .mk <|
  @sFl 41 3 3 u9 <| .mk fun u10 =>
  @sChk (compat (cfp 39 102 [(u7.τ 32), (u7.τ 36), (u7.τ 38)]) (occ (u10.τ 41), [])) <| .mk <|
  @sLd 42 4 41 true u10 <| .mk fun u11 =>
  @sCall0 P (.func 103 []) [(u11.τ 40), (u11.τ 42)] (some 43) u11 ⟨W92_c9 P Φ u11⟩
def W92_b11 (P : Program) (Φ : EP) (s : St) : Prop :=
  @sMv 32 0 s <| .mk fun u1 =>
  @sMv 33 0 u1 <| .mk fun u2 =>
  @sOp (some 34) (xNil (u2.τ 33) u2.H) u2 <| .mk fun u3 =>
  @sFl 35 0 34 u3 <| .mk fun u4 =>
  @sLd 36 1 35 false u4 <| .mk fun u5 =>
  @sFl 37 2 3 u5 <| .mk fun u6 =>
  @sLd 38 1 37 false u6 <| .mk fun u7 =>
  @sCall0 P (.func 102 []) [(u7.τ 32), (u7.τ 36), (u7.τ 38)] (some 39) u7 ⟨W92_c10 P Φ u7⟩
def W92_c12 (P : Program) (Φ : EP) (s : St) : Prop :=
  @sFl 58 1 5 s <| .mk fun s =>
  @sOp none (xStore 1 (s.τ 58) (s.τ 57) s.H) s <| .mk fun s =>
  W92_k5 P Φ s
def W92_b13 (P : Program) (Φ : EP) (s : St) : Prop :=
  @sMv 50 0 s <| .mk fun s =>
  @sMv 51 0 s <| .mk fun s =>
  @sOp (some 52) (xNil (s.τ 51) s.H) s <| .mk fun s =>
  @sFl 53 1 52 s <| .mk fun s =>
  @sLd 54 1 53 false s <| .mk fun s =>
  @sFl 55 1 3 s <| .mk fun s =>
  @sLd 56 1 55 false s <| .mk fun s =>
  @sCall0 P (.func 102 []) [(s.τ 50), (s.τ 54), (s.τ 56)] (some 57) s ⟨W92_c12 P Φ⟩
def W92_c14 (P : Program) (Φ : EP) (u15 : St) (s : St) : Prop :=
  @sChk (compat (cfp 76 102 [(u15.τ 69), (u15.τ 73), (u15.τ 75)]) (occ (s.τ 5), [])) <| .mk <|
  @sFl 77 1 5 s <| .mk fun u17 =>
  @sOp none (xStore 1 (u17.τ 77) (u17.τ 68) u17.H) u17 <| .mk fun u18 =>
  @sFl 78 2 5 u18 <| .mk fun u19 =>
  @sOp none (xStore 1 (u19.τ 78) (u19.τ 76) u19.H) u19 <| .mk fun s =>
  W92_k5 P Φ s
def W92_c15 (P : Program) (Φ : EP) (u7 : St) (s : St) : Prop :=
  @sMv 69 0 s <| .mk fun u9 =>
  @sMv 70 0 u9 <| .mk fun u10 =>
  @sChk (compat (cfp 68 102 [(u7.τ 61), (u7.τ 65), (u7.τ 67)]) (occ (u10.τ 70), [])) <| .mk <|
  @sOp (some 71) (xNil (u10.τ 70) u10.H) u10 <| .mk fun u11 =>
  @sChk (compat (cfp 68 102 [(u7.τ 61), (u7.τ 65), (u7.τ 67)]) (occ (u11.τ 71), [])) <| .mk <|
  @sFl 72 1 71 u11 <| .mk fun u12 =>
  @sChk (compat (cfp 68 102 [(u7.τ 61), (u7.τ 65), (u7.τ 67)]) (occ (u12.τ 72), [])) <| .mk <|
  @sLd 73 1 72 false u12 <| .mk fun u13 =>
  @sChk (compat (cfp 68 102 [(u7.τ 61), (u7.τ 65), (u7.τ 67)]) (occ (u13.τ 3), [])) <| .mk <|
  @sFl 74 2 3 u13 <| .mk fun u14 =>
  @sChk (compat (cfp 68 102 [(u7.τ 61), (u7.τ 65), (u7.τ 67)]) (occ (u14.τ 74), [])) <| .mk <|
  @sLd 75 1 74 false u14 <| .mk fun u15 =>
  @sCall0 P (.func 102 []) [(u15.τ 69), (u15.τ 73), (u15.τ 75)] (some 76) u15 ⟨W92_c14 P Φ u15⟩
def W92_b16 (P : Program) (Φ : EP) (s : St) : Prop :=
  @sMv 61 0 s <| .mk fun u1 =>
  @sMv 62 0 u1 <| .mk fun u2 =>
  @sOp (some 63) (xNil (u2.τ 62) u2.H) u2 <| .mk fun u3 =>
  @sFl 64 1 63 u3 <| .mk fun u4 =>
  @sLd 65 1 64 false u4 <| .mk fun u5 =>
  @sFl 66 1 3 u5 <| .mk fun u6 =>
  @sLd 67 1 66 false u6 <| .mk fun u7 =>
  @sCall0 P (.func 102 []) [(u7.τ 61), (u7.τ 65), (u7.τ 67)] (some 68) u7 ⟨W92_c15 P Φ u7⟩
def W92_c17 (P : Program) (Φ : EP) (s : St) : Prop :=
  @sFl 85 4 5 s <| .mk fun s =>
  @sOp none (xStore 4 (s.τ 85) (s.τ 84) s.H) s <| .mk fun s =>
  W92_k5 P Φ s
def W92_b18 (P : Program) (Φ : EP) (s : St) : Prop :=
  @sMv 81 0 s <| .mk fun s =>
  @sFl 82 3 3 s <| .mk fun s =>
  @sLd 83 4 82 true s <| .mk fun s =>
  @sCall P (.func 103 []) [(s.τ 81), (s.τ 83)] (some 84) s ⟨W92_c17 P Φ⟩
def W92_c19 (P : Program) (Φ : EP) (s : St) : Prop :=
  @sFl 96 1 5 s <| .mk fun s =>
  @sOp none (xStore 1 (s.τ 96) (s.τ 95) s.H) s <| .mk fun s =>
  W92_k5 P Φ s
def W92_b20 (P : Program) (Φ : EP) (s : St) : Prop :=
  @sMv 88 0 s <| .mk fun s =>
  @sMv 89 0 s <| .mk fun s =>
  @sOp (some 90) (xNil (s.τ 89) s.H) s <| .mk fun s =>
  @sFl 91 2 90 s <| .mk fun s =>
  @sLd 92 1 91 false s <| .mk fun s =>
  @sFl 93 1 3 s <| .mk fun s =>
  @sLd 94 1 93 false s <| .mk fun s =>
  @sCall0 P (.func 102 []) [(s.τ 88), (s.τ 92), (s.τ 94)] (some 95) s ⟨W92_c19 P Φ⟩
def W92_b21 (P : Program) (Φ : EP) (s : St) : Prop :=
  @sOp (some 87) (xBin .eql false (s.τ 11) (.int .i64 13) s.H) s <| .mk fun s =>
  @sMv 86 87 s <| .mk fun s =>
  @sIf (s.τ 86) ⟨W92_b20 P Φ s⟩ ⟨W92_k5 P Φ s⟩
def W92_b22 (P : Program) (Φ : EP) (s : St) : Prop :=
  @sOp (some 80) (xBin .eql false (s.τ 11) (.int .i64 9) s.H) s <| .mk fun s =>
  @sMv 79 80 s <| .mk fun s =>
  @sIf (s.τ 79) ⟨W92_b18 P Φ s⟩ ⟨W92_b21 P Φ s⟩
def W92_b23 (P : Program) (Φ : EP) (s : St) : Prop :=
  @sOp (some 60) (xBin .eql false (s.τ 11) (.int .i64 6) s.H) s <| .mk fun s =>
  @sMv 59 60 s <| .mk fun s =>
  @sIf (s.τ 59) ⟨W92_b16 P Φ s⟩ ⟨W92_b22 P Φ s⟩
def W92_k24 (P : Program) (Φ : EP) (s : St) : Prop :=
  @sIf (s.τ 46) ⟨W92_b13 P Φ s⟩ ⟨W92_b23 P Φ s⟩
def W92_b25 (P : Program) (Φ : EP) (s : St) : Prop :=
  @sOp (some 49) (xBin .eql false (s.τ 11) (.int .i64 5) s.H) s <| .mk fun s =>
  @sMv 46 49 s <| .mk fun s =>
  W92_k24 P Φ s
def W92_b26 (P : Program) (Φ : EP) (s : St) : Prop :=
  @sOp (some 48) (xBin .eql false (s.τ 11) (.int .i64 4) s.H) s <| .mk fun s =>
  @sMv 46 48 s <| .mk fun s =>
  @sIf (s.τ 46) ⟨W92_k24 P Φ s⟩ ⟨W92_b25 P Φ s⟩
def W92_b27 (P : Program) (Φ : EP) (s : St) : Prop :=
  @sOp (some 47) (xBin .eql false (s.τ 11) (.int .i64 3) s.H) s <| .mk fun s =>
  @sMv 46 47 s <| .mk fun s =>
  @sIf (s.τ 46) ⟨W92_k24 P Φ s⟩ ⟨W92_b26 P Φ s⟩
def W92_b28 (P : Program) (Φ : EP) (s : St) : Prop :=
  @sOp (some 31) (xBin .eql false (s.τ 11) (.int .i64 2) s.H) s <| .mk fun s =>
  @sMv 30 31 s <| .mk fun s =>
  @sIf (s.τ 30) ⟨W92_b11 P Φ s⟩ ⟨W92_b27 P Φ s⟩
def W92 (P : Program) (Φ : EP) (s : St) : Prop :=
  @sOp (some 3) (xBox 3 73 (s.τ 1) s.H) s <| .mk fun s =>
  @sOp (some 4) (xAlloc 4 34 [.int .i64 0, .int .i64 0, .int .i64 0, .str ⟨#[]⟩, .int .i64 0, .int .i64 0, .str ⟨#[]⟩, .nils, .nils] s.H) s <| .mk fun s =>
  @sFl 7 0 3 s <| .mk fun s =>
  @sLd 8 1 7 false s <| .mk fun s =>
  @sOp (some 9) (xBuild [.int .i64 0, .int .i64 0, .int .i64 0, .str ⟨#[]⟩, .int .i64 0, .int .i64 0, .str ⟨#[]⟩, .nils, .nils] [(0, 1, (s.τ 8))] s.H) s <| .mk fun s =>
  @sOp (some 5) (xAlloc 5 34 [.int .i64 0, .int .i64 0, .int .i64 0, .str ⟨#[]⟩, .int .i64 0, .int .i64 0, .str ⟨#[]⟩, .nils, .nils] s.H) s <| .mk fun s =>
  @sOp none (xStore 9 (s.τ 5) (s.τ 9) s.H) s <| .mk fun s =>
  @sFl 10 0 3 s <| .mk fun s =>
  @sLd 11 1 10 false s <| .mk fun s =>
  @sOp (some 13) (xBin .eql false (s.τ 11) (.int .i64 1) s.H) s <| .mk fun s =>
  @sMv 12 13 s <| .mk fun s =>
  @sIf (s.τ 12) ⟨W92_b8 P Φ s⟩ ⟨W92_b28 P Φ s⟩
theorem W92_rs (τ : Nat → AV) (H : Heap) : resV Try.prog τ H [.cell 4 34] = rdV H 9 true (τ 4) := by kernel_rfl
theorem W92_eq (Φ : EP) (s : St) : awp Try.prog (Try.f92.body.getD .skip) Φ s = W92 Try.prog Φ s := by kernel_rfl

-- 93 "penance/penanceref4.round"
def W93_k1 (P : Program) (Φ : EP) (s : St) : Prop :=
  @sOp (some 2) (xMov (.bool false) s.H) s <| .mk fun s =>
  Φ .ret s
def W93_b2 (P : Program) (Φ : EP) (L0 : SP) (s : St) : Prop :=
  @sOp (some 2) (xMov (.bool true) s.H) s <| .mk fun s =>
  Φ .ret s
def W93_b3 (P : Program) (Φ : EP) (L0 : SP) (s : St) : Prop :=
  @sMv 62 8 s <| .mk fun s =>
  @sOp (some 63) (xBin .add false (s.τ 62) (.int .i64 1) s.H) s <| .mk fun s =>
  @sMv 8 63 s <| .mk fun s =>
  L0 s
def W93_b4 (P : Program) (Φ : EP) (L0 : SP) (s : St) : Prop :=
  @sMv 64 3 s <| .mk fun s =>
  @sMv 65 8 s <| .mk fun s =>
  @sOp (some 66) (xIx 1 (s.τ 64) (s.τ 65) s.H) s <| .mk fun s =>
  @sLd 67 1 66 false s <| .mk fun s =>
  @sMv 68 8 s <| .mk fun s =>
  @sOp (some 69) (xIx 1 (s.τ 67) (s.τ 68) s.H) s <| .mk fun s =>
  @sLd 70 1 69 false s <| .mk fun s =>
  @sIf (s.τ 70) ⟨W93_b2 P Φ L0 s⟩ ⟨W93_b3 P Φ L0 s⟩
def W93_l5 (P : Program) (Φ : EP) (L0 : SP) (s : St) : Prop :=
  @sMv 59 8 s <| .mk fun s =>
  @sMv 60 4 s <| .mk fun s =>
  @sOp (some 61) (xBin .lss false (s.τ 59) (s.τ 60) s.H) s <| .mk fun s =>
  @sIf (s.τ 61) ⟨W93_b4 P Φ L0 s⟩ ⟨W93_k1 P Φ s⟩
def W93_k6 (P : Program) (Φ : EP) (s : St) : Prop :=
  @sOp (some 8) (xMov (.int .i64 0) s.H) s <| .mk fun s =>
  @sLoop s ⟨fun L0 s => W93_l5 P Φ L0 s⟩
def W93_k7 (P : Program) (Φ : EP) (L0 : SP) (s : St) : Prop :=
  @sMv 16 5 s <| .mk fun s =>
  @sOp (some 17) (xBin .add false (s.τ 16) (.int .i64 1) s.H) s <| .mk fun s =>
  @sMv 5 17 s <| .mk fun s =>
  L0 s
def W93_k8 (P : Program) (Φ : EP) (L0 : SP) (L1 : SP) (s : St) : Prop :=
  @sMv 21 6 s <| .mk fun s =>
  @sOp (some 22) (xBin .add false (s.τ 21) (.int .i64 1) s.H) s <| .mk fun s =>
  @sMv 6 22 s <| .mk fun s =>
  L1 s
def W93_c9 (P : Program) (Φ : EP) (L0 : SP) (L1 : SP) (L2 : SP) (s : St) : Prop :=
  @sOp (some 57) (xPick (s.τ 40) (.bool true) (s.τ 56) s.H) s <| .mk fun s =>
  @sOp (some 58) (xIx 1 (s.τ 31) (s.τ 32) s.H) s <| .mk fun s =>
  @sOp none (xStore 1 (s.τ 58) (s.τ 57) s.H) s <| .mk fun s =>
  @sMv 26 7 s <| .mk fun s =>
  @sOp (some 27) (xBin .add false (s.τ 26) (.int .i64 1) s.H) s <| .mk fun s =>
  @sMv 7 27 s <| .mk fun s =>
  L2 s
def W93_c10 (P : Program) (Φ : EP) (L0 : SP) (L1 : SP) (L2 : SP) (s : St) : Prop :=
  @sGrd (guardOf (s.τ 40) false) (some 56) s ⟨fun s K => @sOp (some 56) (xPick (s.τ 48) (s.τ 55) (.bool false) s.H) s ⟨K⟩⟩ ⟨W93_c9 P Φ L0 L1 L2⟩
def W93_c11 (P : Program) (Φ : EP) (L0 : SP) (L1 : SP) (L2 : SP) (s : St) : Prop :=
  @sGl 55 1 54 48 false true s ⟨W93_c10 P Φ L0 L1 L2⟩
def W93_c12 (P : Program) (Φ : EP) (L0 : SP) (L1 : SP) (L2 : SP) (s : St) : Prop :=
  @sGrd (guardOf (s.τ 48) true) (some 54) s ⟨fun s K => @sOp (some 54) (xIx 1 (s.τ 52) (s.τ 53) s.H) s ⟨K⟩⟩ ⟨W93_c11 P Φ L0 L1 L2⟩
def W93_c13 (P : Program) (Φ : EP) (L0 : SP) (L1 : SP) (L2 : SP) (s : St) : Prop :=
  @sGm 53 7 48 true s ⟨W93_c12 P Φ L0 L1 L2⟩
def W93_c14 (P : Program) (Φ : EP) (L0 : SP) (L1 : SP) (L2 : SP) (s : St) : Prop :=
  @sGl 52 1 51 48 false true s ⟨W93_c13 P Φ L0 L1 L2⟩
def W93_c15 (P : Program) (Φ : EP) (L0 : SP) (L1 : SP) (L2 : SP) (s : St) : Prop :=
  @sGrd (guardOf (s.τ 48) true) (some 51) s ⟨fun s K => @sOp (some 51) (xIx 1 (s.τ 49) (s.τ 50) s.H) s ⟨K⟩⟩ ⟨W93_c14 P Φ L0 L1 L2⟩
def W93_c16 (P : Program) (Φ : EP) (L0 : SP) (L1 : SP) (L2 : SP) (s : St) : Prop :=
  @sGm 50 5 48 true s ⟨W93_c15 P Φ L0 L1 L2⟩
def W93_c17 (P : Program) (Φ : EP) (L0 : SP) (L1 : SP) (L2 : SP) (s : St) : Prop :=
  @sGm 49 3 48 true s ⟨W93_c16 P Φ L0 L1 L2⟩
def W93_c18 (P : Program) (Φ : EP) (L0 : SP) (L1 : SP) (L2 : SP) (s : St) : Prop :=
  @sGm 48 47 40 false s ⟨W93_c17 P Φ L0 L1 L2⟩
def W93_c19 (P : Program) (Φ : EP) (L0 : SP) (L1 : SP) (L2 : SP) (s : St) : Prop :=
  @sGl 47 1 46 40 false false s ⟨W93_c18 P Φ L0 L1 L2⟩
def W93_c20 (P : Program) (Φ : EP) (L0 : SP) (L1 : SP) (L2 : SP) (s : St) : Prop :=
  @sGrd (guardOf (s.τ 40) false) (some 46) s ⟨fun s K => @sOp (some 46) (xIx 1 (s.τ 44) (s.τ 45) s.H) s ⟨K⟩⟩ ⟨W93_c19 P Φ L0 L1 L2⟩
def W93_c21 (P : Program) (Φ : EP) (L0 : SP) (L1 : SP) (L2 : SP) (s : St) : Prop :=
  @sGm 45 5 40 false s ⟨W93_c20 P Φ L0 L1 L2⟩
def W93_c22 (P : Program) (Φ : EP) (L0 : SP) (L1 : SP) (L2 : SP) (s : St) : Prop :=
  @sGl 44 1 43 40 false false s ⟨W93_c21 P Φ L0 L1 L2⟩
def W93_c23 (P : Program) (Φ : EP) (L0 : SP) (L1 : SP) (L2 : SP) (s : St) : Prop :=
  @sGrd (guardOf (s.τ 40) false) (some 43) s ⟨fun s K => @sOp (some 43) (xIx 1 (s.τ 41) (s.τ 42) s.H) s ⟨K⟩⟩ ⟨W93_c22 P Φ L0 L1 L2⟩
def W93_c24 (P : Program) (Φ : EP) (L0 : SP) (L1 : SP) (L2 : SP) (s : St) : Prop :=
  @sGm 42 6 40 false s ⟨W93_c23 P Φ L0 L1 L2⟩
def W93_b25 (P : Program) (Φ : EP) (L0 : SP) (L1 : SP) (L2 : SP) (s : St) : Prop :=
  @sMv 28 3 s <| .mk fun s =>
  @sMv 29 6 s <| .mk fun s =>
  @sOp (some 30) (xIx 1 (s.τ 28) (s.τ 29) s.H) s <| .mk fun s =>
  @sLd 31 1 30 false s <| .mk fun s =>
  @sMv 32 7 s <| .mk fun s =>
  @sMv 33 3 s <| .mk fun s =>
  @sMv 34 6 s <| .mk fun s =>
  @sOp (some 35) (xIx 1 (s.τ 33) (s.τ 34) s.H) s <| .mk fun s =>
  @sLd 36 1 35 false s <| .mk fun s =>
  @sMv 37 7 s <| .mk fun s =>
  @sOp (some 38) (xIx 1 (s.τ 36) (s.τ 37) s.H) s <| .mk fun s =>
  @sLd 39 1 38 false s <| .mk fun s =>
  @sMv 40 39 s <| .mk fun s =>
  @sGm 41 3 40 false s ⟨W93_c24 P Φ L0 L1 L2⟩
def W93_l26 (P : Program) (Φ : EP) (L0 : SP) (L1 : SP) (L2 : SP) (s : St) : Prop :=
  @sMv 23 7 s <| .mk fun s =>
  @sMv 24 4 s <| .mk fun s =>
  @sOp (some 25) (xBin .lss false (s.τ 23) (s.τ 24) s.H) s <| .mk fun s =>
  @sIf (s.τ 25) ⟨W93_b25 P Φ L0 L1 L2 s⟩ ⟨W93_k8 P Φ L0 L1 s⟩
def W93_b27 (P : Program) (Φ : EP) (L0 : SP) (L1 : SP) (s : St) : Prop :=
  @sOp (some 7) (xMov (.int .i64 0) s.H) s <| .mk fun s =>
  @sLoop s ⟨fun L2 s => W93_l26 P Φ L0 L1 L2 s⟩
def W93_l28 (P : Program) (Φ : EP) (L0 : SP) (L1 : SP) (s : St) : Prop :=
  @sMv 18 6 s <| .mk fun s =>
  @sMv 19 4 s <| .mk fun s =>
  @sOp (some 20) (xBin .lss false (s.τ 18) (s.τ 19) s.H) s <| .mk fun s =>
  @sIf (s.τ 20) ⟨W93_b27 P Φ L0 L1 s⟩ ⟨W93_k7 P Φ L0 s⟩
def W93_b29 (P : Program) (Φ : EP) (L0 : SP) (s : St) : Prop :=
  @sOp (some 6) (xMov (.int .i64 0) s.H) s <| .mk fun s =>
  @sLoop s ⟨fun L1 s => W93_l28 P Φ L0 L1 s⟩
def W93_l30 (P : Program) (Φ : EP) (L0 : SP) (s : St) : Prop :=
  @sMv 13 5 s <| .mk fun s =>
  @sMv 14 4 s <| .mk fun s =>
  @sOp (some 15) (xBin .lss false (s.τ 13) (s.τ 14) s.H) s <| .mk fun s =>
  @sIf (s.τ 15) ⟨W93_b29 P Φ L0 s⟩ ⟨W93_k6 P Φ s⟩
def W93_c31 (P : Program) (Φ : EP) (s : St) : Prop :=
  @sMv 3 10 s <| .mk fun s =>
  @sMv 11 3 s <| .mk fun s =>
  @sOp (some 12) (xLen (s.τ 11) s.H) s <| .mk fun s =>
  @sMv 4 12 s <| .mk fun s =>
  @sOp (some 5) (xMov (.int .i64 0) s.H) s <| .mk fun s =>
  @sLoop s ⟨fun L0 s => W93_l30 P Φ L0 s⟩
def W93 (P : Program) (Φ : EP) (s : St) : Prop :=
  @sOp (some 1) (xBox 1 69 (s.τ 0) s.H) s <| .mk fun s =>
  @sOp (some 2) (xMov (.bool false) s.H) s <| .mk fun s =>
  @sLd 9 3 1 true s <| .mk fun s =>
  @sCall P (.func 104 []) [(s.τ 9)] (some 10) s ⟨W93_c31 P Φ⟩
theorem W93_rs (τ : Nat → AV) (H : Heap) : resV Try.prog τ H [.tmp 2] = some (τ 2) := by kernel_rfl
theorem W93_eq (Φ : EP) (s : St) : awp Try.prog (Try.f93.body.getD .skip) Φ s = W93 Try.prog Φ s := by kernel_rfl

-- 95 "penance/lex.Key"
def W95_c1 (P : Program) (Φ : EP) (s : St) : Prop :=
  @sMv 2 5 s <| .mk fun s =>
  Φ .ret s
def W95_c2 (P : Program) (Φ : EP) (s : St) : Prop :=
  @sMv 4 0 s <| .mk fun s =>
  @sCall P (.func 105 []) [(s.τ 3), (s.τ 4)] (some 5) s ⟨W95_c1 P Φ⟩
def W95 (P : Program) (Φ : EP) (s : St) : Prop :=
  @sOp (some 2) (xMov (.bool false) s.H) s <| .mk fun s =>
  @sCall P (.func 106 []) [] (some 3) s ⟨W95_c2 P Φ⟩
theorem W95_rs (τ : Nat → AV) (H : Heap) : resV Try.prog τ H [.tmp 2] = some (τ 2) := by kernel_rfl
theorem W95_eq (Φ : EP) (s : St) : awp Try.prog (Try.f95.body.getD .skip) Φ s = W95 Try.prog Φ s := by kernel_rfl

-- 96 "penance/lex.small"
def W96_c1 (P : Program) (Φ : EP) (s : St) : Prop :=
  @sOp (some 8) (xPick (s.τ 5) (s.τ 7) (.bool false) s.H) s <| .mk fun s =>
  @sMv 2 8 s <| .mk fun s =>
  Φ .ret s
def W96_c2 (P : Program) (Φ : EP) (s : St) : Prop :=
  @sGrd (guardOf (s.τ 5) true) (some 7) s ⟨fun s K => @sOp (some 7) (xBin .leq false (s.τ 6) (.int .u8 122) s.H) s ⟨K⟩⟩ ⟨W96_c1 P Φ⟩
def W96 (P : Program) (Φ : EP) (s : St) : Prop :=
  @sOp (some 2) (xMov (.bool false) s.H) s <| .mk fun s =>
  @sMv 3 0 s <| .mk fun s =>
  @sOp (some 4) (xBin .geq false (s.τ 3) (.int .u8 97) s.H) s <| .mk fun s =>
  @sMv 5 4 s <| .mk fun s =>
  @sGm 6 0 5 true s ⟨W96_c2 P Φ⟩
theorem W96_rs (τ : Nat → AV) (H : Heap) : resV Try.prog τ H [.tmp 2] = some (τ 2) := by kernel_rfl
theorem W96_eq (Φ : EP) (s : St) : awp Try.prog (Try.f96.body.getD .skip) Φ s = W96 Try.prog Φ s := by kernel_rfl

-- 97 "penance/lex.inner"
def W97_c1 (P : Program) (Φ : EP) (s : St) : Prop :=
  @sOp (some 12) (xPick (s.τ 9) (.bool true) (s.τ 11) s.H) s <| .mk fun s =>
  @sMv 2 12 s <| .mk fun s =>
  Φ .ret s
def W97_c2 (P : Program) (Φ : EP) (s : St) : Prop :=
  @sGrd (guardOf (s.τ 9) false) (some 11) s ⟨fun s K => @sOp (some 11) (xBin .eql false (s.τ 10) (.int .u8 95) s.H) s ⟨K⟩⟩ ⟨W97_c1 P Φ⟩
def W97_c3 (P : Program) (Φ : EP) (s : St) : Prop :=
  @sOp (some 8) (xPick (s.τ 5) (.bool true) (s.τ 7) s.H) s <| .mk fun s =>
  @sMv 9 8 s <| .mk fun s =>
  @sGm 10 0 9 false s ⟨W97_c2 P Φ⟩
def W97_c4 (P : Program) (Φ : EP) (s : St) : Prop :=
  @sGrd (guardOf (s.τ 5) false) (some 7) s ⟨fun s K => @sCall P (.func 107 []) [(s.τ 6)] (some 7) s ⟨K⟩⟩ ⟨W97_c3 P Φ⟩
def W97_c5 (P : Program) (Φ : EP) (s : St) : Prop :=
  @sMv 5 4 s <| .mk fun s =>
  @sGm 6 0 5 false s ⟨W97_c4 P Φ⟩
def W97 (P : Program) (Φ : EP) (s : St) : Prop :=
  @sOp (some 2) (xMov (.bool false) s.H) s <| .mk fun s =>
  @sMv 3 0 s <| .mk fun s =>
  @sCall P (.func 96 []) [(s.τ 3)] (some 4) s ⟨W97_c5 P Φ⟩
theorem W97_rs (τ : Nat → AV) (H : Heap) : resV Try.prog τ H [.tmp 2] = some (τ 2) := by kernel_rfl
theorem W97_eq (Φ : EP) (s : St) : awp Try.prog (Try.f97.body.getD .skip) Φ s = W97 Try.prog Φ s := by kernel_rfl

-- 98 "penance/expr.all"

def W98 (P : Program) (Φ : EP) (s : St) : Prop :=
  @sOp (some 1) (xBox 1 31 (s.τ 0) s.H) s <| .mk fun s =>
  @sOp (some 2) (xMov (.nilf) s.H) s <| .mk fun s =>
  @sOp (some 3) (xMkf 108 [(s.τ 1)] s.H) s <| .mk fun s =>
  @sMv 2 3 s <| .mk fun s =>
  Φ .ret s
theorem W98_rs (τ : Nat → AV) (H : Heap) : resV Try.prog τ H [.tmp 2] = some (τ 2) := by kernel_rfl
theorem W98_eq (Φ : EP) (s : St) : awp Try.prog (Try.f98.body.getD .skip) Φ s = W98 Try.prog Φ s := by kernel_rfl

-- 99 "penance/expr.children"
def W99_b1 (P : Program) (Φ : EP) (s : St) : Prop :=
  @sOp (some 2) (xMov (.int .i64 0) s.H) s <| .mk fun s =>
  Φ .ret s
def W99_b2 (P : Program) (Φ : EP) (s : St) : Prop :=
  @sOp (some 2) (xMov (.int .i64 1) s.H) s <| .mk fun s =>
  Φ .ret s
def W99_b3 (P : Program) (Φ : EP) (s : St) : Prop :=
  @sOp (some 2) (xMov (.int .i64 2) s.H) s <| .mk fun s =>
  Φ .ret s
def W99_c4 (P : Program) (Φ : EP) (s : St) : Prop :=
  @sOp (some 16) (xPick (s.τ 13) (.bool true) (s.τ 15) s.H) s <| .mk fun s =>
  @sMv 10 16 s <| .mk fun s =>
  @sIf (s.τ 10) ⟨W99_b2 P Φ s⟩ ⟨W99_b3 P Φ s⟩
def W99_c5 (P : Program) (Φ : EP) (s : St) : Prop :=
  @sGrd (guardOf (s.τ 13) false) (some 15) s ⟨fun s K => @sOp (some 15) (xBin .eql false (s.τ 14) (.int .i64 4) s.H) s ⟨K⟩⟩ ⟨W99_c4 P Φ⟩
def W99_b6 (P : Program) (Φ : EP) (s : St) : Prop :=
  @sMv 11 0 s <| .mk fun s =>
  @sOp (some 12) (xBin .eql false (s.τ 11) (.int .i64 3) s.H) s <| .mk fun s =>
  @sMv 13 12 s <| .mk fun s =>
  @sGm 14 0 13 false s ⟨W99_c5 P Φ⟩
def W99_c7 (P : Program) (Φ : EP) (s : St) : Prop :=
  @sOp (some 9) (xPick (s.τ 6) (.bool true) (s.τ 8) s.H) s <| .mk fun s =>
  @sMv 3 9 s <| .mk fun s =>
  @sIf (s.τ 3) ⟨W99_b1 P Φ s⟩ ⟨W99_b6 P Φ s⟩
def W99_c8 (P : Program) (Φ : EP) (s : St) : Prop :=
  @sGrd (guardOf (s.τ 6) false) (some 8) s ⟨fun s K => @sOp (some 8) (xBin .eql false (s.τ 7) (.int .i64 2) s.H) s ⟨K⟩⟩ ⟨W99_c7 P Φ⟩
def W99 (P : Program) (Φ : EP) (s : St) : Prop :=
  @sOp (some 2) (xMov (.int .i64 0) s.H) s <| .mk fun s =>
  @sMv 4 0 s <| .mk fun s =>
  @sOp (some 5) (xBin .eql false (s.τ 4) (.int .i64 1) s.H) s <| .mk fun s =>
  @sMv 6 5 s <| .mk fun s =>
  @sGm 7 0 6 false s ⟨W99_c8 P Φ⟩
theorem W99_rs (τ : Nat → AV) (H : Heap) : resV Try.prog τ H [.tmp 2] = some (τ 2) := by kernel_rfl
theorem W99_eq (Φ : EP) (s : St) : awp Try.prog (Try.f99.body.getD .skip) Φ s = W99 Try.prog Φ s := by kernel_rfl

-- 100 "slices.Clone[[]penance/api.Expr,penance/api.Expr]"
def W100_b1 (P : Program) (Φ : EP) (s : St) : Prop :=
  @sOp (some 2) (xMov (.nils) s.H) s <| .mk fun s =>
  Φ .ret s
def W100_b2 (P : Program) (Φ : EP) (s : St) : Prop :=
  @sOp (some 5) (xRow 5 31 4 0 [.int .i64 0, .int .i64 0, .str ⟨#[]⟩, .nils] [] s.H) s <| .mk fun s =>
  @sMv 6 0 s <| .mk fun s =>
  @sOp (some 7) (xApp P 31 4 56 (some 7) (s.τ 5) (s.τ 6) s.H) s <| .mk fun s =>
  @sMv 2 7 s <| .mk fun s =>
  Φ .ret s
def W100_c3 (P : Program) (Φ : EP) (s : St) : Prop :=
  @sIf (s.τ 4) ⟨W100_b1 P Φ s⟩ ⟨W100_b2 P Φ s⟩
def W100 (P : Program) (Φ : EP) (s : St) : Prop :=
  @sOp (some 2) (xMov (.nils) s.H) s <| .mk fun s =>
  @sMv 3 0 s <| .mk fun s =>
  @sNil false (s.τ 3) (some 4) s ⟨W100_c3 P Φ⟩
theorem W100_rs (τ : Nat → AV) (H : Heap) : resV Try.prog τ H [.tmp 2] = some (τ 2) := by kernel_rfl
theorem W100_eq (Φ : EP) (s : St) : awp Try.prog (Try.f100.body.getD .skip) Φ s = W100 Try.prog Φ s := by kernel_rfl

-- 101 "(penance/penancelaw2.Raw).Make"
def W101_c1 (P : Program) (Φ : EP) (s : St) : Prop :=
  @sOp (some 27) (xIx 1 (s.τ 23) (s.τ 26) s.H) s <| .mk fun s =>
  @sLd 28 1 27 false s <| .mk fun s =>
  @sOp (some 29) (xBuild [.int .i64 0, .int .i64 0, .str ⟨#[]⟩, .nils] [(0, 1, (.int .i64 1)), (1, 1, (s.τ 28))] s.H) s <| .mk fun s =>
  @sOp none (xStore 4 (s.τ 4) (s.τ 29) s.H) s <| .mk fun s =>
  Φ .ret s
def W101_b2 (P : Program) (Φ : EP) (s : St) : Prop :=
  @sOp (some 23) (xLit 1 8 [.int .i64 0] [(0, (.int .i64 0)), (1, (.int .i64 1)), (2, (.int .i64 2)), (3, (.int .i64 7)), (4, (.int .i64 99)), (5, (.int .i64 999999999999999999)), (6, (.int .i64 5)), (7, (.int .i64 3))] s.H) s <| .mk fun s =>
  @sFl 24 1 2 s <| .mk fun s =>
  @sLd 25 1 24 false s <| .mk fun s =>
  @sCall P (.func 110 []) [(s.τ 25), (.int .i64 8)] (some 26) s ⟨W101_c1 P Φ⟩
def W101_c3 (P : Program) (Φ : EP) (s : St) : Prop :=
  @sOp (some 44) (xIx 1 (s.τ 38) (s.τ 43) s.H) s <| .mk fun s =>
  @sLd 45 1 44 false s <| .mk fun s =>
  @sOp (some 46) (xBuild [.int .i64 0, .int .i64 0, .str ⟨#[]⟩, .nils] [(0, 1, (.int .i64 2)), (2, 1, (s.τ 45))] s.H) s <| .mk fun s =>
  @sOp none (xStore 4 (s.τ 4) (s.τ 46) s.H) s <| .mk fun s =>
  Φ .ret s
def W101_b4 (P : Program) (Φ : EP) (s : St) : Prop :=
  @sMv 38 1 s <| .mk fun s =>
  @sFl 39 1 2 s <| .mk fun s =>
  @sLd 40 1 39 false s <| .mk fun s =>
  @sMv 41 1 s <| .mk fun s =>
  @sOp (some 42) (xLen (s.τ 41) s.H) s <| .mk fun s =>
  @sCall P (.func 110 []) [(s.τ 40), (s.τ 42)] (some 43) s ⟨W101_c3 P Φ⟩
def W101_c5 (P : Program) (Φ : EP) (s : St) : Prop :=
  @sOp (some 53) (xBuild [.int .i64 0, .int .i64 0, .str ⟨#[]⟩, .nils] [(0, 1, (.int .i64 2)), (1, 1, (s.τ 52))] s.H) s <| .mk fun s =>
  @sOp none (xStore 4 (s.τ 4) (s.τ 53) s.H) s <| .mk fun s =>
  Φ .ret s
def W101_b6 (P : Program) (Φ : EP) (s : St) : Prop :=
  @sFl 50 1 2 s <| .mk fun s =>
  @sLd 51 1 50 false s <| .mk fun s =>
  @sCall P (.func 110 []) [(s.τ 51), (.int .i64 3)] (some 52) s ⟨W101_c5 P Φ⟩
def W101_c7 (P : Program) (Φ : EP) (s : St) : Prop :=
  @sOp (some 60) (xLit 4 1 [.int .i64 0, .int .i64 0, .str ⟨#[]⟩, .nils] [(0, (s.τ 59))] s.H) s <| .mk fun s =>
  @sOp (some 61) (xBuild [.int .i64 0, .int .i64 0, .str ⟨#[]⟩, .nils] [(0, 1, (.int .i64 3)), (3, 1, (s.τ 60))] s.H) s <| .mk fun s =>
  @sOp none (xStore 4 (s.τ 4) (s.τ 61) s.H) s <| .mk fun s =>
  Φ .ret s
def W101_b8 (P : Program) (Φ : EP) (s : St) : Prop :=
  @sLd 57 3 2 true s <| .mk fun s =>
  @sMv 58 1 s <| .mk fun s =>
  @sCall P (.func 111 []) [(s.τ 57), (.int .i64 0), (s.τ 58)] (some 59) s ⟨W101_c7 P Φ⟩
def W101_c9 (P : Program) (Φ : EP) (s : St) : Prop :=
  @sOp (some 68) (xLit 4 1 [.int .i64 0, .int .i64 0, .str ⟨#[]⟩, .nils] [(0, (s.τ 67))] s.H) s <| .mk fun s =>
  @sOp (some 69) (xBuild [.int .i64 0, .int .i64 0, .str ⟨#[]⟩, .nils] [(0, 1, (.int .i64 4)), (3, 1, (s.τ 68))] s.H) s <| .mk fun s =>
  @sOp none (xStore 4 (s.τ 4) (s.τ 69) s.H) s <| .mk fun s =>
  Φ .ret s
def W101_b10 (P : Program) (Φ : EP) (s : St) : Prop :=
  @sLd 65 3 2 true s <| .mk fun s =>
  @sMv 66 1 s <| .mk fun s =>
  @sCall P (.func 111 []) [(s.τ 65), (.int .i64 0), (s.τ 66)] (some 67) s ⟨W101_c9 P Φ⟩
def W101_c11 (P : Program) (Φ : EP) (s : St) : Prop :=
  @sOp (some 18) (xLit 4 2 [.int .i64 0, .int .i64 0, .str ⟨#[]⟩, .nils] [(0, (s.τ 14)), (1, (s.τ 17))] s.H) s <| .mk fun u10 =>
  @sOp (some 19) (xBuild [.int .i64 0, .int .i64 0, .str ⟨#[]⟩, .nils] [(0, 1, (u10.τ 11)), (3, 1, (u10.τ 18))] u10.H) u10 <| .mk fun u11 =>
  @sOp none (xStore 4 (u11.τ 4) (u11.τ 19) u11.H) u11 <| .mk fun s =>
  Φ .ret s
def W101_c12 (P : Program) (Φ : EP) (u5 : St) (s : St) : Prop :=
  @sChk (compat (cfp 14 111 [(u5.τ 12), (.int .i64 0), (u5.τ 13)]) (occ (s.τ 2), [])) <| .mk <|
  @sLd 15 3 2 true s <| .mk fun u7 =>
  @sMv 16 1 u7 <| .mk fun u8 =>
  @sCall0 P (.func 111 []) [(u8.τ 15), (.int .i64 1), (u8.τ 16)] (some 17) u8 ⟨W101_c11 P Φ⟩
def W101_b13 (P : Program) (Φ : EP) (s : St) : Prop :=
  @sMv 9 5 s <| .mk fun u1 =>
  @sOp (some 10) (xBin .add false (.int .i64 5) (u1.τ 9) u1.H) u1 <| .mk fun u2 =>
  @sOp (some 11) (xBin .sub false (u2.τ 10) (.int .i64 11) u2.H) u2 <| .mk fun u3 =>
  @sLd 12 3 2 true u3 <| .mk fun u4 =>
  @sMv 13 1 u4 <| .mk fun u5 =>
  @sCall0 P (.func 111 []) [(u5.τ 12), (.int .i64 0), (u5.τ 13)] (some 14) u5 ⟨W101_c12 P Φ u5⟩
def W101_b14 (P : Program) (Φ : EP) (s : St) : Prop :=
  @sMv 63 5 s <| .mk fun s =>
  @sOp (some 64) (xBin .eql false (s.τ 63) (.int .i64 10) s.H) s <| .mk fun s =>
  @sMv 62 64 s <| .mk fun s =>
  @sIf (s.τ 62) ⟨W101_b10 P Φ s⟩ ⟨W101_b13 P Φ s⟩
def W101_b15 (P : Program) (Φ : EP) (s : St) : Prop :=
  @sMv 55 5 s <| .mk fun s =>
  @sOp (some 56) (xBin .eql false (s.τ 55) (.int .i64 9) s.H) s <| .mk fun s =>
  @sMv 54 56 s <| .mk fun s =>
  @sIf (s.τ 54) ⟨W101_b8 P Φ s⟩ ⟨W101_b14 P Φ s⟩
def W101_b16 (P : Program) (Φ : EP) (s : St) : Prop :=
  @sMv 48 5 s <| .mk fun s =>
  @sOp (some 49) (xBin .lss false (s.τ 48) (.int .i64 9) s.H) s <| .mk fun s =>
  @sMv 47 49 s <| .mk fun s =>
  @sIf (s.τ 47) ⟨W101_b6 P Φ s⟩ ⟨W101_b15 P Φ s⟩
def W101_c17 (P : Program) (Φ : EP) (s : St) : Prop :=
  @sOp (some 37) (xPick (s.τ 33) (s.τ 36) (.bool false) s.H) s <| .mk fun s =>
  @sMv 30 37 s <| .mk fun s =>
  @sIf (s.τ 30) ⟨W101_b4 P Φ s⟩ ⟨W101_b16 P Φ s⟩
def W101_c18 (P : Program) (Φ : EP) (s : St) : Prop :=
  @sGrd (guardOf (s.τ 33) true) (some 36) s ⟨fun s K => @sOp (some 36) (xBin .gtr false (s.τ 35) (.int .i64 0) s.H) s ⟨K⟩⟩ ⟨W101_c17 P Φ⟩
def W101_c19 (P : Program) (Φ : EP) (s : St) : Prop :=
  @sGrd (guardOf (s.τ 33) true) (some 35) s ⟨fun s K => @sOp (some 35) (xLen (s.τ 34) s.H) s ⟨K⟩⟩ ⟨W101_c18 P Φ⟩
def W101_b20 (P : Program) (Φ : EP) (s : St) : Prop :=
  @sMv 31 5 s <| .mk fun s =>
  @sOp (some 32) (xBin .lss false (s.τ 31) (.int .i64 9) s.H) s <| .mk fun s =>
  @sMv 33 32 s <| .mk fun s =>
  @sGm 34 1 33 true s ⟨W101_c19 P Φ⟩
def W101_c21 (P : Program) (Φ : EP) (s : St) : Prop :=
  @sMv 5 8 s <| .mk fun s =>
  @sMv 21 5 s <| .mk fun s =>
  @sOp (some 22) (xBin .lss false (s.τ 21) (.int .i64 4) s.H) s <| .mk fun s =>
  @sMv 20 22 s <| .mk fun s =>
  @sIf (s.τ 20) ⟨W101_b2 P Φ s⟩ ⟨W101_b20 P Φ s⟩
def W101 (P : Program) (Φ : EP) (s : St) : Prop :=
  @sOp (some 2) (xBox 2 145 (s.τ 0) s.H) s <| .mk fun s =>
  @sOp (some 4) (xAlloc 4 31 [.int .i64 0, .int .i64 0, .str ⟨#[]⟩, .nils] s.H) s <| .mk fun s =>
  @sFl 6 0 2 s <| .mk fun s =>
  @sLd 7 1 6 false s <| .mk fun s =>
  @sCall P (.func 110 []) [(s.τ 7), (.int .i64 24)] (some 8) s ⟨W101_c21 P Φ⟩
theorem W101_rs (τ : Nat → AV) (H : Heap) : resV Try.prog τ H [.cell 4 31] = rdV H 4 true (τ 4) := by kernel_rfl
theorem W101_eq (Φ : EP) (s : St) : awp Try.prog (Try.f101.body.getD .skip) Φ s = W101 Try.prog Φ s := by kernel_rfl

-- 102 "(*penance/penanceref4.lower).at"
def W102_k1 (P : Program) (Φ : EP) (s : St) : Prop :=
  @sMv 16 7 s <| .mk fun s =>
  @sMv 6 16 s <| .mk fun s =>
  Φ .ret s
def W102_b2 (P : Program) (Φ : EP) (s : St) : Prop :=
  @sMv 13 0 s <| .mk fun s =>
  @sOp (some 14) (xNil (s.τ 13) s.H) s <| .mk fun s =>
  @sFl 15 3 14 s <| .mk fun s =>
  @sOp none (xStore 1 (s.τ 15) (.bool true) s.H) s <| .mk fun s =>
  W102_k1 P Φ s
def W102_c3 (P : Program) (Φ : EP) (s : St) : Prop :=
  @sMv 7 10 s <| .mk fun s =>
  @sMv 11 7 s <| .mk fun s =>
  @sOp (some 12) (xBin .lss false (s.τ 11) (.int .i64 0) s.H) s <| .mk fun s =>
  @sIf (s.τ 12) ⟨W102_b2 P Φ s⟩ ⟨W102_k1 P Φ s⟩
def W102 (P : Program) (Φ : EP) (s : St) : Prop :=
  @sOp (some 6) (xMov (.int .i64 0) s.H) s <| .mk fun s =>
  @sMv 8 1 s <| .mk fun s =>
  @sMv 9 2 s <| .mk fun s =>
  @sCall P (.func 91 []) [(s.τ 8), (s.τ 9)] (some 10) s ⟨W102_c3 P Φ⟩
theorem W102_rs (τ : Nat → AV) (H : Heap) : resV Try.prog τ H [.tmp 6] = some (τ 6) := by kernel_rfl
theorem W102_eq (Φ : EP) (s : St) : awp Try.prog (Try.f102.body.getD .skip) Φ s = W102 Try.prog Φ s := by kernel_rfl

-- 103 "(*penance/penanceref4.lower).expr"
def W103_k1 (P : Program) (Φ : EP) (s : St) : Prop :=
  @sLd 43 4 5 true s <| .mk fun s =>
  @sOp none (xStore 4 (s.τ 4) (s.τ 43) s.H) s <| .mk fun s =>
  Φ .ret s
def W103_c2 (P : Program) (Φ : EP) (L0 : SP) (u0 : St) (u1 : St) (s : St) : Prop :=
  @sChk (compat (occ (u0.τ 5), []) ([40] ++ occL [(s.τ 39)], [40] ++ occL [(s.τ 39)])) <| .mk <|
  @sChk (compat (occ (u1.τ 31), []) ([40] ++ occL [(s.τ 39)], [40] ++ occL [(s.τ 39)])) <| .mk <|
  @sOp (some 40) (xLit 4 1 [.int .i64 0, .int .i64 0, .str ⟨#[]⟩, .nils] [(0, (s.τ 39))] s.H) s <| .mk fun u10 =>
  @sOp (some 41) (xApp P 31 4 56 (some 41) (u10.τ 32) (u10.τ 40) u10.H) u10 <| .mk fun u11 =>
  @sFl 42 3 5 u11 <| .mk fun u12 =>
  @sOp none (xStore 1 (u12.τ 42) (u12.τ 41) u12.H) u12 <| .mk fun s =>
  @sMv 29 6 s <| .mk fun s =>
  @sOp (some 30) (xBin .add false (s.τ 29) (.int .i64 1) s.H) s <| .mk fun s =>
  @sMv 6 30 s <| .mk fun s =>
  L0 s
def W103_b3 (P : Program) (Φ : EP) (L0 : SP) (s : St) : Prop :=
  @sFl 31 3 5 s <| .mk fun u1 =>
  @sLd 32 1 31 false u1 <| .mk fun u2 =>
  @sMv 33 0 u2 <| .mk fun u3 =>
  @sFl 34 3 3 u3 <| .mk fun u4 =>
  @sLd 35 1 34 false u4 <| .mk fun u5 =>
  @sMv 36 6 u5 <| .mk fun u6 =>
  @sOp (some 37) (xIx 4 (u6.τ 35) (u6.τ 36) u6.H) u6 <| .mk fun u7 =>
  @sLd 38 4 37 true u7 <| .mk fun u8 =>
  @sChk (compat (occ (s.τ 5), []) (cfp 39 103 [(u8.τ 33), (u8.τ 38)])) <| .mk <|
  @sChk (compat (occ (u1.τ 31), []) (cfp 39 103 [(u8.τ 33), (u8.τ 38)])) <| .mk <|
  @sCall0 P (.func 103 []) [(u8.τ 33), (u8.τ 38)] (some 39) u8 ⟨W103_c2 P Φ L0 s u1⟩
def W103_l4 (P : Program) (Φ : EP) (L0 : SP) (s : St) : Prop :=
  @sMv 24 6 s <| .mk fun s =>
  @sFl 25 3 3 s <| .mk fun s =>
  @sLd 26 1 25 false s <| .mk fun s =>
  @sOp (some 27) (xLen (s.τ 26) s.H) s <| .mk fun s =>
  @sOp (some 28) (xBin .lss false (s.τ 24) (s.τ 27) s.H) s <| .mk fun s =>
  @sIf (s.τ 28) ⟨W103_b3 P Φ L0 s⟩ ⟨W103_k1 P Φ s⟩
def W103_k5 (P : Program) (Φ : EP) (s : St) : Prop :=
  @sOp (some 6) (xMov (.int .i64 0) s.H) s <| .mk fun s =>
  @sLoop s ⟨fun L0 s => W103_l4 P Φ L0 s⟩
def W103_c6 (P : Program) (Φ : EP) (s : St) : Prop :=
  @sFl 23 1 5 s <| .mk fun s =>
  @sOp none (xStore 1 (s.τ 23) (s.τ 22) s.H) s <| .mk fun s =>
  W103_k5 P Φ s
def W103_b7 (P : Program) (Φ : EP) (s : St) : Prop :=
  @sMv 15 0 s <| .mk fun s =>
  @sMv 16 0 s <| .mk fun s =>
  @sOp (some 17) (xNil (s.τ 16) s.H) s <| .mk fun s =>
  @sFl 18 0 17 s <| .mk fun s =>
  @sLd 19 1 18 false s <| .mk fun s =>
  @sFl 20 2 3 s <| .mk fun s =>
  @sLd 21 1 20 false s <| .mk fun s =>
  @sCall0 P (.func 102 []) [(s.τ 15), (s.τ 19), (s.τ 21)] (some 22) s ⟨W103_c6 P Φ⟩
def W103 (P : Program) (Φ : EP) (s : St) : Prop :=
  @sOp (some 3) (xBox 3 31 (s.τ 1) s.H) s <| .mk fun s =>
  @sOp (some 4) (xAlloc 4 31 [.int .i64 0, .int .i64 0, .str ⟨#[]⟩, .nils] s.H) s <| .mk fun s =>
  @sFl 7 0 3 s <| .mk fun s =>
  @sLd 8 1 7 false s <| .mk fun s =>
  @sFl 9 1 3 s <| .mk fun s =>
  @sLd 10 1 9 false s <| .mk fun s =>
  @sOp (some 11) (xBuild [.int .i64 0, .int .i64 0, .str ⟨#[]⟩, .nils] [(0, 1, (s.τ 8)), (1, 1, (s.τ 10))] s.H) s <| .mk fun s =>
  @sOp (some 5) (xAlloc 5 31 [.int .i64 0, .int .i64 0, .str ⟨#[]⟩, .nils] s.H) s <| .mk fun s =>
  @sOp none (xStore 4 (s.τ 5) (s.τ 11) s.H) s <| .mk fun s =>
  @sFl 12 0 3 s <| .mk fun s =>
  @sLd 13 1 12 false s <| .mk fun s =>
  @sOp (some 14) (xBin .eql false (s.τ 13) (.int .i64 2) s.H) s <| .mk fun s =>
  @sIf (s.τ 14) ⟨W103_b7 P Φ s⟩ ⟨W103_k5 P Φ s⟩
theorem W103_rs (τ : Nat → AV) (H : Heap) : resV Try.prog τ H [.cell 4 31] = rdV H 4 true (τ 4) := by kernel_rfl
theorem W103_eq (Φ : EP) (s : St) : awp Try.prog (Try.f103.body.getD .skip) Φ s = W103 Try.prog Φ s := by kernel_rfl

-- 104 "penance/penanceref4.fronts"
def W104_k1 (P : Program) (Φ : EP) (s : St) : Prop :=
  @sMv 37 4 s <| .mk fun s =>
  @sMv 2 37 s <| .mk fun s =>
  Φ .ret s
def W104_c2 (P : Program) (Φ : EP) (L0 : SP) (s : St) : Prop :=
  @sMv 33 4 s <| .mk fun s =>
  @sMv 34 6 s <| .mk fun s =>
  @sLit (some 35) (xLit 1 1 [.nils] [(0, (s.τ 34))] s.H) (xLitR 1 1 [.nils] [(0, (s.τ 34))] s.H) s <| .mk fun s =>
  @sOp (some 36) (xApp P 149 1 24 (some 36) (s.τ 33) (s.τ 35) s.H) s <| .mk fun s =>
  @sMv 4 36 s <| .mk fun s =>
  @sMv 16 5 s <| .mk fun s =>
  @sOp (some 17) (xBin .add false (s.τ 16) (.int .i64 1) s.H) s <| .mk fun s =>
  @sMv 5 17 s <| .mk fun s =>
  L0 s
def W104_b3 (P : Program) (Φ : EP) (L0 : SP) (s : St) : Prop :=
  @sMv 18 3 s <| .mk fun s =>
  @sOp (some 19) (xNil (s.τ 18) s.H) s <| .mk fun s =>
  @sFl 20 0 19 s <| .mk fun s =>
  @sLd 21 1 20 false s <| .mk fun s =>
  @sOp (some 22) (xLen (s.τ 21) s.H) s <| .mk fun s =>
  @sMks (some 23) (fun k => xMks k 4 1 1 [.bool false] (s.τ 22) (s.τ 22) s.H) s <| .mk fun s =>
  @sMv 6 23 s <| .mk fun s =>
  @sMv 24 3 s <| .mk fun s =>
  @sFl 25 2 1 s <| .mk fun s =>
  @sLd 26 1 25 false s <| .mk fun s =>
  @sMv 27 5 s <| .mk fun s =>
  @sOp (some 28) (xIx 9 (s.τ 26) (s.τ 27) s.H) s <| .mk fun s =>
  @sFl 29 1 28 s <| .mk fun s =>
  @sLd 30 8 29 true s <| .mk fun s =>
  @sMv 31 6 s <| .mk fun s =>
  @sCall P (.func 113 []) [(s.τ 24), (s.τ 30), (s.τ 31)] (some 32) s ⟨W104_c2 P Φ L0⟩
def W104_l4 (P : Program) (Φ : EP) (L0 : SP) (s : St) : Prop :=
  @sMv 9 5 s <| .mk fun s =>
  @sMv 10 3 s <| .mk fun s =>
  @sOp (some 11) (xNil (s.τ 10) s.H) s <| .mk fun s =>
  @sFl 12 0 11 s <| .mk fun s =>
  @sLd 13 1 12 false s <| .mk fun s =>
  @sOp (some 14) (xLen (s.τ 13) s.H) s <| .mk fun s =>
  @sOp (some 15) (xBin .lss false (s.τ 9) (s.τ 14) s.H) s <| .mk fun s =>
  @sIf (s.τ 15) ⟨W104_b3 P Φ L0 s⟩ ⟨W104_k1 P Φ s⟩
def W104_c5 (P : Program) (Φ : EP) (s : St) : Prop :=
  @sMv 3 8 s <| .mk fun s =>
  @sOp (some 4) (xMov (.nils) s.H) s <| .mk fun s =>
  @sOp (some 5) (xMov (.int .i64 0) s.H) s <| .mk fun s =>
  @sLoop s ⟨fun L0 s => W104_l4 P Φ L0 s⟩
def W104 (P : Program) (Φ : EP) (s : St) : Prop :=
  @sOp (some 1) (xBox 1 69 (s.τ 0) s.H) s <| .mk fun s =>
  @sOp (some 2) (xMov (.nils) s.H) s <| .mk fun s =>
  @sLd 7 3 1 true s <| .mk fun s =>
  @sCall P (.func 112 []) [(s.τ 7)] (some 8) s ⟨W104_c5 P Φ⟩
theorem W104_rs (τ : Nat → AV) (H : Heap) : resV Try.prog τ H [.tmp 2] = some (τ 2) := by kernel_rfl
theorem W104_eq (Φ : EP) (s : St) : awp Try.prog (Try.f104.body.getD .skip) Φ s = W104 Try.prog Φ s := by kernel_rfl

-- 105 "slices.Contains[[]string,string]"
def W105_c1 (P : Program) (Φ : EP) (s : St) : Prop :=
  @sOp (some 8) (xBin .geq false (s.τ 7) (.int .i64 0) s.H) s <| .mk fun s =>
  @sMv 4 8 s <| .mk fun s =>
  Φ .ret s
def W105 (P : Program) (Φ : EP) (s : St) : Prop :=
  @sOp (some 4) (xMov (.bool false) s.H) s <| .mk fun s =>
  @sMv 5 0 s <| .mk fun s =>
  @sMv 6 1 s <| .mk fun s =>
  @sCall P (.func 114 []) [(s.τ 5), (s.τ 6)] (some 7) s ⟨W105_c1 P Φ⟩
theorem W105_rs (τ : Nat → AV) (H : Heap) : resV Try.prog τ H [.tmp 4] = some (τ 4) := by kernel_rfl
theorem W105_eq (Φ : EP) (s : St) : awp Try.prog (Try.f105.body.getD .skip) Φ s = W105 Try.prog Φ s := by kernel_rfl

-- 106 "penance/lex.words"

def W106 (P : Program) (Φ : EP) (s : St) : Prop :=
  @sOp (some 0) (xMov (.nils) s.H) s <| .mk fun s =>
  @sOp (some 1) (xLit 1 16 [.str ⟨#[]⟩] [(0, (.str ⟨#[118, 97, 114]⟩)), (1, (.str ⟨#[115, 116, 97, 99, 107]⟩)), (2, (.str ⟨#[112, 114, 111, 99]⟩)), (3, (.str ⟨#[115, 107, 105, 112]⟩)), (4, (.str ⟨#[100, 111]⟩)), (5, (.str ⟨#[112, 117, 115, 104]⟩)), (6, (.str ⟨#[114, 101, 118, 101, 114, 115, 101]⟩)), (7, (.str ⟨#[97, 99, 99, 101, 112, 116]⟩)), (8, (.str ⟨#[109, 101, 114, 103, 101]⟩)), (9, (.str ⟨#[98, 108, 111, 99, 107]⟩)), (10, (.str ⟨#[101, 120, 105, 116]⟩)), (11, (.str ⟨#[105, 102]⟩)), (12, (.str ⟨#[101, 108, 115, 101]⟩)), (13, (.str ⟨#[99, 104, 111, 111, 115, 101]⟩)), (14, (.str ⟨#[112, 97, 114]⟩)), (15, (.str ⟨#[99, 97, 108, 108]⟩))] s.H) s <| .mk fun s =>
  @sMv 0 1 s <| .mk fun s =>
  Φ .ret s
theorem W106_rs (τ : Nat → AV) (H : Heap) : resV Try.prog τ H [.tmp 0] = some (τ 0) := by kernel_rfl
theorem W106_eq (Φ : EP) (s : St) : awp Try.prog (Try.f106.body.getD .skip) Φ s = W106 Try.prog Φ s := by kernel_rfl

-- 107 "penance/lex.digit"
def W107_c1 (P : Program) (Φ : EP) (s : St) : Prop :=
  @sOp (some 8) (xPick (s.τ 5) (s.τ 7) (.bool false) s.H) s <| .mk fun s =>
  @sMv 2 8 s <| .mk fun s =>
  Φ .ret s
def W107_c2 (P : Program) (Φ : EP) (s : St) : Prop :=
  @sGrd (guardOf (s.τ 5) true) (some 7) s ⟨fun s K => @sOp (some 7) (xBin .leq false (s.τ 6) (.int .u8 57) s.H) s ⟨K⟩⟩ ⟨W107_c1 P Φ⟩
def W107 (P : Program) (Φ : EP) (s : St) : Prop :=
  @sOp (some 2) (xMov (.bool false) s.H) s <| .mk fun s =>
  @sMv 3 0 s <| .mk fun s =>
  @sOp (some 4) (xBin .geq false (s.τ 3) (.int .u8 48) s.H) s <| .mk fun s =>
  @sMv 5 4 s <| .mk fun s =>
  @sGm 6 0 5 true s ⟨W107_c2 P Φ⟩
theorem W107_rs (τ : Nat → AV) (H : Heap) : resV Try.prog τ H [.tmp 2] = some (τ 2) := by kernel_rfl
theorem W107_eq (Φ : EP) (s : St) : awp Try.prog (Try.f107.body.getD .skip) Φ s = W107 Try.prog Φ s := by kernel_rfl

-- 108 "penance/expr.all$1"
def W108_c1 (P : Program) (Φ : EP) (s : St) : Prop :=
  Φ .normal s
def W108 (P : Program) (Φ : EP) (s : St) : Prop :=
  @sLd 3 4 1 true s <| .mk fun s =>
  @sMv 4 0 s <| .mk fun s =>
  @sCall P (.func 109 []) [(s.τ 3), (s.τ 4)] (some 5) s ⟨W108_c1 P Φ⟩
theorem W108_rs (τ : Nat → AV) (H : Heap) : resV Try.prog τ H [] = ob (some []) fun vs => some (.tup vs) := by kernel_rfl
theorem W108_eq (Φ : EP) (s : St) : awp Try.prog (Try.f108.body.getD .skip) Φ s = W108 Try.prog Φ s := by kernel_rfl

-- 109 "penance/expr.walk"
def W109_b1 (P : Program) (Φ : EP) (s : St) : Prop :=
  @sOp (some 4) (xMov (.bool false) s.H) s <| .mk fun s =>
  Φ .ret s
def W109_k2 (P : Program) (Φ : EP) (s : St) : Prop :=
  @sOp (some 4) (xMov (.bool true) s.H) s <| .mk fun s =>
  Φ .ret s
def W109_b3 (P : Program) (Φ : EP) (L0 : SP) (s : St) : Prop :=
  @sOp (some 4) (xMov (.bool false) s.H) s <| .mk fun s =>
  Φ .ret s
def W109_b4 (P : Program) (Φ : EP) (L0 : SP) (s : St) : Prop :=
  @sOp (some 22) (xBin .add false (s.τ 14) (.int .i64 1) s.H) s <| .mk fun s =>
  @sMv 14 22 s <| .mk fun s =>
  L0 s
def W109_c5 (P : Program) (Φ : EP) (L0 : SP) (s : St) : Prop :=
  @sOp (some 21) (xNot (s.τ 20) s.H) s <| .mk fun s =>
  @sIf (s.τ 21) ⟨W109_b3 P Φ L0 s⟩ ⟨W109_b4 P Φ L0 s⟩
def W109_b6 (P : Program) (Φ : EP) (L0 : SP) (s : St) : Prop :=
  @sOp (some 16) (xIx 4 (s.τ 12) (s.τ 14) s.H) s <| .mk fun s =>
  @sLd 17 4 16 true s <| .mk fun s =>
  @sOp (some 6) (xAlloc 6 31 [.int .i64 0, .int .i64 0, .str ⟨#[]⟩, .nils] s.H) s <| .mk fun s =>
  @sOp none (xStore 4 (s.τ 6) (s.τ 17) s.H) s <| .mk fun s =>
  @sLd 18 4 6 true s <| .mk fun s =>
  @sMv 19 1 s <| .mk fun s =>
  @sCall P (.func 109 []) [(s.τ 18), (s.τ 19)] (some 20) s ⟨W109_c5 P Φ L0⟩
def W109_l7 (P : Program) (Φ : EP) (L0 : SP) (s : St) : Prop :=
  @sOp (some 15) (xBin .lss false (s.τ 14) (s.τ 13) s.H) s <| .mk fun s =>
  @sIf (s.τ 15) ⟨W109_b6 P Φ L0 s⟩ ⟨W109_k2 P Φ s⟩
def W109_b8 (P : Program) (Φ : EP) (s : St) : Prop :=
  @sFl 11 3 2 s <| .mk fun s =>
  @sLd 12 1 11 false s <| .mk fun s =>
  @sOp (some 13) (xLen (s.τ 12) s.H) s <| .mk fun s =>
  @sOp (some 14) (xMov (.int .i64 0) s.H) s <| .mk fun s =>
  @sLoop s ⟨fun L0 s => W109_l7 P Φ L0 s⟩
def W109_c9 (P : Program) (Φ : EP) (s : St) : Prop :=
  @sOp (some 10) (xNot (s.τ 9) s.H) s <| .mk fun s =>
  @sIf (s.τ 10) ⟨W109_b1 P Φ s⟩ ⟨W109_b8 P Φ s⟩
def W109 (P : Program) (Φ : EP) (s : St) : Prop :=
  @sOp (some 2) (xBox 2 31 (s.τ 0) s.H) s <| .mk fun s =>
  @sOp (some 4) (xMov (.bool false) s.H) s <| .mk fun s =>
  @sMv 7 1 s <| .mk fun s =>
  @sLd 8 4 2 true s <| .mk fun s =>
  @sCall P (s.τ 7) [(s.τ 8)] (some 9) s ⟨W109_c9 P Φ⟩
theorem W109_rs (τ : Nat → AV) (H : Heap) : resV Try.prog τ H [.tmp 4] = some (τ 4) := by kernel_rfl
theorem W109_eq (Φ : EP) (s : St) : awp Try.prog (Try.f109.body.getD .skip) Φ s = W109 Try.prog Φ s := by kernel_rfl

-- 110 "penance/penancelaw2.within"
def W110_k1 (P : Program) (Φ : EP) (s : St) : Prop :=
  @sMv 14 5 s <| .mk fun s =>
  @sMv 4 14 s <| .mk fun s =>
  Φ .ret s
def W110_b2 (P : Program) (Φ : EP) (s : St) : Prop :=
  @sMv 11 5 s <| .mk fun s =>
  @sMv 12 1 s <| .mk fun s =>
  @sOp (some 13) (xBin .add false (s.τ 11) (s.τ 12) s.H) s <| .mk fun s =>
  @sMv 5 13 s <| .mk fun s =>
  W110_k1 P Φ s
def W110 (P : Program) (Φ : EP) (s : St) : Prop :=
  @sOp (some 4) (xMov (.int .i64 0) s.H) s <| .mk fun s =>
  @sMv 6 0 s <| .mk fun s =>
  @sMv 7 1 s <| .mk fun s =>
  @sOp (some 8) (xBin .rem false (s.τ 6) (s.τ 7) s.H) s <| .mk fun s =>
  @sMv 5 8 s <| .mk fun s =>
  @sMv 9 5 s <| .mk fun s =>
  @sOp (some 10) (xBin .lss false (s.τ 9) (.int .i64 0) s.H) s <| .mk fun s =>
  @sIf (s.τ 10) ⟨W110_b2 P Φ s⟩ ⟨W110_k1 P Φ s⟩
theorem W110_rs (τ : Nat → AV) (H : Heap) : resV Try.prog τ H [.tmp 4] = some (τ 4) := by kernel_rfl
theorem W110_eq (Φ : EP) (s : St) : awp Try.prog (Try.f110.body.getD .skip) Φ s = W110 Try.prog Φ s := by kernel_rfl

-- 111 "(penance/penancelaw2.Raw).part"
def W111_c1 (P : Program) (Φ : EP) (s : St) : Prop :=
  @sOp none (xStore 4 (s.τ 6) (s.τ 18) s.H) s <| .mk fun s =>
  Φ .ret s
def W111_b2 (P : Program) (Φ : EP) (s : St) : Prop :=
  @sFl 12 2 3 s <| .mk fun s =>
  @sLd 13 1 12 false s <| .mk fun s =>
  @sMv 14 1 s <| .mk fun s =>
  @sOp (some 15) (xIx 3 (s.τ 13) (s.τ 14) s.H) s <| .mk fun s =>
  @sLd 16 3 15 true s <| .mk fun s =>
  @sMv 17 2 s <| .mk fun s =>
  @sCall P (.func 101 []) [(s.τ 16), (s.τ 17)] (some 18) s ⟨W111_c1 P Φ⟩
def W111_c3 (P : Program) (Φ : EP) (s : St) : Prop :=
  @sOp (some 24) (xBuild [.int .i64 0, .int .i64 0, .str ⟨#[]⟩, .nils] [(0, 1, (.int .i64 1)), (1, 1, (s.τ 23))] s.H) s <| .mk fun s =>
  @sOp none (xStore 4 (s.τ 6) (s.τ 24) s.H) s <| .mk fun s =>
  Φ .ret s
def W111_b4 (P : Program) (Φ : EP) (s : St) : Prop :=
  @sFl 19 1 3 s <| .mk fun s =>
  @sLd 20 1 19 false s <| .mk fun s =>
  @sMv 21 1 s <| .mk fun s =>
  @sOp (some 22) (xBin .add false (s.τ 20) (s.τ 21) s.H) s <| .mk fun s =>
  @sCall P (.func 110 []) [(s.τ 22), (.int .i64 5)] (some 23) s ⟨W111_c3 P Φ⟩
def W111 (P : Program) (Φ : EP) (s : St) : Prop :=
  @sOp (some 3) (xBox 3 145 (s.τ 0) s.H) s <| .mk fun s =>
  @sOp (some 6) (xAlloc 6 31 [.int .i64 0, .int .i64 0, .str ⟨#[]⟩, .nils] s.H) s <| .mk fun s =>
  @sMv 7 1 s <| .mk fun s =>
  @sFl 8 2 3 s <| .mk fun s =>
  @sLd 9 1 8 false s <| .mk fun s =>
  @sOp (some 10) (xLen (s.τ 9) s.H) s <| .mk fun s =>
  @sOp (some 11) (xBin .lss false (s.τ 7) (s.τ 10) s.H) s <| .mk fun s =>
  @sIf (s.τ 11) ⟨W111_b2 P Φ s⟩ ⟨W111_b4 P Φ s⟩
theorem W111_rs (τ : Nat → AV) (H : Heap) : resV Try.prog τ H [.cell 6 31] = rdV H 4 true (τ 6) := by kernel_rfl
theorem W111_eq (Φ : EP) (s : St) : awp Try.prog (Try.f111.body.getD .skip) Φ s = W111 Try.prog Φ s := by kernel_rfl

-- 112 "penance/penanceref4.settle"
def W112_k1 (P : Program) (Φ : EP) (s : St) : Prop :=
  @sMv 98 5 s <| .mk fun s =>
  @sMv 2 98 s <| .mk fun s =>
  Φ .ret s
def W112_k2 (P : Program) (Φ : EP) (L0 : SP) (L1 : SP) (s : St) : Prop :=
  @sMv 29 7 s <| .mk fun s =>
  @sOp (some 30) (xBin .add false (s.τ 29) (.int .i64 1) s.H) s <| .mk fun s =>
  @sMv 7 30 s <| .mk fun s =>
  L1 s
def W112_c3 (P : Program) (Φ : EP) (L0 : SP) (L1 : SP) (s : St) : Prop :=
  @sOp (some 95) (xPick (s.τ 93) (.bool true) (s.τ 94) s.H) s <| .mk fun s =>
  @sOp (some 96) (xIx 1 (s.τ 69) (s.τ 70) s.H) s <| .mk fun s =>
  @sOp none (xStore 1 (s.τ 96) (s.τ 85) s.H) s <| .mk fun s =>
  @sOp (some 97) (xIx 1 (s.τ 74) (s.τ 75) s.H) s <| .mk fun s =>
  @sOp none (xStore 1 (s.τ 97) (s.τ 95) s.H) s <| .mk fun s =>
  @sOp (some 6) (xMov (.bool true) s.H) s <| .mk fun s =>
  W112_k2 P Φ L0 L1 s
def W112_c4 (P : Program) (Φ : EP) (L0 : SP) (L1 : SP) (s : St) : Prop :=
  @sOp (some 85) (xPick (s.τ 83) (.bool true) (s.τ 84) s.H) s <| .mk fun s =>
  @sMv 86 5 s <| .mk fun s =>
  @sOp (some 87) (xNil (s.τ 86) s.H) s <| .mk fun s =>
  @sFl 88 2 87 s <| .mk fun s =>
  @sLd 89 1 88 false s <| .mk fun s =>
  @sMv 90 7 s <| .mk fun s =>
  @sOp (some 91) (xIx 1 (s.τ 89) (s.τ 90) s.H) s <| .mk fun s =>
  @sLd 92 1 91 false s <| .mk fun s =>
  @sMv 93 92 s <| .mk fun s =>
  @sGm 94 9 93 false s ⟨W112_c3 P Φ L0 L1⟩
def W112_b5 (P : Program) (Φ : EP) (L0 : SP) (L1 : SP) (s : St) : Prop :=
  @sMv 66 5 s <| .mk fun s =>
  @sOp (some 67) (xNil (s.τ 66) s.H) s <| .mk fun s =>
  @sFl 68 1 67 s <| .mk fun s =>
  @sLd 69 1 68 false s <| .mk fun s =>
  @sMv 70 7 s <| .mk fun s =>
  @sMv 71 5 s <| .mk fun s =>
  @sOp (some 72) (xNil (s.τ 71) s.H) s <| .mk fun s =>
  @sFl 73 2 72 s <| .mk fun s =>
  @sLd 74 1 73 false s <| .mk fun s =>
  @sMv 75 7 s <| .mk fun s =>
  @sMv 76 5 s <| .mk fun s =>
  @sOp (some 77) (xNil (s.τ 76) s.H) s <| .mk fun s =>
  @sFl 78 1 77 s <| .mk fun s =>
  @sLd 79 1 78 false s <| .mk fun s =>
  @sMv 80 7 s <| .mk fun s =>
  @sOp (some 81) (xIx 1 (s.τ 79) (s.τ 80) s.H) s <| .mk fun s =>
  @sLd 82 1 81 false s <| .mk fun s =>
  @sMv 83 82 s <| .mk fun s =>
  @sGm 84 8 83 false s ⟨W112_c4 P Φ L0 L1⟩
def W112_c6 (P : Program) (Φ : EP) (L0 : SP) (L1 : SP) (s : St) : Prop :=
  @sOp (some 65) (xPick (s.τ 53) (.bool true) (s.τ 64) s.H) s <| .mk fun s =>
  @sIf (s.τ 65) ⟨W112_b5 P Φ L0 L1 s⟩ ⟨W112_k2 P Φ L0 L1 s⟩
def W112_c7 (P : Program) (Φ : EP) (L0 : SP) (L1 : SP) (s : St) : Prop :=
  @sGrd (guardOf (s.τ 53) false) (some 64) s ⟨fun s K => @sOp (some 64) (xPick (s.τ 55) (s.τ 63) (.bool false) s.H) s ⟨K⟩⟩ ⟨W112_c6 P Φ L0 L1⟩
def W112_c8 (P : Program) (Φ : EP) (L0 : SP) (L1 : SP) (s : St) : Prop :=
  @sGrd (guardOf (s.τ 55) true) (some 63) s ⟨fun s K => @sOp (some 63) (xNot (s.τ 62) s.H) s ⟨K⟩⟩ ⟨W112_c7 P Φ L0 L1⟩
def W112_c9 (P : Program) (Φ : EP) (L0 : SP) (L1 : SP) (s : St) : Prop :=
  @sGl 62 1 61 55 false true s ⟨W112_c8 P Φ L0 L1⟩
def W112_c10 (P : Program) (Φ : EP) (L0 : SP) (L1 : SP) (s : St) : Prop :=
  @sGrd (guardOf (s.τ 55) true) (some 61) s ⟨fun s K => @sOp (some 61) (xIx 1 (s.τ 59) (s.τ 60) s.H) s ⟨K⟩⟩ ⟨W112_c9 P Φ L0 L1⟩
def W112_c11 (P : Program) (Φ : EP) (L0 : SP) (L1 : SP) (s : St) : Prop :=
  @sGm 60 7 55 true s ⟨W112_c10 P Φ L0 L1⟩
def W112_c12 (P : Program) (Φ : EP) (L0 : SP) (L1 : SP) (s : St) : Prop :=
  @sGl 59 1 58 55 false true s ⟨W112_c11 P Φ L0 L1⟩
def W112_c13 (P : Program) (Φ : EP) (L0 : SP) (L1 : SP) (s : St) : Prop :=
  @sGf 58 2 57 55 true s ⟨W112_c12 P Φ L0 L1⟩
def W112_c14 (P : Program) (Φ : EP) (L0 : SP) (L1 : SP) (s : St) : Prop :=
  @sGrd (guardOf (s.τ 55) true) (some 57) s ⟨fun s K => @sOp (some 57) (xNil (s.τ 56) s.H) s ⟨K⟩⟩ ⟨W112_c13 P Φ L0 L1⟩
def W112_c15 (P : Program) (Φ : EP) (L0 : SP) (L1 : SP) (s : St) : Prop :=
  @sGm 56 5 55 true s ⟨W112_c14 P Φ L0 L1⟩
def W112_c16 (P : Program) (Φ : EP) (L0 : SP) (L1 : SP) (s : St) : Prop :=
  @sGm 55 54 53 false s ⟨W112_c15 P Φ L0 L1⟩
def W112_c17 (P : Program) (Φ : EP) (L0 : SP) (L1 : SP) (s : St) : Prop :=
  @sOp (some 52) (xPick (s.τ 43) (s.τ 51) (.bool false) s.H) s <| .mk fun s =>
  @sMv 53 52 s <| .mk fun s =>
  @sGm 54 9 53 false s ⟨W112_c16 P Φ L0 L1⟩
def W112_c18 (P : Program) (Φ : EP) (L0 : SP) (L1 : SP) (s : St) : Prop :=
  @sGrd (guardOf (s.τ 43) true) (some 51) s ⟨fun s K => @sOp (some 51) (xNot (s.τ 50) s.H) s ⟨K⟩⟩ ⟨W112_c17 P Φ L0 L1⟩
def W112_c19 (P : Program) (Φ : EP) (L0 : SP) (L1 : SP) (s : St) : Prop :=
  @sGl 50 1 49 43 false true s ⟨W112_c18 P Φ L0 L1⟩
def W112_c20 (P : Program) (Φ : EP) (L0 : SP) (L1 : SP) (s : St) : Prop :=
  @sGrd (guardOf (s.τ 43) true) (some 49) s ⟨fun s K => @sOp (some 49) (xIx 1 (s.τ 47) (s.τ 48) s.H) s ⟨K⟩⟩ ⟨W112_c19 P Φ L0 L1⟩
def W112_c21 (P : Program) (Φ : EP) (L0 : SP) (L1 : SP) (s : St) : Prop :=
  @sGm 48 7 43 true s ⟨W112_c20 P Φ L0 L1⟩
def W112_c22 (P : Program) (Φ : EP) (L0 : SP) (L1 : SP) (s : St) : Prop :=
  @sGl 47 1 46 43 false true s ⟨W112_c21 P Φ L0 L1⟩
def W112_c23 (P : Program) (Φ : EP) (L0 : SP) (L1 : SP) (s : St) : Prop :=
  @sGf 46 1 45 43 true s ⟨W112_c22 P Φ L0 L1⟩
def W112_c24 (P : Program) (Φ : EP) (L0 : SP) (L1 : SP) (s : St) : Prop :=
  @sGrd (guardOf (s.τ 43) true) (some 45) s ⟨fun s K => @sOp (some 45) (xNil (s.τ 44) s.H) s ⟨K⟩⟩ ⟨W112_c23 P Φ L0 L1⟩
def W112_c25 (P : Program) (Φ : EP) (L0 : SP) (L1 : SP) (s : St) : Prop :=
  @sMv 31 39 s <| .mk fun s =>
  @sOp (some 40) (xExt (s.τ 31) 0 s.H) s <| .mk fun s =>
  @sOp (some 41) (xExt (s.τ 31) 1 s.H) s <| .mk fun s =>
  @sMv 8 40 s <| .mk fun s =>
  @sMv 9 41 s <| .mk fun s =>
  @sMv 42 8 s <| .mk fun s =>
  @sMv 43 42 s <| .mk fun s =>
  @sGm 44 5 43 true s ⟨W112_c24 P Φ L0 L1⟩
def W112_b26 (P : Program) (Φ : EP) (L0 : SP) (L1 : SP) (s : St) : Prop :=
  @sMv 32 5 s <| .mk fun s =>
  @sFl 33 2 1 s <| .mk fun s =>
  @sLd 34 1 33 false s <| .mk fun s =>
  @sMv 35 7 s <| .mk fun s =>
  @sOp (some 36) (xIx 9 (s.τ 34) (s.τ 35) s.H) s <| .mk fun s =>
  @sFl 37 1 36 s <| .mk fun s =>
  @sLd 38 8 37 true s <| .mk fun s =>
  @sCall P (.func 115 []) [(s.τ 32), (s.τ 38)] (some 39) s ⟨W112_c25 P Φ L0 L1⟩
def W112_l27 (P : Program) (Φ : EP) (L0 : SP) (L1 : SP) (s : St) : Prop :=
  @sMv 25 7 s <| .mk fun s =>
  @sMv 26 4 s <| .mk fun s =>
  @sOp (some 27) (xLen (s.τ 26) s.H) s <| .mk fun s =>
  @sOp (some 28) (xBin .lss false (s.τ 25) (s.τ 27) s.H) s <| .mk fun s =>
  @sIf (s.τ 28) ⟨W112_b26 P Φ L0 L1 s⟩ ⟨L0 s⟩
def W112_b28 (P : Program) (Φ : EP) (L0 : SP) (s : St) : Prop :=
  @sOp (some 6) (xMov (.bool false) s.H) s <| .mk fun s =>
  @sOp (some 7) (xMov (.int .i64 0) s.H) s <| .mk fun s =>
  @sLoop s ⟨fun L1 s => W112_l27 P Φ L0 L1 s⟩
def W112_l29 (P : Program) (Φ : EP) (L0 : SP) (s : St) : Prop :=
  @sMv 24 6 s <| .mk fun s =>
  @sIf (s.τ 24) ⟨W112_b28 P Φ L0 s⟩ ⟨W112_k1 P Φ s⟩
def W112_c30 (P : Program) (Φ : EP) (s : St) : Prop :=
  @sMv 10 12 s <| .mk fun s =>
  @sOp (some 13) (xExt (s.τ 10) 0 s.H) s <| .mk fun s =>
  @sOp (some 14) (xExt (s.τ 10) 1 s.H) s <| .mk fun s =>
  @sMv 3 13 s <| .mk fun s =>
  @sMv 4 14 s <| .mk fun s =>
  @sMv 15 4 s <| .mk fun u1 =>
  @sMv 16 4 u1 <| .mk fun u2 =>
  @sOp (some 17) (xLen (u2.τ 16) u2.H) u2 <| .mk fun u3 =>
  @sOp (some 18) (xMks 18 4 1 1 [.bool false] (u3.τ 17) (u3.τ 17) u3.H) u3 <| .mk fun u4 =>
  @sMv 19 4 u4 <| .mk fun u5 =>
  @sChk (compat ([18], [18]) (occ (u5.τ 19), [])) <| .mk <|
  @sOp (some 20) (xLen (u5.τ 19) u5.H) u5 <| .mk fun u6 =>
  @sChk (compat (occ (u2.τ 16), []) ([21], [21])) <| .mk <|
  @sChk (compat ([18], [18]) ([21], [21])) <| .mk <|
  @sOp (some 21) (xMks 21 4 1 1 [.bool false] (u6.τ 20) (u6.τ 20) u6.H) u6 <| .mk fun u7 =>
  @sOp (some 22) (xBuild [.nils, .nils, .nils] [(0, 1, (u7.τ 15)), (1, 1, (u7.τ 18)), (2, 1, (u7.τ 21))] u7.H) u7 <| .mk fun u8 =>
  @sOp (some 23) (xBox 23 156 (u8.τ 22) u8.H) u8 <| .mk fun u9 =>
  @sMv 5 23 u9 <| .mk fun s =>
  @sOp (some 6) (xMov (.bool true) s.H) s <| .mk fun s =>
  @sLoop s ⟨fun L0 s => W112_l29 P Φ L0 s⟩
def W112 (P : Program) (Φ : EP) (s : St) : Prop :=
  @sOp (some 1) (xBox 1 69 (s.τ 0) s.H) s <| .mk fun s =>
  @sOp (some 2) (xMov (.nilp) s.H) s <| .mk fun s =>
  @sLd 11 3 1 true s <| .mk fun s =>
  @sCall P (.func 89 []) [(s.τ 11)] (some 12) s ⟨W112_c30 P Φ⟩
theorem W112_rs (τ : Nat → AV) (H : Heap) : resV Try.prog τ H [.tmp 2] = some (τ 2) := by kernel_rfl
theorem W112_eq (Φ : EP) (s : St) : awp Try.prog (Try.f112.body.getD .skip) Φ s = W112 Try.prog Φ s := by kernel_rfl

end Go.Proofs.Ytkagfenchknjjaa
set_option linter.unusedVariables false
namespace Go.Proofs.Ytkagfenchknjjaa
open Go Go.Am
-- 113 "(*penance/penanceref4.may).front"
def W113_b1 (P : Program) (Φ : EP) (s : St) : Prop :=
  @sMv 38 2 s <| .mk fun s =>
  @sMv 39 6 s <| .mk fun s =>
  @sOp (some 40) (xIx 1 (s.τ 38) (s.τ 39) s.H) s <| .mk fun s =>
  @sOp none (xStore 1 (s.τ 40) (.bool true) s.H) s <| .mk fun s =>
  Φ .normal s
def W113_c2 (P : Program) (Φ : EP) (s : St) : Prop :=
  @sMv 6 35 s <| .mk fun s =>
  @sMv 36 6 s <| .mk fun s =>
  @sOp (some 37) (xBin .geq false (s.τ 36) (.int .i64 0) s.H) s <| .mk fun s =>
  @sIf (s.τ 37) ⟨W113_b1 P Φ s⟩ ⟨Φ .normal s⟩
def W113_b3 (P : Program) (Φ : EP) (s : St) : Prop :=
  @sMv 29 0 s <| .mk fun s =>
  @sOp (some 30) (xNil (s.τ 29) s.H) s <| .mk fun s =>
  @sFl 31 0 30 s <| .mk fun s =>
  @sLd 32 1 31 false s <| .mk fun s =>
  @sFl 33 1 4 s <| .mk fun s =>
  @sLd 34 1 33 false s <| .mk fun s =>
  @sCall0 P (.func 91 []) [(s.τ 32), (s.τ 34)] (some 35) s ⟨W113_c2 P Φ⟩
def W113_c4 (P : Program) (Φ : EP) (s : St) : Prop :=
  Φ .normal s
def W113_b5 (P : Program) (Φ : EP) (s : St) : Prop :=
  @sMv 60 0 s <| .mk fun s =>
  @sFl 61 7 4 s <| .mk fun s =>
  @sLd 62 1 61 false s <| .mk fun s =>
  @sOp (some 63) (xIx 8 (s.τ 62) (.int .i64 1) s.H) s <| .mk fun s =>
  @sLd 64 8 63 true s <| .mk fun s =>
  @sMv 65 2 s <| .mk fun s =>
  @sCall P (.func 113 []) [(s.τ 60), (s.τ 64), (s.τ 65)] (some 66) s ⟨W113_c4 P Φ⟩
def W113_c6 (P : Program) (Φ : EP) (s : St) : Prop :=
  @sMv 50 56 s <| .mk fun s =>
  @sOp (some 57) (xExt (s.τ 50) 0 s.H) s <| .mk fun s =>
  @sOp (some 58) (xExt (s.τ 50) 1 s.H) s <| .mk fun s =>
  @sMv 7 57 s <| .mk fun s =>
  @sMv 8 58 s <| .mk fun s =>
  @sMv 59 7 s <| .mk fun s =>
  @sIf (s.τ 59) ⟨W113_b5 P Φ s⟩ ⟨Φ .normal s⟩
def W113_c7 (P : Program) (Φ : EP) (s : St) : Prop :=
  @sMv 51 0 s <| .mk fun s =>
  @sFl 52 7 4 s <| .mk fun s =>
  @sLd 53 1 52 false s <| .mk fun s =>
  @sOp (some 54) (xIx 8 (s.τ 53) (.int .i64 0) s.H) s <| .mk fun s =>
  @sLd 55 8 54 true s <| .mk fun s =>
  @sCall P (.func 115 []) [(s.τ 51), (s.τ 55)] (some 56) s ⟨W113_c6 P Φ⟩
def W113_b8 (P : Program) (Φ : EP) (s : St) : Prop :=
  @sMv 43 0 s <| .mk fun s =>
  @sFl 44 7 4 s <| .mk fun s =>
  @sLd 45 1 44 false s <| .mk fun s =>
  @sOp (some 46) (xIx 8 (s.τ 45) (.int .i64 0) s.H) s <| .mk fun s =>
  @sLd 47 8 46 true s <| .mk fun s =>
  @sMv 48 2 s <| .mk fun s =>
  @sCall P (.func 113 []) [(s.τ 43), (s.τ 47), (s.τ 48)] (some 49) s ⟨W113_c7 P Φ⟩
def W113_c9 (P : Program) (Φ : EP) (L0 : SP) (s : St) : Prop :=
  @sMv 17 9 s <| .mk fun s =>
  @sOp (some 18) (xBin .add false (s.τ 17) (.int .i64 1) s.H) s <| .mk fun s =>
  @sMv 9 18 s <| .mk fun s =>
  L0 s
def W113_b10 (P : Program) (Φ : EP) (L0 : SP) (s : St) : Prop :=
  @sMv 19 0 s <| .mk fun s =>
  @sFl 20 7 4 s <| .mk fun s =>
  @sLd 21 1 20 false s <| .mk fun s =>
  @sMv 22 9 s <| .mk fun s =>
  @sOp (some 23) (xIx 8 (s.τ 21) (s.τ 22) s.H) s <| .mk fun s =>
  @sLd 24 8 23 true s <| .mk fun s =>
  @sMv 25 2 s <| .mk fun s =>
  @sCall P (.func 113 []) [(s.τ 19), (s.τ 24), (s.τ 25)] (some 26) s ⟨W113_c9 P Φ L0⟩
def W113_l11 (P : Program) (Φ : EP) (L0 : SP) (s : St) : Prop :=
  @sMv 12 9 s <| .mk fun s =>
  @sFl 13 7 4 s <| .mk fun s =>
  @sLd 14 1 13 false s <| .mk fun s =>
  @sOp (some 15) (xLen (s.τ 14) s.H) s <| .mk fun s =>
  @sOp (some 16) (xBin .lss false (s.τ 12) (s.τ 15) s.H) s <| .mk fun s =>
  @sIf (s.τ 16) ⟨W113_b10 P Φ L0 s⟩ ⟨Φ .normal s⟩
def W113_b12 (P : Program) (Φ : EP) (s : St) : Prop :=
  @sOp (some 9) (xMov (.int .i64 0) s.H) s <| .mk fun s =>
  @sLoop s ⟨fun L0 s => W113_l11 P Φ L0 s⟩
def W113_b13 (P : Program) (Φ : EP) (s : St) : Prop :=
  @sOp (some 42) (xBin .eql false (s.τ 11) (.int .i64 12) s.H) s <| .mk fun s =>
  @sMv 41 42 s <| .mk fun s =>
  @sIf (s.τ 41) ⟨W113_b8 P Φ s⟩ ⟨W113_b12 P Φ s⟩
def W113 (P : Program) (Φ : EP) (s : St) : Prop :=
  @sOp (some 4) (xBox 4 73 (s.τ 1) s.H) s <| .mk fun s =>
  @sFl 10 0 4 s <| .mk fun s =>
  @sLd 11 1 10 false s <| .mk fun s =>
  @sOp (some 28) (xBin .eql false (s.τ 11) (.int .i64 13) s.H) s <| .mk fun s =>
  @sMv 27 28 s <| .mk fun s =>
  @sIf (s.τ 27) ⟨W113_b3 P Φ s⟩ ⟨W113_b13 P Φ s⟩
theorem W113_rs (τ : Nat → AV) (H : Heap) : resV Try.prog τ H [] = ob (some []) fun vs => some (.tup vs) := by kernel_rfl
theorem W113_eq (Φ : EP) (s : St) : awp Try.prog (Try.f113.body.getD .skip) Φ s = W113 Try.prog Φ s := by kernel_rfl

-- 114 "slices.Index[[]string,string]"
def W114_k1 (P : Program) (Φ : EP) (s : St) : Prop :=
  @sOp (some 4) (xMov (.int .i64 (-1)) s.H) s <| .mk fun s =>
  Φ .ret s
def W114_b2 (P : Program) (Φ : EP) (L0 : SP) (s : St) : Prop :=
  @sMv 17 5 s <| .mk fun s =>
  @sMv 4 17 s <| .mk fun s =>
  Φ .ret s
def W114_b3 (P : Program) (Φ : EP) (L0 : SP) (s : St) : Prop :=
  @sOp (some 18) (xBin .add false (s.τ 8) (.int .i64 1) s.H) s <| .mk fun s =>
  @sMv 8 18 s <| .mk fun s =>
  L0 s
def W114_b4 (P : Program) (Φ : EP) (L0 : SP) (s : St) : Prop :=
  @sMv 10 8 s <| .mk fun s =>
  @sMv 5 10 s <| .mk fun s =>
  @sMv 11 1 s <| .mk fun s =>
  @sMv 12 0 s <| .mk fun s =>
  @sMv 13 5 s <| .mk fun s =>
  @sOp (some 14) (xIx 1 (s.τ 12) (s.τ 13) s.H) s <| .mk fun s =>
  @sLd 15 1 14 false s <| .mk fun s =>
  @sOp (some 16) (xBin .eql false (s.τ 11) (s.τ 15) s.H) s <| .mk fun s =>
  @sIf (s.τ 16) ⟨W114_b2 P Φ L0 s⟩ ⟨W114_b3 P Φ L0 s⟩
def W114_l5 (P : Program) (Φ : EP) (L0 : SP) (s : St) : Prop :=
  @sOp (some 9) (xBin .lss false (s.τ 8) (s.τ 7) s.H) s <| .mk fun s =>
  @sIf (s.τ 9) ⟨W114_b4 P Φ L0 s⟩ ⟨W114_k1 P Φ s⟩
def W114 (P : Program) (Φ : EP) (s : St) : Prop :=
  @sOp (some 4) (xMov (.int .i64 0) s.H) s <| .mk fun s =>
  @sMv 6 0 s <| .mk fun s =>
  @sOp (some 7) (xLen (s.τ 6) s.H) s <| .mk fun s =>
  @sOp (some 8) (xMov (.int .i64 0) s.H) s <| .mk fun s =>
  @sLoop s ⟨fun L0 s => W114_l5 P Φ L0 s⟩
theorem W114_rs (τ : Nat → AV) (H : Heap) : resV Try.prog τ H [.tmp 4] = some (τ 4) := by kernel_rfl
theorem W114_eq (Φ : EP) (s : St) : awp Try.prog (Try.f114.body.getD .skip) Φ s = W114 Try.prog Φ s := by kernel_rfl

-- 115 "(*penance/penanceref4.may).both"
def W115_b1 (P : Program) (Φ : EP) (s : St) : Prop :=
  @sOp (some 4) (xMov (.bool false) s.H) s <| .mk fun s =>
  @sOp (some 5) (xMov (.bool false) s.H) s <| .mk fun s =>
  Φ .ret s
def W115_b2 (P : Program) (Φ : EP) (s : St) : Prop :=
  @sOp (some 4) (xMov (.bool false) s.H) s <| .mk fun s =>
  @sOp (some 5) (xMov (.bool true) s.H) s <| .mk fun s =>
  Φ .ret s
def W115_b3 (P : Program) (Φ : EP) (s : St) : Prop :=
  @sOp (some 4) (xMov (.bool true) s.H) s <| .mk fun s =>
  @sOp (some 5) (xMov (.bool true) s.H) s <| .mk fun s =>
  Φ .ret s
def W115_c4 (P : Program) (Φ : EP) (s : St) : Prop :=
  @sOp (some 50) (xPick (s.τ 47) (.bool true) (s.τ 49) s.H) s <| .mk fun s =>
  @sMv 4 50 s <| .mk fun s =>
  @sOp (some 5) (xMov (.bool false) s.H) s <| .mk fun s =>
  Φ .ret s
def W115_c5 (P : Program) (Φ : EP) (s : St) : Prop :=
  @sGl 49 1 48 47 false false s ⟨W115_c4 P Φ⟩
def W115_b6 (P : Program) (Φ : EP) (s : St) : Prop :=
  @sOp (some 45) (xIxA 2 1 (s.τ 6) (.int .i64 0) s.H) s <| .mk fun s =>
  @sLd 46 1 45 false s <| .mk fun s =>
  @sMv 47 46 s <| .mk fun s =>
  @sGrd (guardOf (s.τ 47) false) (some 48) s ⟨fun s K => @sOp (some 48) (xIxA 2 1 (s.τ 7) (.int .i64 0) s.H) s ⟨K⟩⟩ ⟨W115_c5 P Φ⟩
def W115_c7 (P : Program) (Φ : EP) (s : St) : Prop :=
  @sOp (some 65) (xPick (s.τ 62) (.bool true) (s.τ 64) s.H) s <| .mk fun s =>
  @sMv 4 59 s <| .mk fun s =>
  @sMv 5 65 s <| .mk fun s =>
  Φ .ret s
def W115_c8 (P : Program) (Φ : EP) (s : St) : Prop :=
  @sGl 64 1 63 62 false false s ⟨W115_c7 P Φ⟩
def W115_c9 (P : Program) (Φ : EP) (s : St) : Prop :=
  @sOp (some 59) (xPick (s.τ 56) (.bool true) (s.τ 58) s.H) s <| .mk fun s =>
  @sOp (some 60) (xIxA 2 1 (s.τ 7) (.int .i64 0) s.H) s <| .mk fun s =>
  @sLd 61 1 60 false s <| .mk fun s =>
  @sMv 62 61 s <| .mk fun s =>
  @sGrd (guardOf (s.τ 62) false) (some 63) s ⟨fun s K => @sOp (some 63) (xIxA 2 1 (s.τ 7) (.int .i64 1) s.H) s ⟨K⟩⟩ ⟨W115_c8 P Φ⟩
def W115_c10 (P : Program) (Φ : EP) (s : St) : Prop :=
  @sGl 58 1 57 56 false false s ⟨W115_c9 P Φ⟩
def W115_b11 (P : Program) (Φ : EP) (s : St) : Prop :=
  @sOp (some 54) (xIxA 2 1 (s.τ 6) (.int .i64 0) s.H) s <| .mk fun s =>
  @sLd 55 1 54 false s <| .mk fun s =>
  @sMv 56 55 s <| .mk fun s =>
  @sGrd (guardOf (s.τ 56) false) (some 57) s ⟨fun s K => @sOp (some 57) (xIxA 2 1 (s.τ 6) (.int .i64 1) s.H) s ⟨K⟩⟩ ⟨W115_c10 P Φ⟩
def W115_c12 (P : Program) (Φ : EP) (s : St) : Prop :=
  @sOp (some 79) (xPick (s.τ 76) (.bool true) (s.τ 78) s.H) s <| .mk fun s =>
  @sMv 4 73 s <| .mk fun s =>
  @sMv 5 79 s <| .mk fun s =>
  Φ .ret s
def W115_c13 (P : Program) (Φ : EP) (s : St) : Prop :=
  @sGl 78 1 77 76 false false s ⟨W115_c12 P Φ⟩
def W115_c14 (P : Program) (Φ : EP) (s : St) : Prop :=
  @sOp (some 73) (xPick (s.τ 70) (s.τ 72) (.bool false) s.H) s <| .mk fun s =>
  @sOp (some 74) (xIxA 2 1 (s.τ 7) (.int .i64 0) s.H) s <| .mk fun s =>
  @sLd 75 1 74 false s <| .mk fun s =>
  @sMv 76 75 s <| .mk fun s =>
  @sGrd (guardOf (s.τ 76) false) (some 77) s ⟨fun s K => @sOp (some 77) (xIxA 2 1 (s.τ 7) (.int .i64 1) s.H) s ⟨K⟩⟩ ⟨W115_c13 P Φ⟩
def W115_c15 (P : Program) (Φ : EP) (s : St) : Prop :=
  @sGl 72 1 71 70 false true s ⟨W115_c14 P Φ⟩
def W115_b16 (P : Program) (Φ : EP) (s : St) : Prop :=
  @sOp (some 68) (xIxA 2 1 (s.τ 6) (.int .i64 0) s.H) s <| .mk fun s =>
  @sLd 69 1 68 false s <| .mk fun s =>
  @sMv 70 69 s <| .mk fun s =>
  @sGrd (guardOf (s.τ 70) true) (some 71) s ⟨fun s K => @sOp (some 71) (xIxA 2 1 (s.τ 6) (.int .i64 1) s.H) s ⟨K⟩⟩ ⟨W115_c15 P Φ⟩
def W115_c17 (P : Program) (Φ : EP) (s : St) : Prop :=
  @sOp (some 97) (xPick (s.τ 90) (.bool true) (s.τ 96) s.H) s <| .mk fun s =>
  @sMv 4 87 s <| .mk fun s =>
  @sMv 5 97 s <| .mk fun s =>
  Φ .ret s
def W115_c18 (P : Program) (Φ : EP) (s : St) : Prop :=
  @sGrd (guardOf (s.τ 90) false) (some 96) s ⟨fun s K => @sOp (some 96) (xPick (s.τ 93) (s.τ 95) (.bool false) s.H) s ⟨K⟩⟩ ⟨W115_c17 P Φ⟩
def W115_c19 (P : Program) (Φ : EP) (s : St) : Prop :=
  @sGl 95 1 94 93 false true s ⟨W115_c18 P Φ⟩
def W115_c20 (P : Program) (Φ : EP) (s : St) : Prop :=
  @sGrd (guardOf (s.τ 93) true) (some 94) s ⟨fun s K => @sOp (some 94) (xIxA 2 1 (s.τ 7) (.int .i64 1) s.H) s ⟨K⟩⟩ ⟨W115_c19 P Φ⟩
def W115_c21 (P : Program) (Φ : EP) (s : St) : Prop :=
  @sGm 93 92 90 false s ⟨W115_c20 P Φ⟩
def W115_c22 (P : Program) (Φ : EP) (s : St) : Prop :=
  @sGl 92 1 91 90 false false s ⟨W115_c21 P Φ⟩
def W115_c23 (P : Program) (Φ : EP) (s : St) : Prop :=
  @sOp (some 87) (xPick (s.τ 84) (s.τ 86) (.bool false) s.H) s <| .mk fun s =>
  @sOp (some 88) (xIxA 2 1 (s.τ 7) (.int .i64 0) s.H) s <| .mk fun s =>
  @sLd 89 1 88 false s <| .mk fun s =>
  @sMv 90 89 s <| .mk fun s =>
  @sGrd (guardOf (s.τ 90) false) (some 91) s ⟨fun s K => @sOp (some 91) (xIxA 2 1 (s.τ 6) (.int .i64 0) s.H) s ⟨K⟩⟩ ⟨W115_c22 P Φ⟩
def W115_c24 (P : Program) (Φ : EP) (s : St) : Prop :=
  @sGl 86 1 85 84 false true s ⟨W115_c23 P Φ⟩
def W115_b25 (P : Program) (Φ : EP) (s : St) : Prop :=
  @sOp (some 82) (xIxA 2 1 (s.τ 6) (.int .i64 0) s.H) s <| .mk fun s =>
  @sLd 83 1 82 false s <| .mk fun s =>
  @sMv 84 83 s <| .mk fun s =>
  @sGrd (guardOf (s.τ 84) true) (some 85) s ⟨fun s K => @sOp (some 85) (xIxA 2 1 (s.τ 6) (.int .i64 1) s.H) s ⟨K⟩⟩ ⟨W115_c24 P Φ⟩
def W115_c26 (P : Program) (Φ : EP) (s : St) : Prop :=
  @sOp (some 128) (xPick (s.τ 120) (s.τ 127) (.bool false) s.H) s <| .mk fun s =>
  @sMv 4 117 s <| .mk fun s =>
  @sMv 5 128 s <| .mk fun s =>
  Φ .ret s
def W115_c27 (P : Program) (Φ : EP) (s : St) : Prop :=
  @sGl 127 1 126 120 false true s ⟨W115_c26 P Φ⟩
def W115_c28 (P : Program) (Φ : EP) (s : St) : Prop :=
  @sGrd (guardOf (s.τ 120) true) (some 126) s ⟨fun s K => @sOp (some 126) (xIx 1 (s.τ 124) (s.τ 125) s.H) s ⟨K⟩⟩ ⟨W115_c27 P Φ⟩
def W115_c29 (P : Program) (Φ : EP) (s : St) : Prop :=
  @sGm 125 9 120 true s ⟨W115_c28 P Φ⟩
def W115_c30 (P : Program) (Φ : EP) (s : St) : Prop :=
  @sGl 124 1 123 120 false true s ⟨W115_c29 P Φ⟩
def W115_c31 (P : Program) (Φ : EP) (s : St) : Prop :=
  @sGf 123 2 122 120 true s ⟨W115_c30 P Φ⟩
def W115_c32 (P : Program) (Φ : EP) (s : St) : Prop :=
  @sGrd (guardOf (s.τ 120) true) (some 122) s ⟨fun s K => @sOp (some 122) (xNil (s.τ 121) s.H) s ⟨K⟩⟩ ⟨W115_c31 P Φ⟩
def W115_c33 (P : Program) (Φ : EP) (s : St) : Prop :=
  @sOp (some 117) (xPick (s.τ 109) (s.τ 116) (.bool false) s.H) s <| .mk fun s =>
  @sMv 118 9 s <| .mk fun s =>
  @sOp (some 119) (xBin .geq false (s.τ 118) (.int .i64 0) s.H) s <| .mk fun s =>
  @sMv 120 119 s <| .mk fun s =>
  @sGm 121 0 120 true s ⟨W115_c32 P Φ⟩
def W115_c34 (P : Program) (Φ : EP) (s : St) : Prop :=
  @sGl 116 1 115 109 false true s ⟨W115_c33 P Φ⟩
def W115_c35 (P : Program) (Φ : EP) (s : St) : Prop :=
  @sGrd (guardOf (s.τ 109) true) (some 115) s ⟨fun s K => @sOp (some 115) (xIx 1 (s.τ 113) (s.τ 114) s.H) s ⟨K⟩⟩ ⟨W115_c34 P Φ⟩
def W115_c36 (P : Program) (Φ : EP) (s : St) : Prop :=
  @sGm 114 9 109 true s ⟨W115_c35 P Φ⟩
def W115_c37 (P : Program) (Φ : EP) (s : St) : Prop :=
  @sGl 113 1 112 109 false true s ⟨W115_c36 P Φ⟩
def W115_c38 (P : Program) (Φ : EP) (s : St) : Prop :=
  @sGf 112 1 111 109 true s ⟨W115_c37 P Φ⟩
def W115_c39 (P : Program) (Φ : EP) (s : St) : Prop :=
  @sGrd (guardOf (s.τ 109) true) (some 111) s ⟨fun s K => @sOp (some 111) (xNil (s.τ 110) s.H) s ⟨K⟩⟩ ⟨W115_c38 P Φ⟩
def W115_c40 (P : Program) (Φ : EP) (s : St) : Prop :=
  @sMv 9 106 s <| .mk fun s =>
  @sMv 107 9 s <| .mk fun s =>
  @sOp (some 108) (xBin .geq false (s.τ 107) (.int .i64 0) s.H) s <| .mk fun s =>
  @sMv 109 108 s <| .mk fun s =>
  @sGm 110 0 109 true s ⟨W115_c39 P Φ⟩
def W115_b41 (P : Program) (Φ : EP) (s : St) : Prop :=
  @sMv 100 0 s <| .mk fun s =>
  @sOp (some 101) (xNil (s.τ 100) s.H) s <| .mk fun s =>
  @sFl 102 0 101 s <| .mk fun s =>
  @sLd 103 1 102 false s <| .mk fun s =>
  @sFl 104 1 3 s <| .mk fun s =>
  @sLd 105 1 104 false s <| .mk fun s =>
  @sCall0 P (.func 91 []) [(s.τ 103), (s.τ 105)] (some 106) s ⟨W115_c40 P Φ⟩
def W115_b42 (P : Program) (Φ : EP) (s : St) : Prop :=
  @sOp (some 4) (xMov (.bool true) s.H) s <| .mk fun s =>
  @sOp (some 5) (xMov (.bool false) s.H) s <| .mk fun s =>
  Φ .ret s
def W115_b43 (P : Program) (Φ : EP) (s : St) : Prop :=
  @sOp (some 99) (xBin .eql false (s.τ 36) (.int .i64 13) s.H) s <| .mk fun s =>
  @sMv 98 99 s <| .mk fun s =>
  @sIf (s.τ 98) ⟨W115_b41 P Φ s⟩ ⟨W115_b42 P Φ s⟩
def W115_b44 (P : Program) (Φ : EP) (s : St) : Prop :=
  @sOp (some 81) (xBin .eql false (s.τ 36) (.int .i64 12) s.H) s <| .mk fun s =>
  @sMv 80 81 s <| .mk fun s =>
  @sIf (s.τ 80) ⟨W115_b25 P Φ s⟩ ⟨W115_b43 P Φ s⟩
def W115_b45 (P : Program) (Φ : EP) (s : St) : Prop :=
  @sOp (some 67) (xBin .eql false (s.τ 36) (.int .i64 11) s.H) s <| .mk fun s =>
  @sMv 66 67 s <| .mk fun s =>
  @sIf (s.τ 66) ⟨W115_b16 P Φ s⟩ ⟨W115_b44 P Φ s⟩
def W115_k46 (P : Program) (Φ : EP) (s : St) : Prop :=
  @sIf (s.τ 51) ⟨W115_b11 P Φ s⟩ ⟨W115_b45 P Φ s⟩
def W115_b47 (P : Program) (Φ : EP) (s : St) : Prop :=
  @sOp (some 53) (xBin .eql false (s.τ 36) (.int .i64 10) s.H) s <| .mk fun s =>
  @sMv 51 53 s <| .mk fun s =>
  W115_k46 P Φ s
def W115_b48 (P : Program) (Φ : EP) (s : St) : Prop :=
  @sOp (some 52) (xBin .eql false (s.τ 36) (.int .i64 9) s.H) s <| .mk fun s =>
  @sMv 51 52 s <| .mk fun s =>
  @sIf (s.τ 51) ⟨W115_k46 P Φ s⟩ ⟨W115_b47 P Φ s⟩
def W115_b49 (P : Program) (Φ : EP) (s : St) : Prop :=
  @sOp (some 44) (xBin .eql false (s.τ 36) (.int .i64 7) s.H) s <| .mk fun s =>
  @sMv 43 44 s <| .mk fun s =>
  @sIf (s.τ 43) ⟨W115_b6 P Φ s⟩ ⟨W115_b48 P Φ s⟩
def W115_b50 (P : Program) (Φ : EP) (s : St) : Prop :=
  @sOp (some 42) (xBin .eql false (s.τ 36) (.int .i64 4) s.H) s <| .mk fun s =>
  @sMv 41 42 s <| .mk fun s =>
  @sIf (s.τ 41) ⟨W115_b3 P Φ s⟩ ⟨W115_b49 P Φ s⟩
def W115_b51 (P : Program) (Φ : EP) (s : St) : Prop :=
  @sOp (some 40) (xBin .eql false (s.τ 36) (.int .i64 8) s.H) s <| .mk fun s =>
  @sMv 39 40 s <| .mk fun s =>
  @sIf (s.τ 39) ⟨W115_b2 P Φ s⟩ ⟨W115_b50 P Φ s⟩
def W115_k52 (P : Program) (Φ : EP) (s : St) : Prop :=
  @sFl 35 0 3 s <| .mk fun s =>
  @sLd 36 1 35 false s <| .mk fun s =>
  @sOp (some 38) (xBin .eql false (s.τ 36) (.int .i64 1) s.H) s <| .mk fun s =>
  @sMv 37 38 s <| .mk fun s =>
  @sIf (s.τ 37) ⟨W115_b1 P Φ s⟩ ⟨W115_b51 P Φ s⟩
def W115_c53 (P : Program) (Φ : EP) (L0 : SP) (s : St) : Prop :=
  @sMv 21 30 s <| .mk fun s =>
  @sOp (some 31) (xExt (s.τ 21) 0 s.H) s <| .mk fun s =>
  @sOp (some 32) (xExt (s.τ 21) 1 s.H) s <| .mk fun s =>
  @sOp (some 33) (xIxA 2 1 (s.τ 6) (s.τ 22) s.H) s <| .mk fun s =>
  @sOp none (xStore 1 (s.τ 33) (s.τ 31) s.H) s <| .mk fun s =>
  @sOp (some 34) (xIxA 2 1 (s.τ 7) (s.τ 23) s.H) s <| .mk fun s =>
  @sOp none (xStore 1 (s.τ 34) (s.τ 32) s.H) s <| .mk fun s =>
  @sMv 19 8 s <| .mk fun s =>
  @sOp (some 20) (xBin .add false (s.τ 19) (.int .i64 1) s.H) s <| .mk fun s =>
  @sMv 8 20 s <| .mk fun s =>
  L0 s
def W115_b54 (P : Program) (Φ : EP) (L0 : SP) (s : St) : Prop :=
  @sMv 22 8 s <| .mk fun s =>
  @sMv 23 8 s <| .mk fun s =>
  @sMv 24 0 s <| .mk fun s =>
  @sFl 25 7 3 s <| .mk fun s =>
  @sLd 26 1 25 false s <| .mk fun s =>
  @sMv 27 8 s <| .mk fun s =>
  @sOp (some 28) (xIx 8 (s.τ 26) (s.τ 27) s.H) s <| .mk fun s =>
  @sLd 29 8 28 true s <| .mk fun s =>
  @sCall P (.func 115 []) [(s.τ 24), (s.τ 29)] (some 30) s ⟨W115_c53 P Φ L0⟩
def W115_c55 (P : Program) (Φ : EP) (L0 : SP) (s : St) : Prop :=
  @sOp (some 18) (xPick (s.τ 15) (s.τ 17) (.bool false) s.H) s <| .mk fun s =>
  @sIf (s.τ 18) ⟨W115_b54 P Φ L0 s⟩ ⟨W115_k52 P Φ s⟩
def W115_c56 (P : Program) (Φ : EP) (L0 : SP) (s : St) : Prop :=
  @sGrd (guardOf (s.τ 15) true) (some 17) s ⟨fun s K => @sOp (some 17) (xBin .lss false (s.τ 16) (.int .i64 2) s.H) s ⟨K⟩⟩ ⟨W115_c55 P Φ L0⟩
def W115_l57 (P : Program) (Φ : EP) (L0 : SP) (s : St) : Prop :=
  @sMv 10 8 s <| .mk fun s =>
  @sFl 11 7 3 s <| .mk fun s =>
  @sLd 12 1 11 false s <| .mk fun s =>
  @sOp (some 13) (xLen (s.τ 12) s.H) s <| .mk fun s =>
  @sOp (some 14) (xBin .lss false (s.τ 10) (s.τ 13) s.H) s <| .mk fun s =>
  @sMv 15 14 s <| .mk fun s =>
  @sGm 16 8 15 true s ⟨W115_c56 P Φ L0⟩
def W115 (P : Program) (Φ : EP) (s : St) : Prop :=
  @sOp (some 3) (xBox 3 73 (s.τ 1) s.H) s <| .mk fun s =>
  @sOp (some 4) (xMov (.bool false) s.H) s <| .mk fun s =>
  @sOp (some 5) (xMov (.bool false) s.H) s <| .mk fun s =>
  @sOp (some 6) (xAlloc 6 160 [.bool false, .bool false] s.H) s <| .mk fun s =>
  @sOp (some 7) (xAlloc 7 160 [.bool false, .bool false] s.H) s <| .mk fun s =>
  @sOp (some 8) (xMov (.int .i64 0) s.H) s <| .mk fun s =>
  @sLoop s ⟨fun L0 s => W115_l57 P Φ L0 s⟩
theorem W115_rs (τ : Nat → AV) (H : Heap) : resV Try.prog τ H [.tmp 4, .tmp 5] = ob (ob (some (τ 4)) fun v => ob (ob (some (τ 5)) fun v => ob (some []) fun vs => some (v :: vs)) fun vs => some (v :: vs)) fun vs => some (.tup vs) := by kernel_rfl
theorem W115_eq (Φ : EP) (s : St) : awp Try.prog (Try.f115.body.getD .skip) Φ s = W115 Try.prog Φ s := by kernel_rfl

end Go.Proofs.Ytkagfenchknjjaa
