import Derived.Test.YtkagfenchknjjaaAmSimp
import Derived.Test.YtkagfenchknjjaaProg
import Derived.KernelRfl
set_option linter.unusedVariables false
namespace Go.Proofs.Ytkagfenchknjjaa
open Go Go.Am
-- 45 "(penance/penancelaw3.Shape).Make"
def W45_k1 (P : Program) (Φ : Exit → St → Prop) (s : St) : Prop :=
  @sOp (some 57) (xLoad 3 true (s.τ 3) s.H) s <| .mk fun s =>
  @sOp none (xStore 3 (s.τ 2) (s.τ 57) s.H) s <| .mk fun s =>
  Φ .ret s
def W45_k2 (P : Program) (Φ : Exit → St → Prop) (L0 : St → Prop) (s : St) : Prop :=
  @sOp (some 51) (xFld 2 (s.τ 3) s.H) s <| .mk fun s =>
  @sOp (some 52) (xLoad 1 false (s.τ 51) s.H) s <| .mk fun s =>
  @sOp (some 53) (xLoad 9 true (s.τ 6) s.H) s <| .mk fun s =>
  @sOp (some 54) (xLit 9 1 [.str ⟨#[]⟩, .int .i64 0, .str ⟨#[]⟩, .str ⟨#[]⟩, .int .i64 0, .int .i64 0, .str ⟨#[]⟩, .nils, .nils] [(0, (s.τ 53))] s.H) s <| .mk fun s =>
  @sOp (some 55) (xApp P 75 9 136 (some 55) (s.τ 52) (s.τ 54) s.H) s <| .mk fun s =>
  @sOp (some 56) (xFld 2 (s.τ 3) s.H) s <| .mk fun s =>
  @sOp none (xStore 1 (s.τ 56) (s.τ 55) s.H) s <| .mk fun s =>
  @sOp (some 32) (xMov (s.τ 5) s.H) s <| .mk fun s =>
  @sOp (some 33) (xBin .add false (s.τ 32) (.int .i64 1) s.H) s <| .mk fun s =>
  @sOp (some 5) (xMov (s.τ 33) s.H) s <| .mk fun s =>
  L0 s
def W45_c3 (P : Program) (Φ : Exit → St → Prop) (L0 : St → Prop) (s : St) : Prop :=
  @sOp (some 50) (xFld 1 (s.τ 6) s.H) s <| .mk fun s =>
  @sOp none (xStore 8 (s.τ 50) (s.τ 49) s.H) s <| .mk fun s =>
  W45_k2 P Φ L0 s
def W45_b4 (P : Program) (Φ : Exit → St → Prop) (L0 : St → Prop) (s : St) : Prop :=
  @sOp (some 44) (xFld 2 (s.τ 1) s.H) s <| .mk fun s =>
  @sOp (some 45) (xLoad 1 false (s.τ 44) s.H) s <| .mk fun s =>
  @sOp (some 46) (xMov (s.τ 5) s.H) s <| .mk fun s =>
  @sOp (some 47) (xIx 5 (s.τ 45) (s.τ 46) s.H) s <| .mk fun s =>
  @sOp (some 48) (xLoad 5 true (s.τ 47) s.H) s <| .mk fun s =>
  @sCall P (.func 69 []) [(s.τ 48), (.int .i64 0)] (some 49) s ⟨W45_c3 P Φ L0⟩
def W45_c5 (P : Program) (Φ : Exit → St → Prop) (L0 : St → Prop) (s : St) : Prop :=
  @sOp (some 35) (xMov (s.τ 5) s.H) s <| .mk fun s =>
  @sOp (some 36) (xIx 1 (s.τ 34) (s.τ 35) s.H) s <| .mk fun s =>
  @sOp (some 37) (xLoad 1 false (s.τ 36) s.H) s <| .mk fun s =>
  @sOp (some 38) (xBuild [.str ⟨#[]⟩, .int .i64 0, .str ⟨#[]⟩, .str ⟨#[]⟩, .int .i64 0, .int .i64 0, .str ⟨#[]⟩, .nils, .nils] [(0, 1, (s.τ 37))] s.H) s <| .mk fun s =>
  @sOp (some 6) (xAlloc 6 75 [.str ⟨#[]⟩, .int .i64 0, .str ⟨#[]⟩, .str ⟨#[]⟩, .int .i64 0, .int .i64 0, .str ⟨#[]⟩, .nils, .nils] s.H) s <| .mk fun s =>
  @sOp none (xStore 9 (s.τ 6) (s.τ 38) s.H) s <| .mk fun s =>
  @sOp (some 39) (xMov (s.τ 5) s.H) s <| .mk fun s =>
  @sOp (some 40) (xFld 2 (s.τ 1) s.H) s <| .mk fun s =>
  @sOp (some 41) (xLoad 1 false (s.τ 40) s.H) s <| .mk fun s =>
  @sOp (some 42) (xLen (s.τ 41) s.H) s <| .mk fun s =>
  @sOp (some 43) (xBin .lss false (s.τ 39) (s.τ 42) s.H) s <| .mk fun s =>
  @sIf (s.τ 43) ⟨W45_b4 P Φ L0 s⟩ ⟨W45_k2 P Φ L0 s⟩
def W45_l6 (P : Program) (Φ : Exit → St → Prop) (L0 : St → Prop) (s : St) : Prop :=
  @sOp (some 30) (xMov (s.τ 5) s.H) s <| .mk fun s =>
  @sOp (some 31) (xBin .lss false (s.τ 30) (.int .i64 5) s.H) s <| .mk fun s =>
  @sIf (s.τ 31) ⟨@sCall P (.func 68 []) [] (some 34) s ⟨W45_c5 P Φ L0⟩⟩ ⟨W45_k1 P Φ s⟩
def W45_k7 (P : Program) (Φ : Exit → St → Prop) (s : St) : Prop :=
  @sOp (some 5) (xMov (.int .i64 0) s.H) s <| .mk fun s =>
  @sLoop s ⟨fun L0 s => W45_l6 P Φ L0 s⟩
def W45_c8 (P : Program) (Φ : Exit → St → Prop) (L0 : St → Prop) (u0 : St) (u1 : St) (s : St) : Prop :=
  @sOp (some 25) (xBin .sub false (s.τ 24) (.int .i64 4) s.H) s <| .mk fun u13 =>
  @sOp (some 26) (xBuild [.str ⟨#[]⟩, .int .i64 0] [(0, 1, (u13.τ 18)), (1, 1, (u13.τ 25))] u13.H) u13 <| .mk fun u14 =>
  @sChk (compat (occ (u0.τ 3), []) ([27] ++ occL [(u14.τ 26)], [27] ++ occL [(u14.τ 26)])) <| .mk <|
  @sChk (compat (occ (u1.τ 13), []) ([27] ++ occL [(u14.τ 26)], [27] ++ occL [(u14.τ 26)])) <| .mk <|
  @sOp (some 27) (xLit 2 1 [.str ⟨#[]⟩, .int .i64 0] [(0, (u14.τ 26))] u14.H) u14 <| .mk fun u15 =>
  @sOp (some 28) (xApp P 103 2 24 (some 28) (u15.τ 14) (u15.τ 27) u15.H) u15 <| .mk fun u16 =>
  @sOp (some 29) (xFld 0 (u16.τ 3) u16.H) u16 <| .mk fun u17 =>
  @sOp none (xStore 1 (u17.τ 29) (u17.τ 28) u17.H) u17 <| .mk fun s =>
  @sOp (some 11) (xMov (s.τ 4) s.H) s <| .mk fun s =>
  @sOp (some 12) (xBin .add false (s.τ 11) (.int .i64 1) s.H) s <| .mk fun s =>
  @sOp (some 4) (xMov (s.τ 12) s.H) s <| .mk fun s =>
  L0 s
def W45_c9 (P : Program) (Φ : Exit → St → Prop) (L0 : St → Prop) (u0 : St) (u1 : St) (u2 : St) (s : St) : Prop :=
  @sOp (some 16) (xMov (s.τ 4) s.H) s <| .mk fun u4 =>
  @sOp (some 17) (xIx 1 (u4.τ 15) (u4.τ 16) u4.H) u4 <| .mk fun u5 =>
  @sOp (some 18) (xLoad 1 false (u5.τ 17) u5.H) u5 <| .mk fun u6 =>
  @sChk (compat ([15] ++ (occ (.func 66 []) ++ occL []), [15] ++ (occ (.func 66 []) ++ occL [])) (occ (u6.τ 1), [])) <| .mk <|
  @sOp (some 19) (xFld 0 (u6.τ 1) u6.H) u6 <| .mk fun u7 =>
  @sChk (compat ([15] ++ (occ (.func 66 []) ++ occL []), [15] ++ (occ (.func 66 []) ++ occL [])) (occ (u7.τ 19), [])) <| .mk <|
  @sOp (some 20) (xLoad 1 false (u7.τ 19) u7.H) u7 <| .mk fun u8 =>
  @sOp (some 21) (xMov (u8.τ 4) u8.H) u8 <| .mk fun u9 =>
  @sOp (some 22) (xBin .add false (u9.τ 21) (.int .i64 1) u9.H) u9 <| .mk fun u10 =>
  @sOp (some 23) (xBin .quo false (u10.τ 20) (u10.τ 22) u10.H) u10 <| .mk fun u11 =>
  @sChk (compat (occ (u0.τ 3), []) ([24] ++ (occ (.func 67 []) ++ occL [(u11.τ 23), (.int .i64 9)]), [24] ++ (occ (.func 67 []) ++ occL [(u11.τ 23), (.int .i64 9)]))) <| .mk <|
  @sChk (compat (occ (u1.τ 13), []) ([24] ++ (occ (.func 67 []) ++ occL [(u11.τ 23), (.int .i64 9)]), [24] ++ (occ (.func 67 []) ++ occL [(u11.τ 23), (.int .i64 9)]))) <| .mk <|
  @sChk (compat (occ (u4.τ 15), []) ([24] ++ (occ (.func 67 []) ++ occL [(u11.τ 23), (.int .i64 9)]), [24] ++ (occ (.func 67 []) ++ occL [(u11.τ 23), (.int .i64 9)]))) <| .mk <|
  @sChk (compat (occ (u5.τ 17), []) ([24] ++ (occ (.func 67 []) ++ occL [(u11.τ 23), (.int .i64 9)]), [24] ++ (occ (.func 67 []) ++ occL [(u11.τ 23), (.int .i64 9)]))) <| .mk <|
  @sCall0 P (.func 67 []) [(u11.τ 23), (.int .i64 9)] (some 24) u11 ⟨W45_c8 P Φ L0 u0 u1⟩
def W45_b10 (P : Program) (Φ : Exit → St → Prop) (L0 : St → Prop) (s : St) : Prop :=
  @sOp (some 13) (xFld 0 (s.τ 3) s.H) s <| .mk fun u1 =>
  @sOp (some 14) (xLoad 1 false (u1.τ 13) u1.H) u1 <| .mk fun u2 =>
  @sChk (compat (occ (s.τ 3), []) ([15] ++ (occ (.func 66 []) ++ occL []), [15] ++ (occ (.func 66 []) ++ occL []))) <| .mk <|
  @sChk (compat (occ (u1.τ 13), []) ([15] ++ (occ (.func 66 []) ++ occL []), [15] ++ (occ (.func 66 []) ++ occL []))) <| .mk <|
  @sCall0 P (.func 66 []) [] (some 15) u2 ⟨W45_c9 P Φ L0 s u1 u2⟩
def W45_l11 (P : Program) (Φ : Exit → St → Prop) (L0 : St → Prop) (s : St) : Prop :=
  @sOp (some 9) (xMov (s.τ 4) s.H) s <| .mk fun s =>
  @sOp (some 10) (xBin .lss false (s.τ 9) (.int .i64 3) s.H) s <| .mk fun s =>
  @sIf (s.τ 10) ⟨W45_b10 P Φ L0 s⟩ ⟨W45_k7 P Φ s⟩
def W45_c12 (P : Program) (Φ : Exit → St → Prop) (s : St) : Prop :=
  @sOp (some 8) (xBuild [.nils, .nils, .nils] [(1, 1, (s.τ 7))] s.H) s <| .mk fun s =>
  @sOp (some 3) (xAlloc 3 69 [.nils, .nils, .nils] s.H) s <| .mk fun s =>
  @sOp none (xStore 3 (s.τ 3) (s.τ 8) s.H) s <| .mk fun s =>
  @sOp (some 4) (xMov (.int .i64 0) s.H) s <| .mk fun s =>
  @sLoop s ⟨fun L0 s => W45_l11 P Φ L0 s⟩
def W45 (P : Program) (Φ : Exit → St → Prop) (s : St) : Prop :=
  @sOp (some 1) (xBox 1 28 (s.τ 0) s.H) s <| .mk fun s =>
  @sOp (some 2) (xAlloc 2 69 [.nils, .nils, .nils] s.H) s <| .mk fun s =>
  @sCall P (.func 65 []) [] (some 7) s ⟨W45_c12 P Φ⟩
theorem W45_rs (τ : Nat → AV) (H : Heap) : resV Try.prog τ H [.cell 2 69] = rdV H 3 true (τ 2) := by kernel_rfl
theorem W45_eq (Φ : Exit → St → Prop) (s : St) : awp Try.prog (Try.f45.body.getD .skip) Φ s = W45 Try.prog Φ s := by kernel_rfl

-- 46 "penance/penancelaw5.ref4"
def W46_b1 (P : Program) (Φ : Exit → St → Prop) (s : St) : Prop :=
  @sOp (some 13) (xBuild [.int .i64 0, .int .i64 0, .int .i64 0, .str ⟨#[]⟩, .int .i64 0, .int .i64 0, .str ⟨#[]⟩, .nils, .nils] [] s.H) s <| .mk fun s =>
  @sOp none (xStore 9 (s.τ 2) (s.τ 13) s.H) s <| .mk fun s =>
  @sOp (some 3) (xMov (.bool false) s.H) s <| .mk fun s =>
  Φ .ret s
def W46_b2 (P : Program) (Φ : Exit → St → Prop) (s : St) : Prop :=
  @sOp (some 14) (xFld 2 (s.τ 4) s.H) s <| .mk fun s =>
  @sOp (some 15) (xLoad 1 false (s.τ 14) s.H) s <| .mk fun s =>
  @sOp (some 16) (xIx 9 (s.τ 15) (.int .i64 0) s.H) s <| .mk fun s =>
  @sOp (some 17) (xLoad 9 true (s.τ 16) s.H) s <| .mk fun s =>
  @sOp none (xStore 9 (s.τ 2) (s.τ 17) s.H) s <| .mk fun s =>
  @sOp (some 3) (xMov (.bool true) s.H) s <| .mk fun s =>
  Φ .ret s
def W46_c3 (P : Program) (Φ : Exit → St → Prop) (s : St) : Prop :=
  @sOp (some 6) (xMov (s.τ 8) s.H) s <| .mk fun s =>
  @sOp (some 9) (xExt (s.τ 6) 0 s.H) s <| .mk fun s =>
  @sOp (some 10) (xExt (s.τ 6) 1 s.H) s <| .mk fun s =>
  @sOp (some 4) (xAlloc 4 106 [.nils, .int .i64 0, .nils, .int .i64 0] s.H) s <| .mk fun s =>
  @sOp none (xStore 4 (s.τ 4) (s.τ 9) s.H) s <| .mk fun s =>
  @sOp (some 5) (xMov (s.τ 10) s.H) s <| .mk fun s =>
  @sOp (some 11) (xMov (s.τ 5) s.H) s <| .mk fun s =>
  @sOp (some 12) (xBin .neq false (s.τ 11) (.int .i64 0) s.H) s <| .mk fun s =>
  @sIf (s.τ 12) ⟨W46_b1 P Φ s⟩ ⟨W46_b2 P Φ s⟩
def W46 (P : Program) (Φ : Exit → St → Prop) (s : St) : Prop :=
  @sOp (some 1) (xBox 1 69 (s.τ 0) s.H) s <| .mk fun s =>
  @sOp (some 2) (xAlloc 2 34 [.int .i64 0, .int .i64 0, .int .i64 0, .str ⟨#[]⟩, .int .i64 0, .int .i64 0, .str ⟨#[]⟩, .nils, .nils] s.H) s <| .mk fun s =>
  @sOp (some 3) (xMov (.bool false) s.H) s <| .mk fun s =>
  @sOp (some 7) (xLoad 3 true (s.τ 1) s.H) s <| .mk fun s =>
  @sCall P (.func 70 []) [(s.τ 7)] (some 8) s ⟨W46_c3 P Φ⟩
theorem W46_rs (τ : Nat → AV) (H : Heap) : resV Try.prog τ H [.cell 2 34, .tmp 3] = ob (ob (rdV H 9 true (τ 2)) fun v => ob (ob (some (τ 3)) fun v => ob (some []) fun vs => some (v :: vs)) fun vs => some (v :: vs)) fun vs => some (.tup vs) := by kernel_rfl
theorem W46_eq (Φ : Exit → St → Prop) (s : St) : awp Try.prog (Try.f46.body.getD .skip) Φ s = W46 Try.prog Φ s := by kernel_rfl

-- 47 "penance/penancelaw5.waiting"
def W47_k1 (P : Program) (Φ : Exit → St → Prop) (s : St) : Prop :=
  @sOp (some 67) (xLoad 9 true (s.τ 9) s.H) s <| .mk fun s =>
  @sOp none (xStore 9 (s.τ 8) (s.τ 67) s.H) s <| .mk fun s =>
  Φ .ret s
def W47_c2 (P : Program) (Φ : Exit → St → Prop) (L0 : St → Prop) (u0 : St) (u1 : St) (s : St) : Prop :=
  @sChk (compat (occ (u0.τ 9), []) ([64] ++ occL [(s.τ 63)], [64] ++ occL [(s.τ 63)])) <| .mk <|
  @sChk (compat (occ (u1.τ 48), []) ([64] ++ occL [(s.τ 63)], [64] ++ occL [(s.τ 63)])) <| .mk <|
  @sOp (some 64) (xLit 9 1 [.int .i64 0, .int .i64 0, .int .i64 0, .str ⟨#[]⟩, .int .i64 0, .int .i64 0, .str ⟨#[]⟩, .nils, .nils] [(0, (s.τ 63))] s.H) s <| .mk fun u17 =>
  @sOp (some 65) (xApp P 34 9 120 (some 65) (u17.τ 49) (u17.τ 64) u17.H) u17 <| .mk fun u18 =>
  @sOp (some 66) (xFld 8 (u18.τ 9) u18.H) u18 <| .mk fun u19 =>
  @sOp none (xStore 1 (u19.τ 66) (u19.τ 65) u19.H) u19 <| .mk fun s =>
  @sOp (some 46) (xMov (s.τ 11) s.H) s <| .mk fun s =>
  @sOp (some 47) (xBin .add false (s.τ 46) (.int .i64 1) s.H) s <| .mk fun s =>
  @sOp (some 11) (xMov (s.τ 47) s.H) s <| .mk fun s =>
  L0 s
def W47_c3 (P : Program) (Φ : Exit → St → Prop) (L0 : St → Prop) (u0 : St) (u1 : St) (s : St) : Prop :=
  @sOp (some 62) (xPick (s.τ 58) (.bool true) (s.τ 61) s.H) s <| .mk fun u15 =>
  @sChk (compat (occ (u0.τ 9), []) ([63] ++ (occ (.func 47 []) ++ occL [(u15.τ 54), (u15.τ 55), (u15.τ 56), (u15.τ 62)]), [63] ++ (occ (.func 47 []) ++ occL [(u15.τ 54), (u15.τ 55), (u15.τ 56), (u15.τ 62)]))) <| .mk <|
  @sChk (compat (occ (u1.τ 48), []) ([63] ++ (occ (.func 47 []) ++ occL [(u15.τ 54), (u15.τ 55), (u15.τ 56), (u15.τ 62)]), [63] ++ (occ (.func 47 []) ++ occL [(u15.τ 54), (u15.τ 55), (u15.τ 56), (u15.τ 62)]))) <| .mk <|
  @sCall0 P (.func 47 []) [(u15.τ 54), (u15.τ 55), (u15.τ 56), (u15.τ 62)] (some 63) u15 ⟨W47_c2 P Φ L0 u0 u1⟩
def W47_c4 (P : Program) (Φ : Exit → St → Prop) (L0 : St → Prop) (u0 : St) (u1 : St) (s : St) : Prop :=
  @sGrd (guardOf (s.τ 58) false) (some 61) s ⟨fun s K => @sOp (some 61) (xBin .eql false (s.τ 60) (.int .i64 3) s.H) s ⟨K⟩⟩ ⟨W47_c3 P Φ L0 u0 u1⟩
def W47_c5 (P : Program) (Φ : Exit → St → Prop) (L0 : St → Prop) (u0 : St) (u1 : St) (s : St) : Prop :=
  @sGrd (guardOf (s.τ 58) false) (some 60) s ⟨fun s K => @sOp (some 60) (xLoad 1 false (s.τ 59) s.H) s ⟨K⟩⟩ ⟨W47_c4 P Φ L0 u0 u1⟩
def W47_b6 (P : Program) (Φ : Exit → St → Prop) (L0 : St → Prop) (s : St) : Prop :=
  @sOp (some 48) (xFld 8 (s.τ 9) s.H) s <| .mk fun u1 =>
  @sOp (some 49) (xLoad 1 false (u1.τ 48) u1.H) u1 <| .mk fun u2 =>
  @sOp (some 50) (xFld 8 (u2.τ 4) u2.H) u2 <| .mk fun u3 =>
  @sOp (some 51) (xLoad 1 false (u3.τ 50) u3.H) u3 <| .mk fun u4 =>
  @sOp (some 52) (xMov (u4.τ 11) u4.H) u4 <| .mk fun u5 =>
  @sOp (some 53) (xIx 9 (u5.τ 51) (u5.τ 52) u5.H) u5 <| .mk fun u6 =>
  @sOp (some 54) (xLoad 9 true (u6.τ 53) u6.H) u6 <| .mk fun u7 =>
  @sOp (some 55) (xMov (u7.τ 1) u7.H) u7 <| .mk fun u8 =>
  @sOp (some 56) (xMov (u8.τ 2) u8.H) u8 <| .mk fun u9 =>
  @sOp (some 57) (xMov (u9.τ 3) u9.H) u9 <| .mk fun u10 =>
  @sOp (some 58) (xMov (u10.τ 57) u10.H) u10 <| .mk fun u11 =>
  @sGrd (guardOf (u11.τ 58) false) (some 59) u11 ⟨fun s K => @sOp (some 59) (xFld 0 (s.τ 4) s.H) s ⟨K⟩⟩ ⟨W47_c5 P Φ L0 s u1⟩
def W47_l7 (P : Program) (Φ : Exit → St → Prop) (L0 : St → Prop) (s : St) : Prop :=
  @sOp (some 41) (xMov (s.τ 11) s.H) s <| .mk fun s =>
  @sOp (some 42) (xFld 8 (s.τ 4) s.H) s <| .mk fun s =>
  @sOp (some 43) (xLoad 1 false (s.τ 42) s.H) s <| .mk fun s =>
  @sOp (some 44) (xLen (s.τ 43) s.H) s <| .mk fun s =>
  @sOp (some 45) (xBin .lss false (s.τ 41) (s.τ 44) s.H) s <| .mk fun s =>
  @sIf (s.τ 45) ⟨W47_b6 P Φ L0 s⟩ ⟨W47_k1 P Φ s⟩
def W47_k8 (P : Program) (Φ : Exit → St → Prop) (s : St) : Prop :=
  @sOp (some 11) (xMov (.int .i64 0) s.H) s <| .mk fun s =>
  @sLoop s ⟨fun L0 s => W47_l7 P Φ L0 s⟩
def W47_b9 (P : Program) (Φ : Exit → St → Prop) (s : St) : Prop :=
  @sOp (some 35) (xMov (s.τ 10) s.H) s <| .mk fun s =>
  @sOp (some 36) (xFld 1 (s.τ 4) s.H) s <| .mk fun s =>
  @sOp (some 37) (xLoad 1 false (s.τ 36) s.H) s <| .mk fun s =>
  @sOp (some 38) (xFld 3 (s.τ 4) s.H) s <| .mk fun s =>
  @sOp (some 39) (xLoad 1 false (s.τ 38) s.H) s <| .mk fun s =>
  @sOp (some 40) (xBuild [.int .i64 0, .int .i64 0, .int .i64 0, .str ⟨#[]⟩, .int .i64 0, .int .i64 0, .str ⟨#[]⟩, .nils, .nils] [(0, 1, (.int .i64 14)), (1, 1, (s.τ 35)), (2, 1, (s.τ 37)), (3, 1, (s.τ 39))] s.H) s <| .mk fun s =>
  @sOp none (xStore 9 (s.τ 8) (s.τ 40) s.H) s <| .mk fun s =>
  Φ .ret s
def W47_c10 (P : Program) (Φ : Exit → St → Prop) (s : St) : Prop :=
  @sOp (some 34) (xPick (s.τ 26) (s.τ 33) (.bool false) s.H) s <| .mk fun s =>
  @sIf (s.τ 34) ⟨W47_b9 P Φ s⟩ ⟨W47_k8 P Φ s⟩
def W47_c11 (P : Program) (Φ : Exit → St → Prop) (s : St) : Prop :=
  @sGrd (guardOf (s.τ 26) true) (some 33) s ⟨fun s K => @sOp (some 33) (xBin .eql false (s.τ 32) (.int .i64 1) s.H) s ⟨K⟩⟩ ⟨W47_c10 P Φ⟩
def W47_c12 (P : Program) (Φ : Exit → St → Prop) (s : St) : Prop :=
  @sGrd (guardOf (s.τ 26) true) (some 32) s ⟨fun s K => @sCall P (.func 43 []) [(s.τ 31), (.int .i64 2)] (some 32) s ⟨K⟩⟩ ⟨W47_c11 P Φ⟩
def W47_c13 (P : Program) (Φ : Exit → St → Prop) (s : St) : Prop :=
  @sGrd (guardOf (s.τ 26) true) (some 31) s ⟨fun s K => @sOp (some 31) (xBin .shr false (s.τ 27) (s.τ 30) s.H) s ⟨K⟩⟩ ⟨W47_c12 P Φ⟩
def W47_c14 (P : Program) (Φ : Exit → St → Prop) (s : St) : Prop :=
  @sGrd (guardOf (s.τ 26) true) (some 30) s ⟨fun s K => @sOp (some 30) (xConv .u64 (s.τ 29) s.H) s ⟨K⟩⟩ ⟨W47_c13 P Φ⟩
def W47_c15 (P : Program) (Φ : Exit → St → Prop) (s : St) : Prop :=
  @sGrd (guardOf (s.τ 26) true) (some 29) s ⟨fun s K => @sOp (some 29) (xBin .rem false (s.τ 28) (.int .i64 20) s.H) s ⟨K⟩⟩ ⟨W47_c14 P Φ⟩
def W47_c16 (P : Program) (Φ : Exit → St → Prop) (s : St) : Prop :=
  @sGrd (guardOf (s.τ 26) true) (some 28) s ⟨fun s K => @sOp (some 28) (xMov (s.τ 10) s.H) s ⟨K⟩⟩ ⟨W47_c15 P Φ⟩
def W47_b17 (P : Program) (Φ : Exit → St → Prop) (s : St) : Prop :=
  @sOp (some 17) (xMov (s.τ 2) s.H) s <| .mk fun s =>
  @sOp (some 18) (xNil (s.τ 17) s.H) s <| .mk fun s =>
  @sOp (some 19) (xLoad 1 false (s.τ 18) s.H) s <| .mk fun s =>
  @sOp (some 10) (xMov (s.τ 19) s.H) s <| .mk fun s =>
  @sOp (some 20) (xMov (s.τ 2) s.H) s <| .mk fun s =>
  @sOp (some 21) (xMov (s.τ 10) s.H) s <| .mk fun s =>
  @sOp (some 22) (xBin .add false (s.τ 21) (.int .i64 1) s.H) s <| .mk fun s =>
  @sOp (some 23) (xNil (s.τ 20) s.H) s <| .mk fun s =>
  @sOp none (xStore 1 (s.τ 23) (s.τ 22) s.H) s <| .mk fun s =>
  @sOp (some 24) (xMov (s.τ 3) s.H) s <| .mk fun s =>
  @sOp (some 25) (xNot (s.τ 24) s.H) s <| .mk fun s =>
  @sOp (some 26) (xMov (s.τ 25) s.H) s <| .mk fun s =>
  @sGrd (guardOf (s.τ 26) true) (some 27) s ⟨fun s K => @sOp (some 27) (xMov (s.τ 1) s.H) s ⟨K⟩⟩ ⟨W47_c16 P Φ⟩
def W47 (P : Program) (Φ : Exit → St → Prop) (s : St) : Prop :=
  @sOp (some 4) (xBox 4 34 (s.τ 0) s.H) s <| .mk fun s =>
  @sOp (some 8) (xAlloc 8 34 [.int .i64 0, .int .i64 0, .int .i64 0, .str ⟨#[]⟩, .int .i64 0, .int .i64 0, .str ⟨#[]⟩, .nils, .nils] s.H) s <| .mk fun s =>
  @sOp (some 12) (xLoad 9 true (s.τ 4) s.H) s <| .mk fun s =>
  @sOp (some 9) (xAlloc 9 34 [.int .i64 0, .int .i64 0, .int .i64 0, .str ⟨#[]⟩, .int .i64 0, .int .i64 0, .str ⟨#[]⟩, .nils, .nils] s.H) s <| .mk fun s =>
  @sOp none (xStore 9 (s.τ 9) (s.τ 12) s.H) s <| .mk fun s =>
  @sOp (some 13) (xFld 8 (s.τ 9) s.H) s <| .mk fun s =>
  @sOp none (xStore 1 (s.τ 13) (.nils) s.H) s <| .mk fun s =>
  @sOp (some 14) (xFld 0 (s.τ 4) s.H) s <| .mk fun s =>
  @sOp (some 15) (xLoad 1 false (s.τ 14) s.H) s <| .mk fun s =>
  @sOp (some 16) (xBin .eql false (s.τ 15) (.int .i64 1) s.H) s <| .mk fun s =>
  @sIf (s.τ 16) ⟨W47_b17 P Φ s⟩ ⟨W47_k8 P Φ s⟩
theorem W47_rs (τ : Nat → AV) (H : Heap) : resV Try.prog τ H [.cell 8 34] = rdV H 9 true (τ 8) := by kernel_rfl
theorem W47_eq (Φ : Exit → St → Prop) (s : St) : awp Try.prog (Try.f47.body.getD .skip) Φ s = W47 Try.prog Φ s := by kernel_rfl

-- 48 "penance/steps.places"

def W48 (P : Program) (Φ : Exit → St → Prop) (s : St) : Prop :=
  @sOp (some 1) (xBox 1 34 (s.τ 0) s.H) s <| .mk fun s =>
  @sOp (some 2) (xMov (.nilf) s.H) s <| .mk fun s =>
  @sOp (some 3) (xMkf 71 [(s.τ 1)] s.H) s <| .mk fun s =>
  @sOp (some 2) (xMov (s.τ 3) s.H) s <| .mk fun s =>
  Φ .ret s
theorem W48_rs (τ : Nat → AV) (H : Heap) : resV Try.prog τ H [.tmp 2] = some (τ 2) := by kernel_rfl
theorem W48_eq (Φ : Exit → St → Prop) (s : St) : awp Try.prog (Try.f48.body.getD .skip) Φ s = W48 Try.prog Φ s := by kernel_rfl

-- 49 "slices.Clone[[]int,int]"
def W49_b1 (P : Program) (Φ : Exit → St → Prop) (s : St) : Prop :=
  @sOp (some 2) (xMov (.nils) s.H) s <| .mk fun s =>
  Φ .ret s
def W49_b2 (P : Program) (Φ : Exit → St → Prop) (s : St) : Prop :=
  @sOp (some 5) (xRow 5 3 1 0 [.int .i64 0] [] s.H) s <| .mk fun s =>
  @sOp (some 6) (xMov (s.τ 0) s.H) s <| .mk fun s =>
  @sOp (some 7) (xApp P 3 1 8 (some 7) (s.τ 5) (s.τ 6) s.H) s <| .mk fun s =>
  @sOp (some 2) (xMov (s.τ 7) s.H) s <| .mk fun s =>
  Φ .ret s
def W49_c3 (P : Program) (Φ : Exit → St → Prop) (s : St) : Prop :=
  @sIf (s.τ 4) ⟨W49_b1 P Φ s⟩ ⟨W49_b2 P Φ s⟩
def W49 (P : Program) (Φ : Exit → St → Prop) (s : St) : Prop :=
  @sOp (some 2) (xMov (.nils) s.H) s <| .mk fun s =>
  @sOp (some 3) (xMov (s.τ 0) s.H) s <| .mk fun s =>
  @sNil false (s.τ 3) (some 4) s ⟨W49_c3 P Φ⟩
theorem W49_rs (τ : Nat → AV) (H : Heap) : resV Try.prog τ H [.tmp 2] = some (τ 2) := by kernel_rfl
theorem W49_eq (Φ : Exit → St → Prop) (s : St) : awp Try.prog (Try.f49.body.getD .skip) Φ s = W49 Try.prog Φ s := by kernel_rfl

-- 50 "slices.Clone[[]penance/api.Step,penance/api.Step]"
def W50_b1 (P : Program) (Φ : Exit → St → Prop) (s : St) : Prop :=
  @sOp (some 2) (xMov (.nils) s.H) s <| .mk fun s =>
  Φ .ret s
def W50_b2 (P : Program) (Φ : Exit → St → Prop) (s : St) : Prop :=
  @sOp (some 5) (xRow 5 43 3 0 [.int .i64 0, .nils, .int .i64 0] [] s.H) s <| .mk fun s =>
  @sOp (some 6) (xMov (s.τ 0) s.H) s <| .mk fun s =>
  @sOp (some 7) (xApp P 43 3 40 (some 7) (s.τ 5) (s.τ 6) s.H) s <| .mk fun s =>
  @sOp (some 2) (xMov (s.τ 7) s.H) s <| .mk fun s =>
  Φ .ret s
def W50_c3 (P : Program) (Φ : Exit → St → Prop) (s : St) : Prop :=
  @sIf (s.τ 4) ⟨W50_b1 P Φ s⟩ ⟨W50_b2 P Φ s⟩
def W50 (P : Program) (Φ : Exit → St → Prop) (s : St) : Prop :=
  @sOp (some 2) (xMov (.nils) s.H) s <| .mk fun s =>
  @sOp (some 3) (xMov (s.τ 0) s.H) s <| .mk fun s =>
  @sNil false (s.τ 3) (some 4) s ⟨W50_c3 P Φ⟩
theorem W50_rs (τ : Nat → AV) (H : Heap) : resV Try.prog τ H [.tmp 2] = some (τ 2) := by kernel_rfl
theorem W50_eq (Φ : Exit → St → Prop) (s : St) : awp Try.prog (Try.f50.body.getD .skip) Φ s = W50 Try.prog Φ s := by kernel_rfl

-- 51 "(penance/term.bounds).right"
def W51_b1 (P : Program) (Φ : Exit → St → Prop) (s : St) : Prop :=
  @sOp (some 6) (xMov (.bool false) s.H) s <| .mk fun s =>
  Φ .ret s
def W51_b2 (P : Program) (Φ : Exit → St → Prop) (s : St) : Prop :=
  @sOp (some 6) (xMov (.bool false) s.H) s <| .mk fun s =>
  Φ .ret s
def W51_k3 (P : Program) (Φ : Exit → St → Prop) (s : St) : Prop :=
  @sOp (some 6) (xMov (.bool true) s.H) s <| .mk fun s =>
  Φ .ret s
def W51_b4 (P : Program) (Φ : Exit → St → Prop) (L0 : St → Prop) (s : St) : Prop :=
  @sOp (some 6) (xMov (.bool false) s.H) s <| .mk fun s =>
  Φ .ret s
def W51_b5 (P : Program) (Φ : Exit → St → Prop) (L0 : St → Prop) (s : St) : Prop :=
  @sOp (some 93) (xBin .add false (s.τ 79) (.int .i64 1) s.H) s <| .mk fun s =>
  @sOp (some 79) (xMov (s.τ 93) s.H) s <| .mk fun s =>
  L0 s
def W51_c6 (P : Program) (Φ : Exit → St → Prop) (L0 : St → Prop) (s : St) : Prop :=
  @sOp (some 92) (xNot (s.τ 91) s.H) s <| .mk fun s =>
  @sIf (s.τ 92) ⟨W51_b4 P Φ L0 s⟩ ⟨W51_b5 P Φ L0 s⟩
def W51_c7 (P : Program) (Φ : Exit → St → Prop) (L0 : St → Prop) (s : St) : Prop :=
  @sOp (some 90) (xPick (s.τ 86) (.bool true) (s.τ 89) s.H) s <| .mk fun s =>
  @sCall P (.func 51 []) [(s.τ 83), (s.τ 84), (s.τ 90)] (some 91) s ⟨W51_c6 P Φ L0⟩
def W51_c8 (P : Program) (Φ : Exit → St → Prop) (L0 : St → Prop) (s : St) : Prop :=
  @sGrd (guardOf (s.τ 86) false) (some 89) s ⟨fun s K => @sOp (some 89) (xBin .eql false (s.τ 88) (.int .i64 3) s.H) s ⟨K⟩⟩ ⟨W51_c7 P Φ L0⟩
def W51_c9 (P : Program) (Φ : Exit → St → Prop) (L0 : St → Prop) (s : St) : Prop :=
  @sGrd (guardOf (s.τ 86) false) (some 88) s ⟨fun s K => @sOp (some 88) (xLoad 1 false (s.τ 87) s.H) s ⟨K⟩⟩ ⟨W51_c8 P Φ L0⟩
def W51_b10 (P : Program) (Φ : Exit → St → Prop) (L0 : St → Prop) (s : St) : Prop :=
  @sOp (some 81) (xIx 9 (s.τ 77) (s.τ 79) s.H) s <| .mk fun s =>
  @sOp (some 82) (xLoad 9 true (s.τ 81) s.H) s <| .mk fun s =>
  @sOp (some 10) (xAlloc 10 34 [.int .i64 0, .int .i64 0, .int .i64 0, .str ⟨#[]⟩, .int .i64 0, .int .i64 0, .str ⟨#[]⟩, .nils, .nils] s.H) s <| .mk fun s =>
  @sOp none (xStore 9 (s.τ 10) (s.τ 82) s.H) s <| .mk fun s =>
  @sOp (some 83) (xLoad 3 true (s.τ 3) s.H) s <| .mk fun s =>
  @sOp (some 84) (xLoad 9 true (s.τ 10) s.H) s <| .mk fun s =>
  @sOp (some 85) (xMov (s.τ 2) s.H) s <| .mk fun s =>
  @sOp (some 86) (xMov (s.τ 85) s.H) s <| .mk fun s =>
  @sGrd (guardOf (s.τ 86) false) (some 87) s ⟨fun s K => @sOp (some 87) (xFld 0 (s.τ 4) s.H) s ⟨K⟩⟩ ⟨W51_c9 P Φ L0⟩
def W51_l11 (P : Program) (Φ : Exit → St → Prop) (L0 : St → Prop) (s : St) : Prop :=
  @sOp (some 80) (xBin .lss false (s.τ 79) (s.τ 78) s.H) s <| .mk fun s =>
  @sIf (s.τ 80) ⟨W51_b10 P Φ L0 s⟩ ⟨W51_k3 P Φ s⟩
def W51_b12 (P : Program) (Φ : Exit → St → Prop) (s : St) : Prop :=
  @sOp (some 76) (xFld 8 (s.τ 4) s.H) s <| .mk fun s =>
  @sOp (some 77) (xLoad 1 false (s.τ 76) s.H) s <| .mk fun s =>
  @sOp (some 78) (xLen (s.τ 77) s.H) s <| .mk fun s =>
  @sOp (some 79) (xMov (.int .i64 0) s.H) s <| .mk fun s =>
  @sLoop s ⟨fun L0 s => W51_l11 P Φ L0 s⟩
def W51_k13 (P : Program) (Φ : Exit → St → Prop) (s : St) : Prop :=
  @sOp (some 73) (xLoad 5 true (s.τ 8) s.H) s <| .mk fun s =>
  @sOp (some 74) (xBuild [.bool false, .bool false, .bool false, .bool false, .bool false] [(0, 1, (.bool true)), (1, 1, (.bool true)), (2, 1, (.bool true)), (3, 1, (.bool true)), (4, 1, (.bool true))] s.H) s <| .mk fun s =>
  @sOp (some 75) (xEq true [(0, .bool), (1, .bool), (2, .bool), (3, .bool), (4, .bool)] (s.τ 73) (s.τ 74) s.H) s <| .mk fun s =>
  @sIf (s.τ 75) ⟨W51_b2 P Φ s⟩ ⟨W51_b12 P Φ s⟩
def W51_c14 (P : Program) (Φ : Exit → St → Prop) (s : St) : Prop :=
  @sOp (some 72) (xIxA 5 1 (s.τ 8) (.int .i64 4) s.H) s <| .mk fun s =>
  @sOp none (xStore 1 (s.τ 72) (s.τ 71) s.H) s <| .mk fun s =>
  W51_k13 P Φ s
def W51_b15 (P : Program) (Φ : Exit → St → Prop) (s : St) : Prop :=
  @sOp (some 67) (xFld 4 (s.τ 4) s.H) s <| .mk fun s =>
  @sOp (some 68) (xLoad 4 true (s.τ 67) s.H) s <| .mk fun s =>
  @sOp (some 69) (xFld 0 (s.τ 3) s.H) s <| .mk fun s =>
  @sOp (some 70) (xLoad 1 false (s.τ 69) s.H) s <| .mk fun s =>
  @sCall P (.func 77 []) [(s.τ 68), (s.τ 70)] (some 71) s ⟨W51_c14 P Φ⟩
def W51_k16 (P : Program) (Φ : Exit → St → Prop) (s : St) : Prop :=
  @sOp (some 65) (xFld 3 (s.τ 7) s.H) s <| .mk fun s =>
  @sOp (some 66) (xLoad 1 false (s.τ 65) s.H) s <| .mk fun s =>
  @sIf (s.τ 66) ⟨W51_b15 P Φ s⟩ ⟨W51_k13 P Φ s⟩
def W51_c17 (P : Program) (Φ : Exit → St → Prop) (s : St) : Prop :=
  @sOp (some 64) (xIxA 5 1 (s.τ 8) (.int .i64 3) s.H) s <| .mk fun s =>
  @sOp none (xStore 1 (s.τ 64) (s.τ 63) s.H) s <| .mk fun s =>
  W51_k16 P Φ s
def W51_b18 (P : Program) (Φ : Exit → St → Prop) (s : St) : Prop :=
  @sOp (some 61) (xFld 3 (s.τ 4) s.H) s <| .mk fun s =>
  @sOp (some 62) (xLoad 1 false (s.τ 61) s.H) s <| .mk fun s =>
  @sCall P (.func 76 []) [(s.τ 62)] (some 63) s ⟨W51_c17 P Φ⟩
def W51_c19 (P : Program) (Φ : Exit → St → Prop) (u0 : St) (u1 : St) (u2 : St) (u3 : St) (u4 : St) (u5 : St) (u6 : St) (u7 : St) (u8 : St) (u9 : St) (u10 : St) (u11 : St) (u12 : St) (u13 : St) (u14 : St) (u15 : St) (u16 : St) (u18 : St) (u19 : St) (u21 : St) (u22 : St) (u23 : St) (s : St) : Prop :=
  @sOp (some 58) (xBuild [.bool false, .bool false, .bool false, .bool false, .bool false] [(0, 1, (s.τ 39)), (1, 1, (s.τ 45)), (2, 1, (s.τ 51)), (3, 1, (s.τ 54)), (4, 1, (s.τ 57))] s.H) s <| .mk fun u25 =>
  @sChk (compat (occ (u0.τ 3), []) ([8], [8])) <| .mk <|
  @sChk (compat (occ (u1.τ 7), []) ([8], [8])) <| .mk <|
  @sChk (compat (occ (u2.τ 35), []) ([8], [8])) <| .mk <|
  @sChk (compat (occ (u3.τ 4), []) ([8], [8])) <| .mk <|
  @sChk (compat (occ (u4.τ 37), []) ([8], [8])) <| .mk <|
  @sChk (compat ([39] ++ (occ (.func 74 []) ++ occL [(u5.τ 34), (u5.τ 36), (u5.τ 38)]), [39] ++ (occ (.func 74 []) ++ occL [(u5.τ 34), (u5.τ 36), (u5.τ 38)])) ([8], [8])) <| .mk <|
  @sChk (compat (occ (u6.τ 3), []) ([8], [8])) <| .mk <|
  @sChk (compat (occ (u7.τ 7), []) ([8], [8])) <| .mk <|
  @sChk (compat (occ (u8.τ 41), []) ([8], [8])) <| .mk <|
  @sChk (compat (occ (u9.τ 4), []) ([8], [8])) <| .mk <|
  @sChk (compat (occ (u10.τ 43), []) ([8], [8])) <| .mk <|
  @sChk (compat ([45] ++ (occ (.func 74 []) ++ occL [(u11.τ 40), (u11.τ 42), (u11.τ 44)]), [45] ++ (occ (.func 74 []) ++ occL [(u11.τ 40), (u11.τ 42), (u11.τ 44)])) ([8], [8])) <| .mk <|
  @sChk (compat (occ (u12.τ 4), []) ([8], [8])) <| .mk <|
  @sChk (compat (occ (u13.τ 46), []) ([8], [8])) <| .mk <|
  @sChk (compat (occ (u14.τ 47), []) ([8], [8])) <| .mk <|
  @sChk (compat (occ (u15.τ 7), []) ([8], [8])) <| .mk <|
  @sChk (compat (occ (u16.τ 49), []) ([8], [8])) <| .mk <|
  @sChk (compat (occ (u18.τ 4), []) ([8], [8])) <| .mk <|
  @sChk (compat (occ (u19.τ 52), []) ([8], [8])) <| .mk <|
  @sChk (compat (occ (u21.τ 4), []) ([8], [8])) <| .mk <|
  @sChk (compat (occ (u22.τ 55), []) ([8], [8])) <| .mk <|
  @sChk (compat ([57] ++ (occ (.func 75 []) ++ occL [(u23.τ 56)]), [57] ++ (occ (.func 75 []) ++ occL [(u23.τ 56)])) ([8], [8])) <| .mk <|
  @sOp (some 8) (xAlloc 8 118 [.bool false, .bool false, .bool false, .bool false, .bool false] u25.H) u25 <| .mk fun u26 =>
  @sOp none (xStore 5 (u26.τ 8) (u26.τ 58) u26.H) u26 <| .mk fun s =>
  @sOp (some 59) (xFld 2 (s.τ 7) s.H) s <| .mk fun s =>
  @sOp (some 60) (xLoad 1 false (s.τ 59) s.H) s <| .mk fun s =>
  @sIf (s.τ 60) ⟨W51_b18 P Φ s⟩ ⟨W51_k16 P Φ s⟩
def W51_c20 (P : Program) (Φ : Exit → St → Prop) (u0 : St) (u1 : St) (u2 : St) (u3 : St) (u4 : St) (u5 : St) (u6 : St) (u7 : St) (u8 : St) (u9 : St) (u10 : St) (u11 : St) (s : St) : Prop :=
  @sChk (compat ([39] ++ (occ (.func 74 []) ++ occL [(u5.τ 34), (u5.τ 36), (u5.τ 38)]), [39] ++ (occ (.func 74 []) ++ occL [(u5.τ 34), (u5.τ 36), (u5.τ 38)])) (occ (s.τ 4), [])) <| .mk <|
  @sChk (compat ([45] ++ (occ (.func 74 []) ++ occL [(u11.τ 40), (u11.τ 42), (u11.τ 44)]), [45] ++ (occ (.func 74 []) ++ occL [(u11.τ 40), (u11.τ 42), (u11.τ 44)])) (occ (s.τ 4), [])) <| .mk <|
  @sOp (some 46) (xFld 8 (s.τ 4) s.H) s <| .mk fun u13 =>
  @sChk (compat ([39] ++ (occ (.func 74 []) ++ occL [(u5.τ 34), (u5.τ 36), (u5.τ 38)]), [39] ++ (occ (.func 74 []) ++ occL [(u5.τ 34), (u5.τ 36), (u5.τ 38)])) (occ (u13.τ 46), [])) <| .mk <|
  @sChk (compat ([45] ++ (occ (.func 74 []) ++ occL [(u11.τ 40), (u11.τ 42), (u11.τ 44)]), [45] ++ (occ (.func 74 []) ++ occL [(u11.τ 40), (u11.τ 42), (u11.τ 44)])) (occ (u13.τ 46), [])) <| .mk <|
  @sOp (some 47) (xLoad 1 false (u13.τ 46) u13.H) u13 <| .mk fun u14 =>
  @sChk (compat ([39] ++ (occ (.func 74 []) ++ occL [(u5.τ 34), (u5.τ 36), (u5.τ 38)]), [39] ++ (occ (.func 74 []) ++ occL [(u5.τ 34), (u5.τ 36), (u5.τ 38)])) (occ (u14.τ 47), [])) <| .mk <|
  @sChk (compat ([45] ++ (occ (.func 74 []) ++ occL [(u11.τ 40), (u11.τ 42), (u11.τ 44)]), [45] ++ (occ (.func 74 []) ++ occL [(u11.τ 40), (u11.τ 42), (u11.τ 44)])) (occ (u14.τ 47), [])) <| .mk <|
  @sOp (some 48) (xLen (u14.τ 47) u14.H) u14 <| .mk fun u15 =>
  @sChk (compat ([39] ++ (occ (.func 74 []) ++ occL [(u5.τ 34), (u5.τ 36), (u5.τ 38)]), [39] ++ (occ (.func 74 []) ++ occL [(u5.τ 34), (u5.τ 36), (u5.τ 38)])) (occ (u15.τ 7), [])) <| .mk <|
  @sChk (compat ([45] ++ (occ (.func 74 []) ++ occL [(u11.τ 40), (u11.τ 42), (u11.τ 44)]), [45] ++ (occ (.func 74 []) ++ occL [(u11.τ 40), (u11.τ 42), (u11.τ 44)])) (occ (u15.τ 7), [])) <| .mk <|
  @sOp (some 49) (xFld 4 (u15.τ 7) u15.H) u15 <| .mk fun u16 =>
  @sChk (compat ([39] ++ (occ (.func 74 []) ++ occL [(u5.τ 34), (u5.τ 36), (u5.τ 38)]), [39] ++ (occ (.func 74 []) ++ occL [(u5.τ 34), (u5.τ 36), (u5.τ 38)])) (occ (u16.τ 49), [])) <| .mk <|
  @sChk (compat ([45] ++ (occ (.func 74 []) ++ occL [(u11.τ 40), (u11.τ 42), (u11.τ 44)]), [45] ++ (occ (.func 74 []) ++ occL [(u11.τ 40), (u11.τ 42), (u11.τ 44)])) (occ (u16.τ 49), [])) <| .mk <|
  @sOp (some 50) (xLoad 1 false (u16.τ 49) u16.H) u16 <| .mk fun u17 =>
  @sOp (some 51) (xBin .eql false (u17.τ 48) (u17.τ 50) u17.H) u17 <| .mk fun u18 =>
  @sChk (compat ([39] ++ (occ (.func 74 []) ++ occL [(u5.τ 34), (u5.τ 36), (u5.τ 38)]), [39] ++ (occ (.func 74 []) ++ occL [(u5.τ 34), (u5.τ 36), (u5.τ 38)])) (occ (u18.τ 4), [])) <| .mk <|
  @sChk (compat ([45] ++ (occ (.func 74 []) ++ occL [(u11.τ 40), (u11.τ 42), (u11.τ 44)]), [45] ++ (occ (.func 74 []) ++ occL [(u11.τ 40), (u11.τ 42), (u11.τ 44)])) (occ (u18.τ 4), [])) <| .mk <|
  @sOp (some 52) (xFld 3 (u18.τ 4) u18.H) u18 <| .mk fun u19 =>
  @sChk (compat ([39] ++ (occ (.func 74 []) ++ occL [(u5.τ 34), (u5.τ 36), (u5.τ 38)]), [39] ++ (occ (.func 74 []) ++ occL [(u5.τ 34), (u5.τ 36), (u5.τ 38)])) (occ (u19.τ 52), [])) <| .mk <|
  @sChk (compat ([45] ++ (occ (.func 74 []) ++ occL [(u11.τ 40), (u11.τ 42), (u11.τ 44)]), [45] ++ (occ (.func 74 []) ++ occL [(u11.τ 40), (u11.τ 42), (u11.τ 44)])) (occ (u19.τ 52), [])) <| .mk <|
  @sOp (some 53) (xLoad 1 false (u19.τ 52) u19.H) u19 <| .mk fun u20 =>
  @sOp (some 54) (xBin .eql false (u20.τ 53) (.str ⟨#[]⟩) u20.H) u20 <| .mk fun u21 =>
  @sChk (compat ([39] ++ (occ (.func 74 []) ++ occL [(u5.τ 34), (u5.τ 36), (u5.τ 38)]), [39] ++ (occ (.func 74 []) ++ occL [(u5.τ 34), (u5.τ 36), (u5.τ 38)])) (occ (u21.τ 4), [])) <| .mk <|
  @sChk (compat ([45] ++ (occ (.func 74 []) ++ occL [(u11.τ 40), (u11.τ 42), (u11.τ 44)]), [45] ++ (occ (.func 74 []) ++ occL [(u11.τ 40), (u11.τ 42), (u11.τ 44)])) (occ (u21.τ 4), [])) <| .mk <|
  @sOp (some 55) (xFld 4 (u21.τ 4) u21.H) u21 <| .mk fun u22 =>
  @sChk (compat ([39] ++ (occ (.func 74 []) ++ occL [(u5.τ 34), (u5.τ 36), (u5.τ 38)]), [39] ++ (occ (.func 74 []) ++ occL [(u5.τ 34), (u5.τ 36), (u5.τ 38)])) (occ (u22.τ 55), [])) <| .mk <|
  @sChk (compat ([45] ++ (occ (.func 74 []) ++ occL [(u11.τ 40), (u11.τ 42), (u11.τ 44)]), [45] ++ (occ (.func 74 []) ++ occL [(u11.τ 40), (u11.τ 42), (u11.τ 44)])) (occ (u22.τ 55), [])) <| .mk <|
  @sOp (some 56) (xLoad 4 true (u22.τ 55) u22.H) u22 <| .mk fun u23 =>
  @sChk (compat (occ (s.τ 4), []) ([57] ++ (occ (.func 75 []) ++ occL [(u23.τ 56)]), [57] ++ (occ (.func 75 []) ++ occL [(u23.τ 56)]))) <| .mk <|
  @sChk (compat (occ (u13.τ 46), []) ([57] ++ (occ (.func 75 []) ++ occL [(u23.τ 56)]), [57] ++ (occ (.func 75 []) ++ occL [(u23.τ 56)]))) <| .mk <|
  @sChk (compat (occ (u14.τ 47), []) ([57] ++ (occ (.func 75 []) ++ occL [(u23.τ 56)]), [57] ++ (occ (.func 75 []) ++ occL [(u23.τ 56)]))) <| .mk <|
  @sChk (compat (occ (u15.τ 7), []) ([57] ++ (occ (.func 75 []) ++ occL [(u23.τ 56)]), [57] ++ (occ (.func 75 []) ++ occL [(u23.τ 56)]))) <| .mk <|
  @sChk (compat (occ (u16.τ 49), []) ([57] ++ (occ (.func 75 []) ++ occL [(u23.τ 56)]), [57] ++ (occ (.func 75 []) ++ occL [(u23.τ 56)]))) <| .mk <|
  @sChk (compat (occ (u18.τ 4), []) ([57] ++ (occ (.func 75 []) ++ occL [(u23.τ 56)]), [57] ++ (occ (.func 75 []) ++ occL [(u23.τ 56)]))) <| .mk <|
  @sChk (compat (occ (u19.τ 52), []) ([57] ++ (occ (.func 75 []) ++ occL [(u23.τ 56)]), [57] ++ (occ (.func 75 []) ++ occL [(u23.τ 56)]))) <| .mk <|
  @sCall0 P (.func 75 []) [(u23.τ 56)] (some 57) u23 ⟨W51_c19 P Φ u0 u1 u2 u3 u4 u5 u6 u7 u8 u9 u10 u11 s u13 u14 u15 u16 u18 u19 u21 u22 u23⟩
def W51_c21 (P : Program) (Φ : Exit → St → Prop) (u0 : St) (u1 : St) (u2 : St) (u3 : St) (u4 : St) (u5 : St) (s : St) : Prop :=
  @sChk (compat ([39] ++ (occ (.func 74 []) ++ occL [(u5.τ 34), (u5.τ 36), (u5.τ 38)]), [39] ++ (occ (.func 74 []) ++ occL [(u5.τ 34), (u5.τ 36), (u5.τ 38)])) (occ (s.τ 3), [])) <| .mk <|
  @sOp (some 40) (xLoad 3 true (s.τ 3) s.H) s <| .mk fun u7 =>
  @sChk (compat ([39] ++ (occ (.func 74 []) ++ occL [(u5.τ 34), (u5.τ 36), (u5.τ 38)]), [39] ++ (occ (.func 74 []) ++ occL [(u5.τ 34), (u5.τ 36), (u5.τ 38)])) (occ (u7.τ 7), [])) <| .mk <|
  @sOp (some 41) (xFld 1 (u7.τ 7) u7.H) u7 <| .mk fun u8 =>
  @sChk (compat ([39] ++ (occ (.func 74 []) ++ occL [(u5.τ 34), (u5.τ 36), (u5.τ 38)]), [39] ++ (occ (.func 74 []) ++ occL [(u5.τ 34), (u5.τ 36), (u5.τ 38)])) (occ (u8.τ 41), [])) <| .mk <|
  @sOp (some 42) (xLoad 1 false (u8.τ 41) u8.H) u8 <| .mk fun u9 =>
  @sChk (compat ([39] ++ (occ (.func 74 []) ++ occL [(u5.τ 34), (u5.τ 36), (u5.τ 38)]), [39] ++ (occ (.func 74 []) ++ occL [(u5.τ 34), (u5.τ 36), (u5.τ 38)])) (occ (u9.τ 4), [])) <| .mk <|
  @sOp (some 43) (xFld 2 (u9.τ 4) u9.H) u9 <| .mk fun u10 =>
  @sChk (compat ([39] ++ (occ (.func 74 []) ++ occL [(u5.τ 34), (u5.τ 36), (u5.τ 38)]), [39] ++ (occ (.func 74 []) ++ occL [(u5.τ 34), (u5.τ 36), (u5.τ 38)])) (occ (u10.τ 43), [])) <| .mk <|
  @sOp (some 44) (xLoad 1 false (u10.τ 43) u10.H) u10 <| .mk fun u11 =>
  @sCall0 P (.func 74 []) [(u11.τ 40), (u11.τ 42), (u11.τ 44)] (some 45) u11 ⟨W51_c20 P Φ u0 u1 u2 u3 u4 u5 s u7 u8 u9 u10 u11⟩
def W51_c22 (P : Program) (Φ : Exit → St → Prop) (u0 : St) (s : St) : Prop :=
  @sChk (compat ([29] ++ (occ (.func 73 []) ++ occL []), [29] ++ (occ (.func 73 []) ++ occL [])) (occ (s.τ 4), [])) <| .mk <|
  @sOp (some 30) (xFld 0 (s.τ 4) s.H) s <| .mk fun u2 =>
  @sChk (compat ([29] ++ (occ (.func 73 []) ++ occL []), [29] ++ (occ (.func 73 []) ++ occL [])) (occ (u2.τ 30), [])) <| .mk <|
  @sOp (some 31) (xLoad 1 false (u2.τ 30) u2.H) u2 <| .mk fun u3 =>
  @sOp (some 32) (xIx 5 (u3.τ 29) (u3.τ 31) u3.H) u3 <| .mk fun u4 =>
  @sOp (some 33) (xLoad 5 true (u4.τ 32) u4.H) u4 <| .mk fun u5 =>
  @sChk (compat ([29] ++ (occ (.func 73 []) ++ occL []), [29] ++ (occ (.func 73 []) ++ occL [])) ([7], [7])) <| .mk <|
  @sChk (compat (occ (s.τ 4), []) ([7], [7])) <| .mk <|
  @sChk (compat (occ (u2.τ 30), []) ([7], [7])) <| .mk <|
  @sChk (compat (occ (u3.τ 29), []) ([7], [7])) <| .mk <|
  @sChk (compat (occ (u4.τ 32), []) ([7], [7])) <| .mk <|
  @sOp (some 7) (xAlloc 7 115 [.int .i64 0, .int .i64 0, .bool false, .bool false, .int .i64 0] u5.H) u5 <| .mk fun u6 =>
  @sOp none (xStore 5 (u6.τ 7) (u6.τ 33) u6.H) u6 <| .mk fun s =>
  @sOp (some 34) (xLoad 3 true (s.τ 3) s.H) s <| .mk fun u1 =>
  @sOp (some 35) (xFld 0 (u1.τ 7) u1.H) u1 <| .mk fun u2 =>
  @sOp (some 36) (xLoad 1 false (u2.τ 35) u2.H) u2 <| .mk fun u3 =>
  @sOp (some 37) (xFld 1 (u3.τ 4) u3.H) u3 <| .mk fun u4 =>
  @sOp (some 38) (xLoad 1 false (u4.τ 37) u4.H) u4 <| .mk fun u5 =>
  @sCall0 P (.func 74 []) [(u5.τ 34), (u5.τ 36), (u5.τ 38)] (some 39) u5 ⟨W51_c21 P Φ s u1 u2 u3 u4 u5⟩
def W51_c23 (P : Program) (Φ : Exit → St → Prop) (s : St) : Prop :=
  @sOp (some 28) (xPick (s.τ 21) (.bool true) (s.τ 27) s.H) s <| .mk fun s =>
  @sIf (s.τ 28) ⟨W51_b1 P Φ s⟩ ⟨@sCall0 P (.func 73 []) [] (some 29) s ⟨W51_c22 P Φ s⟩⟩
def W51_c24 (P : Program) (Φ : Exit → St → Prop) (s : St) : Prop :=
  @sGrd (guardOf (s.τ 21) false) (some 27) s ⟨fun s K => @sOp (some 27) (xPick (s.τ 23) (s.τ 26) (.bool false) s.H) s ⟨K⟩⟩ ⟨W51_c23 P Φ⟩
def W51_c25 (P : Program) (Φ : Exit → St → Prop) (s : St) : Prop :=
  @sGrd (guardOf (s.τ 23) true) (some 26) s ⟨fun s K => @sOp (some 26) (xBin .eql false (s.τ 25) (.int .i64 14) s.H) s ⟨K⟩⟩ ⟨W51_c24 P Φ⟩
def W51_c26 (P : Program) (Φ : Exit → St → Prop) (s : St) : Prop :=
  @sGrd (guardOf (s.τ 23) true) (some 25) s ⟨fun s K => @sOp (some 25) (xLoad 1 false (s.τ 24) s.H) s ⟨K⟩⟩ ⟨W51_c25 P Φ⟩
def W51_c27 (P : Program) (Φ : Exit → St → Prop) (s : St) : Prop :=
  @sGrd (guardOf (s.τ 23) true) (some 24) s ⟨fun s K => @sOp (some 24) (xFld 0 (s.τ 4) s.H) s ⟨K⟩⟩ ⟨W51_c26 P Φ⟩
def W51_c28 (P : Program) (Φ : Exit → St → Prop) (s : St) : Prop :=
  @sGrd (guardOf (s.τ 21) false) (some 23) s ⟨fun s K => @sOp (some 23) (xMov (s.τ 22) s.H) s ⟨K⟩⟩ ⟨W51_c27 P Φ⟩
def W51_c29 (P : Program) (Φ : Exit → St → Prop) (s : St) : Prop :=
  @sOp (some 20) (xPick (s.τ 14) (.bool true) (s.τ 19) s.H) s <| .mk fun u10 =>
  @sOp (some 21) (xMov (u10.τ 20) u10.H) u10 <| .mk fun u11 =>
  @sGrd (guardOf (u11.τ 21) false) (some 22) u11 ⟨fun s K => @sOp (some 22) (xMov (s.τ 2) s.H) s ⟨K⟩⟩ ⟨W51_c28 P Φ⟩
def W51_c30 (P : Program) (Φ : Exit → St → Prop) (s : St) : Prop :=
  @sGrd (guardOf (s.τ 14) false) (some 19) s ⟨fun s K => @sOp (some 19) (xBin .geq false (s.τ 16) (s.τ 18) s.H) s ⟨K⟩⟩ ⟨W51_c29 P Φ⟩
def W51_c31 (P : Program) (Φ : Exit → St → Prop) (s : St) : Prop :=
  @sGrd (guardOf (s.τ 14) false) (some 18) s ⟨fun s K => @sOp (some 18) (xLen (s.τ 17) s.H) s ⟨K⟩⟩ ⟨W51_c30 P Φ⟩
def W51_c32 (P : Program) (Φ : Exit → St → Prop) (u4 : St) (u5 : St) (s : St) : Prop :=
  @sChk (compat (occ (u4.τ 4), []) ([17] ++ (occ (.func 73 []) ++ occL []), [17] ++ (occ (.func 73 []) ++ occL []))) <| .mk <|
  @sChk (compat (occ (u5.τ 15), []) ([17] ++ (occ (.func 73 []) ++ occL []), [17] ++ (occ (.func 73 []) ++ occL []))) <| .mk <|
  @sGrd (guardOf (s.τ 14) false) (some 17) s ⟨fun s K => @sCall0 P (.func 73 []) [] (some 17) s ⟨K⟩⟩ ⟨W51_c31 P Φ⟩
def W51_c33 (P : Program) (Φ : Exit → St → Prop) (u4 : St) (s : St) : Prop :=
  @sGrd (guardOf (s.τ 14) false) (some 16) s ⟨fun s K => @sOp (some 16) (xLoad 1 false (s.τ 15) s.H) s ⟨K⟩⟩ ⟨W51_c32 P Φ u4 s⟩
def W51 (P : Program) (Φ : Exit → St → Prop) (s : St) : Prop :=
  @sOp (some 3) (xBox 3 87 (s.τ 0) s.H) s <| .mk fun s =>
  @sOp (some 4) (xBox 4 34 (s.τ 1) s.H) s <| .mk fun s =>
  @sOp (some 6) (xMov (.bool false) s.H) s <| .mk fun s =>
  @sOp (some 11) (xFld 0 (s.τ 4) s.H) s <| .mk fun u1 =>
  @sOp (some 12) (xLoad 1 false (u1.τ 11) u1.H) u1 <| .mk fun u2 =>
  @sOp (some 13) (xBin .lss false (u2.τ 12) (.int .i64 0) u2.H) u2 <| .mk fun u3 =>
  @sOp (some 14) (xMov (u3.τ 13) u3.H) u3 <| .mk fun u4 =>
  @sGrd (guardOf (u4.τ 14) false) (some 15) u4 ⟨fun s K => @sOp (some 15) (xFld 0 (s.τ 4) s.H) s ⟨K⟩⟩ ⟨W51_c33 P Φ u4⟩
theorem W51_rs (τ : Nat → AV) (H : Heap) : resV Try.prog τ H [.tmp 6] = some (τ 6) := by kernel_rfl
theorem W51_eq (Φ : Exit → St → Prop) (s : St) : awp Try.prog (Try.f51.body.getD .skip) Φ s = W51 Try.prog Φ s := by kernel_rfl

-- 52 "penance/penanceref5.of"
def W52_b1 (P : Program) (Φ : Exit → St → Prop) (s : St) : Prop :=
  @sOp (some 6) (xBuild [.bool false, .bool false, .bool false, .bool false, .int .i64 0] [(0, 1, (.bool true)), (2, 1, (.bool true))] s.H) s <| .mk fun s =>
  @sOp none (xStore 5 (s.τ 2) (s.τ 6) s.H) s <| .mk fun s =>
  Φ .ret s
def W52_b2 (P : Program) (Φ : Exit → St → Prop) (s : St) : Prop :=
  @sOp (some 9) (xBuild [.bool false, .bool false, .bool false, .bool false, .int .i64 0] [(0, 1, (.bool true)), (3, 1, (.bool true))] s.H) s <| .mk fun s =>
  @sOp none (xStore 5 (s.τ 2) (s.τ 9) s.H) s <| .mk fun s =>
  Φ .ret s
def W52_b3 (P : Program) (Φ : Exit → St → Prop) (s : St) : Prop :=
  @sOp (some 12) (xBuild [.bool false, .bool false, .bool false, .bool false, .int .i64 0] [(0, 1, (.bool true)), (4, 1, (.int .i64 1))] s.H) s <| .mk fun s =>
  @sOp none (xStore 5 (s.τ 2) (s.τ 12) s.H) s <| .mk fun s =>
  Φ .ret s
def W52_b4 (P : Program) (Φ : Exit → St → Prop) (s : St) : Prop :=
  @sOp (some 17) (xBuild [.bool false, .bool false, .bool false, .bool false, .int .i64 0] [(0, 1, (.bool true))] s.H) s <| .mk fun s =>
  @sOp none (xStore 5 (s.τ 2) (s.τ 17) s.H) s <| .mk fun s =>
  Φ .ret s
def W52_b5 (P : Program) (Φ : Exit → St → Prop) (s : St) : Prop :=
  @sOp (some 20) (xBuild [.bool false, .bool false, .bool false, .bool false, .int .i64 0] [(0, 1, (.bool true)), (1, 1, (.bool true))] s.H) s <| .mk fun s =>
  @sOp none (xStore 5 (s.τ 2) (s.τ 20) s.H) s <| .mk fun s =>
  Φ .ret s
def W52_b6 (P : Program) (Φ : Exit → St → Prop) (s : St) : Prop :=
  @sOp (some 23) (xBuild [.bool false, .bool false, .bool false, .bool false, .int .i64 0] [(4, 1, (.int .i64 1))] s.H) s <| .mk fun s =>
  @sOp none (xStore 5 (s.τ 2) (s.τ 23) s.H) s <| .mk fun s =>
  Φ .ret s
def W52_b7 (P : Program) (Φ : Exit → St → Prop) (s : St) : Prop :=
  @sOp (some 26) (xBuild [.bool false, .bool false, .bool false, .bool false, .int .i64 0] [(3, 1, (.bool true)), (4, 1, (.int .i64 2))] s.H) s <| .mk fun s =>
  @sOp none (xStore 5 (s.τ 2) (s.τ 26) s.H) s <| .mk fun s =>
  Φ .ret s
def W52_b8 (P : Program) (Φ : Exit → St → Prop) (s : St) : Prop :=
  @sOp (some 31) (xBuild [.bool false, .bool false, .bool false, .bool false, .int .i64 0] [(4, 1, (.int .i64 2))] s.H) s <| .mk fun s =>
  @sOp none (xStore 5 (s.τ 2) (s.τ 31) s.H) s <| .mk fun s =>
  Φ .ret s
def W52_b9 (P : Program) (Φ : Exit → St → Prop) (s : St) : Prop :=
  @sOp (some 34) (xBuild [.bool false, .bool false, .bool false, .bool false, .int .i64 0] [(0, 1, (.bool true)), (1, 1, (.bool true)), (2, 1, (.bool true))] s.H) s <| .mk fun s =>
  @sOp none (xStore 5 (s.τ 2) (s.τ 34) s.H) s <| .mk fun s =>
  Φ .ret s
def W52_b10 (P : Program) (Φ : Exit → St → Prop) (s : St) : Prop :=
  @sOp (some 35) (xBuild [.bool false, .bool false, .bool false, .bool false, .int .i64 0] [] s.H) s <| .mk fun s =>
  @sOp none (xStore 5 (s.τ 2) (s.τ 35) s.H) s <| .mk fun s =>
  Φ .ret s
def W52_b11 (P : Program) (Φ : Exit → St → Prop) (s : St) : Prop :=
  @sOp (some 33) (xBin .eql false (s.τ 3) (.int .i64 14) s.H) s <| .mk fun s =>
  @sOp (some 32) (xMov (s.τ 33) s.H) s <| .mk fun s =>
  @sIf (s.τ 32) ⟨W52_b9 P Φ s⟩ ⟨W52_b10 P Φ s⟩
def W52_k12 (P : Program) (Φ : Exit → St → Prop) (s : St) : Prop :=
  @sIf (s.τ 27) ⟨W52_b8 P Φ s⟩ ⟨W52_b11 P Φ s⟩
def W52_b13 (P : Program) (Φ : Exit → St → Prop) (s : St) : Prop :=
  @sOp (some 30) (xBin .eql false (s.τ 3) (.int .i64 12) s.H) s <| .mk fun s =>
  @sOp (some 27) (xMov (s.τ 30) s.H) s <| .mk fun s =>
  W52_k12 P Φ s
def W52_b14 (P : Program) (Φ : Exit → St → Prop) (s : St) : Prop :=
  @sOp (some 29) (xBin .eql false (s.τ 3) (.int .i64 11) s.H) s <| .mk fun s =>
  @sOp (some 27) (xMov (s.τ 29) s.H) s <| .mk fun s =>
  @sIf (s.τ 27) ⟨W52_k12 P Φ s⟩ ⟨W52_b13 P Φ s⟩
def W52_b15 (P : Program) (Φ : Exit → St → Prop) (s : St) : Prop :=
  @sOp (some 28) (xBin .eql false (s.τ 3) (.int .i64 10) s.H) s <| .mk fun s =>
  @sOp (some 27) (xMov (s.τ 28) s.H) s <| .mk fun s =>
  @sIf (s.τ 27) ⟨W52_k12 P Φ s⟩ ⟨W52_b14 P Φ s⟩
def W52_b16 (P : Program) (Φ : Exit → St → Prop) (s : St) : Prop :=
  @sOp (some 25) (xBin .eql false (s.τ 3) (.int .i64 9) s.H) s <| .mk fun s =>
  @sOp (some 24) (xMov (s.τ 25) s.H) s <| .mk fun s =>
  @sIf (s.τ 24) ⟨W52_b7 P Φ s⟩ ⟨W52_b15 P Φ s⟩
def W52_b17 (P : Program) (Φ : Exit → St → Prop) (s : St) : Prop :=
  @sOp (some 22) (xBin .eql false (s.τ 3) (.int .i64 7) s.H) s <| .mk fun s =>
  @sOp (some 21) (xMov (s.τ 22) s.H) s <| .mk fun s =>
  @sIf (s.τ 21) ⟨W52_b6 P Φ s⟩ ⟨W52_b16 P Φ s⟩
def W52_b18 (P : Program) (Φ : Exit → St → Prop) (s : St) : Prop :=
  @sOp (some 19) (xBin .eql false (s.τ 3) (.int .i64 6) s.H) s <| .mk fun s =>
  @sOp (some 18) (xMov (s.τ 19) s.H) s <| .mk fun s =>
  @sIf (s.τ 18) ⟨W52_b5 P Φ s⟩ ⟨W52_b17 P Φ s⟩
def W52_k19 (P : Program) (Φ : Exit → St → Prop) (s : St) : Prop :=
  @sIf (s.τ 13) ⟨W52_b4 P Φ s⟩ ⟨W52_b18 P Φ s⟩
def W52_b20 (P : Program) (Φ : Exit → St → Prop) (s : St) : Prop :=
  @sOp (some 16) (xBin .eql false (s.τ 3) (.int .i64 13) s.H) s <| .mk fun s =>
  @sOp (some 13) (xMov (s.τ 16) s.H) s <| .mk fun s =>
  W52_k19 P Φ s
def W52_b21 (P : Program) (Φ : Exit → St → Prop) (s : St) : Prop :=
  @sOp (some 15) (xBin .eql false (s.τ 3) (.int .i64 5) s.H) s <| .mk fun s =>
  @sOp (some 13) (xMov (s.τ 15) s.H) s <| .mk fun s =>
  @sIf (s.τ 13) ⟨W52_k19 P Φ s⟩ ⟨W52_b20 P Φ s⟩
def W52_b22 (P : Program) (Φ : Exit → St → Prop) (s : St) : Prop :=
  @sOp (some 14) (xBin .eql false (s.τ 3) (.int .i64 4) s.H) s <| .mk fun s =>
  @sOp (some 13) (xMov (s.τ 14) s.H) s <| .mk fun s =>
  @sIf (s.τ 13) ⟨W52_k19 P Φ s⟩ ⟨W52_b21 P Φ s⟩
def W52_b23 (P : Program) (Φ : Exit → St → Prop) (s : St) : Prop :=
  @sOp (some 11) (xBin .eql false (s.τ 3) (.int .i64 3) s.H) s <| .mk fun s =>
  @sOp (some 10) (xMov (s.τ 11) s.H) s <| .mk fun s =>
  @sIf (s.τ 10) ⟨W52_b3 P Φ s⟩ ⟨W52_b22 P Φ s⟩
def W52_b24 (P : Program) (Φ : Exit → St → Prop) (s : St) : Prop :=
  @sOp (some 8) (xBin .eql false (s.τ 3) (.int .i64 2) s.H) s <| .mk fun s =>
  @sOp (some 7) (xMov (s.τ 8) s.H) s <| .mk fun s =>
  @sIf (s.τ 7) ⟨W52_b2 P Φ s⟩ ⟨W52_b23 P Φ s⟩
def W52 (P : Program) (Φ : Exit → St → Prop) (s : St) : Prop :=
  @sOp (some 2) (xAlloc 2 90 [.bool false, .bool false, .bool false, .bool false, .int .i64 0] s.H) s <| .mk fun s =>
  @sOp (some 3) (xMov (s.τ 0) s.H) s <| .mk fun s =>
  @sOp (some 5) (xBin .eql false (s.τ 3) (.int .i64 1) s.H) s <| .mk fun s =>
  @sOp (some 4) (xMov (s.τ 5) s.H) s <| .mk fun s =>
  @sIf (s.τ 4) ⟨W52_b1 P Φ s⟩ ⟨W52_b24 P Φ s⟩
theorem W52_rs (τ : Nat → AV) (H : Heap) : resV Try.prog τ H [.cell 2 90] = rdV H 5 true (τ 2) := by kernel_rfl
theorem W52_eq (Φ : Exit → St → Prop) (s : St) : awp Try.prog (Try.f52.body.getD .skip) Φ s = W52 Try.prog Φ s := by kernel_rfl

-- 53 "penance/penanceref5.numbers"
def W53_c1 (P : Program) (Φ : Exit → St → Prop) (s : St) : Prop :=
  @sOp (some 8) (xMov (s.τ 16) s.H) s <| .mk fun s =>
  Φ .ret s
def W53_b2 (P : Program) (Φ : Exit → St → Prop) (s : St) : Prop :=
  @sOp (some 13) (xFld 1 (s.τ 4) s.H) s <| .mk fun s =>
  @sOp (some 14) (xLoad 1 false (s.τ 13) s.H) s <| .mk fun s =>
  @sOp (some 15) (xMov (s.τ 1) s.H) s <| .mk fun s =>
  @sCall P (.func 78 []) [(s.τ 14), (.int .i64 (-1)), (s.τ 15)] (some 16) s ⟨W53_c1 P Φ⟩
def W53_c3 (P : Program) (Φ : Exit → St → Prop) (s : St) : Prop :=
  @sOp (some 8) (xMov (s.τ 22) s.H) s <| .mk fun s =>
  Φ .ret s
def W53_b4 (P : Program) (Φ : Exit → St → Prop) (s : St) : Prop :=
  @sOp (some 19) (xFld 1 (s.τ 4) s.H) s <| .mk fun s =>
  @sOp (some 20) (xLoad 1 false (s.τ 19) s.H) s <| .mk fun s =>
  @sOp (some 21) (xMov (s.τ 1) s.H) s <| .mk fun s =>
  @sCall P (.func 78 []) [(s.τ 20), (.int .i64 0), (s.τ 21)] (some 22) s ⟨W53_c3 P Φ⟩
def W53_c5 (P : Program) (Φ : Exit → St → Prop) (s : St) : Prop :=
  @sOp (some 8) (xMov (s.τ 30) s.H) s <| .mk fun s =>
  Φ .ret s
def W53_b6 (P : Program) (Φ : Exit → St → Prop) (s : St) : Prop :=
  @sOp (some 27) (xFld 1 (s.τ 4) s.H) s <| .mk fun s =>
  @sOp (some 28) (xLoad 1 false (s.τ 27) s.H) s <| .mk fun s =>
  @sOp (some 29) (xMov (s.τ 2) s.H) s <| .mk fun s =>
  @sCall P (.func 78 []) [(s.τ 28), (.int .i64 0), (s.τ 29)] (some 30) s ⟨W53_c5 P Φ⟩
def W53_c7 (P : Program) (Φ : Exit → St → Prop) (s : St) : Prop :=
  @sOp (some 42) (xPick (s.τ 37) (s.τ 41) (.bool false) s.H) s <| .mk fun s =>
  @sOp (some 8) (xMov (s.τ 42) s.H) s <| .mk fun s =>
  Φ .ret s
def W53_c8 (P : Program) (Φ : Exit → St → Prop) (s : St) : Prop :=
  @sGrd (guardOf (s.τ 37) true) (some 41) s ⟨fun s K => @sCall P (.func 78 []) [(s.τ 39), (.int .i64 0), (s.τ 40)] (some 41) s ⟨K⟩⟩ ⟨W53_c7 P Φ⟩
def W53_c9 (P : Program) (Φ : Exit → St → Prop) (s : St) : Prop :=
  @sGrd (guardOf (s.τ 37) true) (some 40) s ⟨fun s K => @sOp (some 40) (xMov (s.τ 2) s.H) s ⟨K⟩⟩ ⟨W53_c8 P Φ⟩
def W53_c10 (P : Program) (Φ : Exit → St → Prop) (s : St) : Prop :=
  @sGrd (guardOf (s.τ 37) true) (some 39) s ⟨fun s K => @sOp (some 39) (xLoad 1 false (s.τ 38) s.H) s ⟨K⟩⟩ ⟨W53_c9 P Φ⟩
def W53_c11 (P : Program) (Φ : Exit → St → Prop) (s : St) : Prop :=
  @sOp (some 37) (xMov (s.τ 36) s.H) s <| .mk fun s =>
  @sGrd (guardOf (s.τ 37) true) (some 38) s ⟨fun s K => @sOp (some 38) (xFld 2 (s.τ 4) s.H) s ⟨K⟩⟩ ⟨W53_c10 P Φ⟩
def W53_b12 (P : Program) (Φ : Exit → St → Prop) (s : St) : Prop :=
  @sOp (some 33) (xFld 1 (s.τ 4) s.H) s <| .mk fun s =>
  @sOp (some 34) (xLoad 1 false (s.τ 33) s.H) s <| .mk fun s =>
  @sOp (some 35) (xMov (s.τ 2) s.H) s <| .mk fun s =>
  @sCall P (.func 78 []) [(s.τ 34), (.int .i64 0), (s.τ 35)] (some 36) s ⟨W53_c11 P Φ⟩
def W53_c13 (P : Program) (Φ : Exit → St → Prop) (s : St) : Prop :=
  @sOp (some 8) (xMov (s.τ 48) s.H) s <| .mk fun s =>
  Φ .ret s
def W53_b14 (P : Program) (Φ : Exit → St → Prop) (s : St) : Prop :=
  @sOp (some 45) (xFld 1 (s.τ 4) s.H) s <| .mk fun s =>
  @sOp (some 46) (xLoad 1 false (s.τ 45) s.H) s <| .mk fun s =>
  @sOp (some 47) (xMov (s.τ 3) s.H) s <| .mk fun s =>
  @sCall P (.func 78 []) [(s.τ 46), (.int .i64 0), (s.τ 47)] (some 48) s ⟨W53_c13 P Φ⟩
def W53_c15 (P : Program) (Φ : Exit → St → Prop) (s : St) : Prop :=
  @sOp (some 59) (xPick (s.τ 54) (s.τ 58) (.bool false) s.H) s <| .mk fun s =>
  @sOp (some 8) (xMov (s.τ 59) s.H) s <| .mk fun s =>
  Φ .ret s
def W53_c16 (P : Program) (Φ : Exit → St → Prop) (s : St) : Prop :=
  @sGrd (guardOf (s.τ 54) true) (some 58) s ⟨fun s K => @sCall P (.func 78 []) [(s.τ 56), (.int .i64 (-1)), (s.τ 57)] (some 58) s ⟨K⟩⟩ ⟨W53_c15 P Φ⟩
def W53_c17 (P : Program) (Φ : Exit → St → Prop) (s : St) : Prop :=
  @sGrd (guardOf (s.τ 54) true) (some 57) s ⟨fun s K => @sOp (some 57) (xMov (s.τ 1) s.H) s ⟨K⟩⟩ ⟨W53_c16 P Φ⟩
def W53_c18 (P : Program) (Φ : Exit → St → Prop) (s : St) : Prop :=
  @sGrd (guardOf (s.τ 54) true) (some 56) s ⟨fun s K => @sOp (some 56) (xLoad 1 false (s.τ 55) s.H) s ⟨K⟩⟩ ⟨W53_c17 P Φ⟩
def W53_b19 (P : Program) (Φ : Exit → St → Prop) (s : St) : Prop :=
  @sOp (some 51) (xFld 1 (s.τ 4) s.H) s <| .mk fun s =>
  @sOp (some 52) (xLoad 1 false (s.τ 51) s.H) s <| .mk fun s =>
  @sOp (some 53) (xBin .geq false (s.τ 52) (.int .i64 0) s.H) s <| .mk fun s =>
  @sOp (some 54) (xMov (s.τ 53) s.H) s <| .mk fun s =>
  @sGrd (guardOf (s.τ 54) true) (some 55) s ⟨fun s K => @sOp (some 55) (xFld 2 (s.τ 4) s.H) s ⟨K⟩⟩ ⟨W53_c18 P Φ⟩
def W53_b20 (P : Program) (Φ : Exit → St → Prop) (s : St) : Prop :=
  @sOp (some 8) (xMov (.bool true) s.H) s <| .mk fun s =>
  Φ .ret s
def W53_b21 (P : Program) (Φ : Exit → St → Prop) (s : St) : Prop :=
  @sOp (some 50) (xBin .eql false (s.τ 10) (.int .i64 14) s.H) s <| .mk fun s =>
  @sOp (some 49) (xMov (s.τ 50) s.H) s <| .mk fun s =>
  @sIf (s.τ 49) ⟨W53_b19 P Φ s⟩ ⟨W53_b20 P Φ s⟩
def W53_b22 (P : Program) (Φ : Exit → St → Prop) (s : St) : Prop :=
  @sOp (some 44) (xBin .eql false (s.τ 10) (.int .i64 13) s.H) s <| .mk fun s =>
  @sOp (some 43) (xMov (s.τ 44) s.H) s <| .mk fun s =>
  @sIf (s.τ 43) ⟨W53_b14 P Φ s⟩ ⟨W53_b21 P Φ s⟩
def W53_b23 (P : Program) (Φ : Exit → St → Prop) (s : St) : Prop :=
  @sOp (some 32) (xBin .eql false (s.τ 10) (.int .i64 6) s.H) s <| .mk fun s =>
  @sOp (some 31) (xMov (s.τ 32) s.H) s <| .mk fun s =>
  @sIf (s.τ 31) ⟨W53_b12 P Φ s⟩ ⟨W53_b22 P Φ s⟩
def W53_k24 (P : Program) (Φ : Exit → St → Prop) (s : St) : Prop :=
  @sIf (s.τ 23) ⟨W53_b6 P Φ s⟩ ⟨W53_b23 P Φ s⟩
def W53_b25 (P : Program) (Φ : Exit → St → Prop) (s : St) : Prop :=
  @sOp (some 26) (xBin .eql false (s.τ 10) (.int .i64 5) s.H) s <| .mk fun s =>
  @sOp (some 23) (xMov (s.τ 26) s.H) s <| .mk fun s =>
  W53_k24 P Φ s
def W53_b26 (P : Program) (Φ : Exit → St → Prop) (s : St) : Prop :=
  @sOp (some 25) (xBin .eql false (s.τ 10) (.int .i64 4) s.H) s <| .mk fun s =>
  @sOp (some 23) (xMov (s.τ 25) s.H) s <| .mk fun s =>
  @sIf (s.τ 23) ⟨W53_k24 P Φ s⟩ ⟨W53_b25 P Φ s⟩
def W53_b27 (P : Program) (Φ : Exit → St → Prop) (s : St) : Prop :=
  @sOp (some 24) (xBin .eql false (s.τ 10) (.int .i64 3) s.H) s <| .mk fun s =>
  @sOp (some 23) (xMov (s.τ 24) s.H) s <| .mk fun s =>
  @sIf (s.τ 23) ⟨W53_k24 P Φ s⟩ ⟨W53_b26 P Φ s⟩
def W53_b28 (P : Program) (Φ : Exit → St → Prop) (s : St) : Prop :=
  @sOp (some 18) (xBin .eql false (s.τ 10) (.int .i64 2) s.H) s <| .mk fun s =>
  @sOp (some 17) (xMov (s.τ 18) s.H) s <| .mk fun s =>
  @sIf (s.τ 17) ⟨W53_b4 P Φ s⟩ ⟨W53_b27 P Φ s⟩
def W53 (P : Program) (Φ : Exit → St → Prop) (s : St) : Prop :=
  @sOp (some 4) (xBox 4 34 (s.τ 0) s.H) s <| .mk fun s =>
  @sOp (some 8) (xMov (.bool false) s.H) s <| .mk fun s =>
  @sOp (some 9) (xFld 0 (s.τ 4) s.H) s <| .mk fun s =>
  @sOp (some 10) (xLoad 1 false (s.τ 9) s.H) s <| .mk fun s =>
  @sOp (some 12) (xBin .eql false (s.τ 10) (.int .i64 1) s.H) s <| .mk fun s =>
  @sOp (some 11) (xMov (s.τ 12) s.H) s <| .mk fun s =>
  @sIf (s.τ 11) ⟨W53_b2 P Φ s⟩ ⟨W53_b28 P Φ s⟩
theorem W53_rs (τ : Nat → AV) (H : Heap) : resV Try.prog τ H [.tmp 8] = some (τ 8) := by kernel_rfl
theorem W53_eq (Φ : Exit → St → Prop) (s : St) : awp Try.prog (Try.f53.body.getD .skip) Φ s = W53 Try.prog Φ s := by kernel_rfl

-- 54 "penance/penanceref1.Name"
def W54_b1 (P : Program) (Φ : Exit → St → Prop) (s : St) : Prop :=
  @sOp (some 2) (xMov (.bool false) s.H) s <| .mk fun s =>
  Φ .ret s
def W54_k2 (P : Program) (Φ : Exit → St → Prop) (s : St) : Prop :=
  @sOp (some 2) (xMov (.bool true) s.H) s <| .mk fun s =>
  Φ .ret s
def W54_b3 (P : Program) (Φ : Exit → St → Prop) (L0 : St → Prop) (s : St) : Prop :=
  @sOp (some 2) (xMov (.bool false) s.H) s <| .mk fun s =>
  Φ .ret s
def W54_b4 (P : Program) (Φ : Exit → St → Prop) (L0 : St → Prop) (s : St) : Prop :=
  @sOp (some 20) (xMov (s.τ 3) s.H) s <| .mk fun s =>
  @sOp (some 21) (xBin .add false (s.τ 20) (.int .i64 1) s.H) s <| .mk fun s =>
  @sOp (some 3) (xMov (s.τ 21) s.H) s <| .mk fun s =>
  L0 s
def W54_c5 (P : Program) (Φ : Exit → St → Prop) (L0 : St → Prop) (s : St) : Prop :=
  @sOp (some 28) (xNot (s.τ 27) s.H) s <| .mk fun s =>
  @sIf (s.τ 28) ⟨W54_b3 P Φ L0 s⟩ ⟨W54_b4 P Φ L0 s⟩
def W54_b6 (P : Program) (Φ : Exit → St → Prop) (L0 : St → Prop) (s : St) : Prop :=
  @sOp (some 22) (xMov (s.τ 0) s.H) s <| .mk fun s =>
  @sOp (some 23) (xMov (s.τ 3) s.H) s <| .mk fun s =>
  @sOp (some 24) (xSix (s.τ 22) (s.τ 23) s.H) s <| .mk fun s =>
  @sOp (some 25) (xMov (s.τ 3) s.H) s <| .mk fun s =>
  @sOp (some 26) (xBin .eql false (s.τ 25) (.int .i64 0) s.H) s <| .mk fun s =>
  @sCall P (.func 80 []) [(s.τ 24), (s.τ 26)] (some 27) s ⟨W54_c5 P Φ L0⟩
def W54_l7 (P : Program) (Φ : Exit → St → Prop) (L0 : St → Prop) (s : St) : Prop :=
  @sOp (some 16) (xMov (s.τ 3) s.H) s <| .mk fun s =>
  @sOp (some 17) (xMov (s.τ 0) s.H) s <| .mk fun s =>
  @sOp (some 18) (xSlen (s.τ 17) s.H) s <| .mk fun s =>
  @sOp (some 19) (xBin .lss false (s.τ 16) (s.τ 18) s.H) s <| .mk fun s =>
  @sIf (s.τ 19) ⟨W54_b6 P Φ L0 s⟩ ⟨W54_k2 P Φ s⟩
def W54_b8 (P : Program) (Φ : Exit → St → Prop) (s : St) : Prop :=
  @sOp (some 3) (xMov (.int .i64 0) s.H) s <| .mk fun s =>
  @sLoop s ⟨fun L0 s => W54_l7 P Φ L0 s⟩
def W54_c9 (P : Program) (Φ : Exit → St → Prop) (s : St) : Prop :=
  @sOp (some 15) (xPick (s.τ 12) (.bool true) (s.τ 14) s.H) s <| .mk fun s =>
  @sIf (s.τ 15) ⟨W54_b1 P Φ s⟩ ⟨W54_b8 P Φ s⟩
def W54_c10 (P : Program) (Φ : Exit → St → Prop) (s : St) : Prop :=
  @sGrd (guardOf (s.τ 12) false) (some 14) s ⟨fun s K => @sCall P (.func 79 []) [(s.τ 13)] (some 14) s ⟨K⟩⟩ ⟨W54_c9 P Φ⟩
def W54_c11 (P : Program) (Φ : Exit → St → Prop) (s : St) : Prop :=
  @sOp (some 11) (xPick (s.τ 7) (.bool true) (s.τ 10) s.H) s <| .mk fun s =>
  @sOp (some 12) (xMov (s.τ 11) s.H) s <| .mk fun s =>
  @sGrd (guardOf (s.τ 12) false) (some 13) s ⟨fun s K => @sOp (some 13) (xMov (s.τ 0) s.H) s ⟨K⟩⟩ ⟨W54_c10 P Φ⟩
def W54_c12 (P : Program) (Φ : Exit → St → Prop) (s : St) : Prop :=
  @sGrd (guardOf (s.τ 7) false) (some 10) s ⟨fun s K => @sOp (some 10) (xBin .gtr false (s.τ 9) (.int .i64 20) s.H) s ⟨K⟩⟩ ⟨W54_c11 P Φ⟩
def W54_c13 (P : Program) (Φ : Exit → St → Prop) (s : St) : Prop :=
  @sGrd (guardOf (s.τ 7) false) (some 9) s ⟨fun s K => @sOp (some 9) (xSlen (s.τ 8) s.H) s ⟨K⟩⟩ ⟨W54_c12 P Φ⟩
def W54 (P : Program) (Φ : Exit → St → Prop) (s : St) : Prop :=
  @sOp (some 2) (xMov (.bool false) s.H) s <| .mk fun s =>
  @sOp (some 4) (xMov (s.τ 0) s.H) s <| .mk fun s =>
  @sOp (some 5) (xSlen (s.τ 4) s.H) s <| .mk fun s =>
  @sOp (some 6) (xBin .lss false (s.τ 5) (.int .i64 1) s.H) s <| .mk fun s =>
  @sOp (some 7) (xMov (s.τ 6) s.H) s <| .mk fun s =>
  @sGrd (guardOf (s.τ 7) false) (some 8) s ⟨fun s K => @sOp (some 8) (xMov (s.τ 0) s.H) s ⟨K⟩⟩ ⟨W54_c13 P Φ⟩
theorem W54_rs (τ : Nat → AV) (H : Heap) : resV Try.prog τ H [.tmp 2] = some (τ 2) := by kernel_rfl
theorem W54_eq (Φ : Exit → St → Prop) (s : St) : awp Try.prog (Try.f54.body.getD .skip) Φ s = W54 Try.prog Φ s := by kernel_rfl

end Go.Proofs.Ytkagfenchknjjaa
