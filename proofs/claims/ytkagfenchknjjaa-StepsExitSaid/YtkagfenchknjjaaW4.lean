import Derived.Test.YtkagfenchknjjaaAmSimp
import Derived.Test.YtkagfenchknjjaaProg
import Derived.KernelRfl
set_option linter.unusedVariables false
namespace Go.Proofs.Ytkagfenchknjjaa
open Go Go.Am
-- 24 "penance/steps.Enabled"
def W24_c1 (P : Program) (Φ : Exit → St → Prop) (J0 : Nat → St → Prop) (s : St) : Prop :=
  @sOp (some 2) (xMov (s.τ 43) s.H) s <| .mk fun s =>
  Φ .ret s
def W24_k2 (P : Program) (Φ : Exit → St → Prop) (J0 : Nat → St → Prop) (s : St) : Prop :=
  @sOp (some 42) (xLoad 1 false (s.τ 3) s.H) s <| .mk fun s =>
  @sCall P (.func 50 []) [(s.τ 42)] (some 43) s ⟨W24_c1 P Φ J0⟩
def W24_c3 (P : Program) (Φ : Exit → St → Prop) (L0 : St → Prop) (u0 : St) (s : St) : Prop :=
  @sOp (some 37) (xMov (s.τ 6) s.H) s <| .mk fun u8 =>
  @sOp (some 38) (xBuild [.int .i64 0, .nils, .int .i64 0] [(0, 1, (u8.τ 33)), (1, 1, (u8.τ 36)), (2, 1, (u8.τ 37))] u8.H) u8 <| .mk fun u9 =>
  @sChk (compat (occ (u0.τ 3), []) ([39] ++ occL [(u9.τ 38)], [39] ++ occL [(u9.τ 38)])) <| .mk <|
  @sOp (some 39) (xLit 3 1 [.int .i64 0, .nils, .int .i64 0] [(0, (u9.τ 38))] u9.H) u9 <| .mk fun u10 =>
  @sOp (some 40) (xApp P 43 3 40 (some 40) (u10.τ 30) (u10.τ 39) u10.H) u10 <| .mk fun u11 =>
  @sOp none (xStore 1 (u11.τ 3) (u11.τ 40) u11.H) u11 <| .mk fun s =>
  @sOp (some 41) (xBin .add false (s.τ 27) (.int .i64 1) s.H) s <| .mk fun s =>
  @sOp (some 27) (xMov (s.τ 41) s.H) s <| .mk fun s =>
  L0 s
def W24_b4 (P : Program) (Φ : Exit → St → Prop) (L0 : St → Prop) (s : St) : Prop :=
  @sOp (some 29) (xMov (s.τ 27) s.H) s <| .mk fun s =>
  @sOp (some 6) (xMov (s.τ 29) s.H) s <| .mk fun s =>
  @sOp (some 30) (xLoad 1 false (s.τ 3) s.H) s <| .mk fun u1 =>
  @sOp (some 31) (xFld 0 (u1.τ 4) u1.H) u1 <| .mk fun u2 =>
  @sOp (some 32) (xFld 0 (u2.τ 31) u2.H) u2 <| .mk fun u3 =>
  @sOp (some 33) (xLoad 1 false (u3.τ 32) u3.H) u3 <| .mk fun u4 =>
  @sOp (some 34) (xFld 9 (u4.τ 4) u4.H) u4 <| .mk fun u5 =>
  @sOp (some 35) (xLoad 1 false (u5.τ 34) u5.H) u5 <| .mk fun u6 =>
  @sChk (compat (occ (s.τ 3), []) ([36] ++ (occ (.func 49 []) ++ occL [(u6.τ 35)]), [36] ++ (occ (.func 49 []) ++ occL [(u6.τ 35)]))) <| .mk <|
  @sChk (compat (occ (u1.τ 4), []) ([36] ++ (occ (.func 49 []) ++ occL [(u6.τ 35)]), [36] ++ (occ (.func 49 []) ++ occL [(u6.τ 35)]))) <| .mk <|
  @sChk (compat (occ (u2.τ 31), []) ([36] ++ (occ (.func 49 []) ++ occL [(u6.τ 35)]), [36] ++ (occ (.func 49 []) ++ occL [(u6.τ 35)]))) <| .mk <|
  @sChk (compat (occ (u3.τ 32), []) ([36] ++ (occ (.func 49 []) ++ occL [(u6.τ 35)]), [36] ++ (occ (.func 49 []) ++ occL [(u6.τ 35)]))) <| .mk <|
  @sCall0 P (.func 49 []) [(u6.τ 35)] (some 36) u6 ⟨W24_c3 P Φ L0 s⟩
def W24_l5 (P : Program) (Φ : Exit → St → Prop) (L0 : St → Prop) (s : St) : Prop :=
  @sOp (some 28) (xBin .lss false (s.τ 27) (s.τ 26) s.H) s <| .mk fun s =>
  @sIf (s.τ 28) ⟨W24_b4 P Φ L0 s⟩ ⟨Φ .normal s⟩
def W24_k6 (P : Program) (Φ : Exit → St → Prop) (s : St) : Prop :=
  @sOp (some 26) (xMov (s.τ 5) s.H) s <| .mk fun s =>
  @sOp (some 27) (xMov (.int .i64 0) s.H) s <| .mk fun s =>
  @sLoop s ⟨fun L0 s => W24_l5 P Φ L0 s⟩
def W24_b7 (P : Program) (Φ : Exit → St → Prop) (s : St) : Prop :=
  @sOp (some 22) (xFld 10 (s.τ 4) s.H) s <| .mk fun s =>
  @sOp (some 23) (xLoad 1 false (s.τ 22) s.H) s <| .mk fun s =>
  @sIf (s.τ 23) ⟨Φ .normal s⟩ ⟨W24_k6 P Φ s⟩
def W24_b8 (P : Program) (Φ : Exit → St → Prop) (s : St) : Prop :=
  @sOp (some 5) (xMov (.int .i64 2) s.H) s <| .mk fun s =>
  W24_k6 P Φ s
def W24_b9 (P : Program) (Φ : Exit → St → Prop) (s : St) : Prop :=
  @sOp (some 25) (xBin .eql false (s.τ 13) (.int .i64 10) s.H) s <| .mk fun s =>
  @sOp (some 24) (xMov (s.τ 25) s.H) s <| .mk fun s =>
  @sIf (s.τ 24) ⟨W24_b8 P Φ s⟩ ⟨W24_k6 P Φ s⟩
def W24_b10 (P : Program) (Φ : Exit → St → Prop) (s : St) : Prop :=
  @sOp (some 21) (xBin .eql false (s.τ 13) (.int .i64 8) s.H) s <| .mk fun s =>
  @sOp (some 20) (xMov (s.τ 21) s.H) s <| .mk fun s =>
  @sIf (s.τ 20) ⟨W24_b7 P Φ s⟩ ⟨W24_b9 P Φ s⟩
def W24_k11 (P : Program) (Φ : Exit → St → Prop) (s : St) : Prop :=
  @sIf (s.τ 14) ⟨Φ .normal s⟩ ⟨W24_b10 P Φ s⟩
def W24_b12 (P : Program) (Φ : Exit → St → Prop) (s : St) : Prop :=
  @sOp (some 19) (xBin .eql false (s.τ 13) (.int .i64 7) s.H) s <| .mk fun s =>
  @sOp (some 14) (xMov (s.τ 19) s.H) s <| .mk fun s =>
  W24_k11 P Φ s
def W24_b13 (P : Program) (Φ : Exit → St → Prop) (s : St) : Prop :=
  @sOp (some 18) (xBin .eql false (s.τ 13) (.int .i64 11) s.H) s <| .mk fun s =>
  @sOp (some 14) (xMov (s.τ 18) s.H) s <| .mk fun s =>
  @sIf (s.τ 14) ⟨W24_k11 P Φ s⟩ ⟨W24_b12 P Φ s⟩
def W24_b14 (P : Program) (Φ : Exit → St → Prop) (s : St) : Prop :=
  @sOp (some 17) (xBin .eql false (s.τ 13) (.int .i64 12) s.H) s <| .mk fun s =>
  @sOp (some 14) (xMov (s.τ 17) s.H) s <| .mk fun s =>
  @sIf (s.τ 14) ⟨W24_k11 P Φ s⟩ ⟨W24_b13 P Φ s⟩
def W24_b15 (P : Program) (Φ : Exit → St → Prop) (s : St) : Prop :=
  @sOp (some 16) (xBin .eql false (s.τ 13) (.int .i64 14) s.H) s <| .mk fun s =>
  @sOp (some 14) (xMov (s.τ 16) s.H) s <| .mk fun s =>
  @sIf (s.τ 14) ⟨W24_k11 P Φ s⟩ ⟨W24_b14 P Φ s⟩
def W24_r16 (P : Program) (Φ : Exit → St → Prop) (s : St) : Prop :=
  @sOp (some 4) (xAlloc 4 83 [.int .i64 0, .int .i64 0, .int .i64 0, .str ⟨#[]⟩, .int .i64 0, .int .i64 0, .str ⟨#[]⟩, .nils, .nils, .nils, .bool false] s.H) s <| .mk fun s =>
  @sOp none (xStore 11 (s.τ 4) (s.τ 10) s.H) s <| .mk fun s =>
  @sOp (some 5) (xMov (.int .i64 1) s.H) s <| .mk fun s =>
  @sOp (some 11) (xFld 0 (s.τ 4) s.H) s <| .mk fun s =>
  @sOp (some 12) (xFld 0 (s.τ 11) s.H) s <| .mk fun s =>
  @sOp (some 13) (xLoad 1 false (s.τ 12) s.H) s <| .mk fun s =>
  @sOp (some 15) (xBin .eql false (s.τ 13) (.int .i64 0) s.H) s <| .mk fun s =>
  @sOp (some 14) (xMov (s.τ 15) s.H) s <| .mk fun s =>
  @sIf (s.τ 14) ⟨W24_k11 P Φ s⟩ ⟨W24_b15 P Φ s⟩
def W24_c17 (P : Program) (Φ : Exit → St → Prop) (J0 : Nat → St → Prop) (s : St) : Prop :=
  @sRange P (s.τ 9) [10] s ⟨fun Φ s => W24_r16 P Φ s⟩ ⟨(blkK 0 (thenK (W24_k2 P Φ J0) (gotoK J0 Φ)))⟩
def W24_c18 (P : Program) (Φ : Exit → St → Prop) (J0 : Nat → St → Prop) (s : St) : Prop :=
  @sCall P (.func 48 []) [(s.τ 8)] (some 9) s ⟨W24_c17 P Φ J0⟩
def W24_s19 (P : Program) (Φ : Exit → St → Prop) (J0 : Nat → St → Prop) (s : St) : Prop :=
  @sOp (some 3) (xAlloc 3 37 [.nils] s.H) s <| .mk fun s =>
  @sOp (some 7) (xLoad 9 true (s.τ 1) s.H) s <| .mk fun s =>
  @sCall P (.func 40 []) [(s.τ 7)] (some 8) s ⟨W24_c18 P Φ J0⟩
def W24_c20 (P : Program) (Φ : Exit → St → Prop) (J0 : Nat → St → Prop) (s : St) : Prop :=
  @sOp (some 2) (xMov (s.τ 43) s.H) s <| .mk fun s =>
  Φ .ret s
def W24_k21 (P : Program) (Φ : Exit → St → Prop) (J0 : Nat → St → Prop) (s : St) : Prop :=
  @sOp (some 42) (xLoad 1 false (s.τ 3) s.H) s <| .mk fun s =>
  @sCall P (.func 50 []) [(s.τ 42)] (some 43) s ⟨W24_c20 P Φ J0⟩
def W24_c22 (P : Program) (Φ : Exit → St → Prop) (L0 : St → Prop) (u0 : St) (s : St) : Prop :=
  @sOp (some 37) (xMov (s.τ 6) s.H) s <| .mk fun u8 =>
  @sOp (some 38) (xBuild [.int .i64 0, .nils, .int .i64 0] [(0, 1, (u8.τ 33)), (1, 1, (u8.τ 36)), (2, 1, (u8.τ 37))] u8.H) u8 <| .mk fun u9 =>
  @sChk (compat (occ (u0.τ 3), []) ([39] ++ occL [(u9.τ 38)], [39] ++ occL [(u9.τ 38)])) <| .mk <|
  @sOp (some 39) (xLit 3 1 [.int .i64 0, .nils, .int .i64 0] [(0, (u9.τ 38))] u9.H) u9 <| .mk fun u10 =>
  @sOp (some 40) (xApp P 43 3 40 (some 40) (u10.τ 30) (u10.τ 39) u10.H) u10 <| .mk fun u11 =>
  @sOp none (xStore 1 (u11.τ 3) (u11.τ 40) u11.H) u11 <| .mk fun s =>
  @sOp (some 41) (xBin .add false (s.τ 27) (.int .i64 1) s.H) s <| .mk fun s =>
  @sOp (some 27) (xMov (s.τ 41) s.H) s <| .mk fun s =>
  L0 s
def W24_b23 (P : Program) (Φ : Exit → St → Prop) (L0 : St → Prop) (s : St) : Prop :=
  @sOp (some 29) (xMov (s.τ 27) s.H) s <| .mk fun s =>
  @sOp (some 6) (xMov (s.τ 29) s.H) s <| .mk fun s =>
  @sOp (some 30) (xLoad 1 false (s.τ 3) s.H) s <| .mk fun u1 =>
  @sOp (some 31) (xFld 0 (u1.τ 4) u1.H) u1 <| .mk fun u2 =>
  @sOp (some 32) (xFld 0 (u2.τ 31) u2.H) u2 <| .mk fun u3 =>
  @sOp (some 33) (xLoad 1 false (u3.τ 32) u3.H) u3 <| .mk fun u4 =>
  @sOp (some 34) (xFld 9 (u4.τ 4) u4.H) u4 <| .mk fun u5 =>
  @sOp (some 35) (xLoad 1 false (u5.τ 34) u5.H) u5 <| .mk fun u6 =>
  @sChk (compat (occ (s.τ 3), []) ([36] ++ (occ (.func 49 []) ++ occL [(u6.τ 35)]), [36] ++ (occ (.func 49 []) ++ occL [(u6.τ 35)]))) <| .mk <|
  @sChk (compat (occ (u1.τ 4), []) ([36] ++ (occ (.func 49 []) ++ occL [(u6.τ 35)]), [36] ++ (occ (.func 49 []) ++ occL [(u6.τ 35)]))) <| .mk <|
  @sChk (compat (occ (u2.τ 31), []) ([36] ++ (occ (.func 49 []) ++ occL [(u6.τ 35)]), [36] ++ (occ (.func 49 []) ++ occL [(u6.τ 35)]))) <| .mk <|
  @sChk (compat (occ (u3.τ 32), []) ([36] ++ (occ (.func 49 []) ++ occL [(u6.τ 35)]), [36] ++ (occ (.func 49 []) ++ occL [(u6.τ 35)]))) <| .mk <|
  @sCall0 P (.func 49 []) [(u6.τ 35)] (some 36) u6 ⟨W24_c22 P Φ L0 s⟩
def W24_l24 (P : Program) (Φ : Exit → St → Prop) (L0 : St → Prop) (s : St) : Prop :=
  @sOp (some 28) (xBin .lss false (s.τ 27) (s.τ 26) s.H) s <| .mk fun s =>
  @sIf (s.τ 28) ⟨W24_b23 P Φ L0 s⟩ ⟨Φ .normal s⟩
def W24_k25 (P : Program) (Φ : Exit → St → Prop) (s : St) : Prop :=
  @sOp (some 26) (xMov (s.τ 5) s.H) s <| .mk fun s =>
  @sOp (some 27) (xMov (.int .i64 0) s.H) s <| .mk fun s =>
  @sLoop s ⟨fun L0 s => W24_l24 P Φ L0 s⟩
def W24_b26 (P : Program) (Φ : Exit → St → Prop) (s : St) : Prop :=
  @sOp (some 22) (xFld 10 (s.τ 4) s.H) s <| .mk fun s =>
  @sOp (some 23) (xLoad 1 false (s.τ 22) s.H) s <| .mk fun s =>
  @sIf (s.τ 23) ⟨Φ .normal s⟩ ⟨W24_k25 P Φ s⟩
def W24_b27 (P : Program) (Φ : Exit → St → Prop) (s : St) : Prop :=
  @sOp (some 5) (xMov (.int .i64 2) s.H) s <| .mk fun s =>
  W24_k25 P Φ s
def W24_b28 (P : Program) (Φ : Exit → St → Prop) (s : St) : Prop :=
  @sOp (some 25) (xBin .eql false (s.τ 13) (.int .i64 10) s.H) s <| .mk fun s =>
  @sOp (some 24) (xMov (s.τ 25) s.H) s <| .mk fun s =>
  @sIf (s.τ 24) ⟨W24_b27 P Φ s⟩ ⟨W24_k25 P Φ s⟩
def W24_b29 (P : Program) (Φ : Exit → St → Prop) (s : St) : Prop :=
  @sOp (some 21) (xBin .eql false (s.τ 13) (.int .i64 8) s.H) s <| .mk fun s =>
  @sOp (some 20) (xMov (s.τ 21) s.H) s <| .mk fun s =>
  @sIf (s.τ 20) ⟨W24_b26 P Φ s⟩ ⟨W24_b28 P Φ s⟩
def W24_k30 (P : Program) (Φ : Exit → St → Prop) (s : St) : Prop :=
  @sIf (s.τ 14) ⟨Φ .normal s⟩ ⟨W24_b29 P Φ s⟩
def W24_b31 (P : Program) (Φ : Exit → St → Prop) (s : St) : Prop :=
  @sOp (some 19) (xBin .eql false (s.τ 13) (.int .i64 7) s.H) s <| .mk fun s =>
  @sOp (some 14) (xMov (s.τ 19) s.H) s <| .mk fun s =>
  W24_k30 P Φ s
def W24_b32 (P : Program) (Φ : Exit → St → Prop) (s : St) : Prop :=
  @sOp (some 18) (xBin .eql false (s.τ 13) (.int .i64 11) s.H) s <| .mk fun s =>
  @sOp (some 14) (xMov (s.τ 18) s.H) s <| .mk fun s =>
  @sIf (s.τ 14) ⟨W24_k30 P Φ s⟩ ⟨W24_b31 P Φ s⟩
def W24_b33 (P : Program) (Φ : Exit → St → Prop) (s : St) : Prop :=
  @sOp (some 17) (xBin .eql false (s.τ 13) (.int .i64 12) s.H) s <| .mk fun s =>
  @sOp (some 14) (xMov (s.τ 17) s.H) s <| .mk fun s =>
  @sIf (s.τ 14) ⟨W24_k30 P Φ s⟩ ⟨W24_b32 P Φ s⟩
def W24_b34 (P : Program) (Φ : Exit → St → Prop) (s : St) : Prop :=
  @sOp (some 16) (xBin .eql false (s.τ 13) (.int .i64 14) s.H) s <| .mk fun s =>
  @sOp (some 14) (xMov (s.τ 16) s.H) s <| .mk fun s =>
  @sIf (s.τ 14) ⟨W24_k30 P Φ s⟩ ⟨W24_b33 P Φ s⟩
def W24_r35 (P : Program) (Φ : Exit → St → Prop) (s : St) : Prop :=
  @sOp (some 4) (xAlloc 4 83 [.int .i64 0, .int .i64 0, .int .i64 0, .str ⟨#[]⟩, .int .i64 0, .int .i64 0, .str ⟨#[]⟩, .nils, .nils, .nils, .bool false] s.H) s <| .mk fun s =>
  @sOp none (xStore 11 (s.τ 4) (s.τ 10) s.H) s <| .mk fun s =>
  @sOp (some 5) (xMov (.int .i64 1) s.H) s <| .mk fun s =>
  @sOp (some 11) (xFld 0 (s.τ 4) s.H) s <| .mk fun s =>
  @sOp (some 12) (xFld 0 (s.τ 11) s.H) s <| .mk fun s =>
  @sOp (some 13) (xLoad 1 false (s.τ 12) s.H) s <| .mk fun s =>
  @sOp (some 15) (xBin .eql false (s.τ 13) (.int .i64 0) s.H) s <| .mk fun s =>
  @sOp (some 14) (xMov (s.τ 15) s.H) s <| .mk fun s =>
  @sIf (s.τ 14) ⟨W24_k30 P Φ s⟩ ⟨W24_b34 P Φ s⟩
def W24_c36 (P : Program) (Φ : Exit → St → Prop) (J0 : Nat → St → Prop) (s : St) : Prop :=
  @sRange P (s.τ 9) [10] s ⟨fun Φ s => W24_r35 P Φ s⟩ ⟨(blkK 0 (thenK (W24_k21 P Φ J0) (gotoK J0 Φ)))⟩
def W24_c37 (P : Program) (Φ : Exit → St → Prop) (J0 : Nat → St → Prop) (s : St) : Prop :=
  @sCall P (.func 48 []) [(s.τ 8)] (some 9) s ⟨W24_c36 P Φ J0⟩
def W24_g38 (P : Program) (Φ : Exit → St → Prop) (J0 : Nat → St → Prop) (s : St) : Prop :=
  @sOp (some 7) (xLoad 9 true (s.τ 1) s.H) s <| .mk fun s =>
  @sCall P (.func 40 []) [(s.τ 7)] (some 8) s ⟨W24_c37 P Φ J0⟩
def W24 (P : Program) (Φ : Exit → St → Prop) (s : St) : Prop :=
  @sOp (some 1) (xBox 1 34 (s.τ 0) s.H) s <| .mk fun s =>
  @sOp (some 2) (xMov (.nils) s.H) s <| .mk fun s =>
  @sScope s ⟨fun J0 s => W24_s19 P Φ J0 s⟩ ⟨[(0, fun J0 s => W24_g38 P Φ J0 s)]⟩
theorem W24_rs (τ : Nat → AV) (H : Heap) : resV Try.prog τ H [.tmp 2] = some (τ 2) := by kernel_rfl
theorem W24_eq (Φ : Exit → St → Prop) (s : St) : awp Try.prog (Try.f24.body.getD .skip) Φ s = W24 Try.prog Φ s := by kernel_rfl

-- 29 "penance/penancelaw7.within"
def W29_k1 (P : Program) (Φ : Exit → St → Prop) (s : St) : Prop :=
  @sOp (some 14) (xMov (s.τ 5) s.H) s <| .mk fun s =>
  @sOp (some 4) (xMov (s.τ 14) s.H) s <| .mk fun s =>
  Φ .ret s
def W29_b2 (P : Program) (Φ : Exit → St → Prop) (s : St) : Prop :=
  @sOp (some 11) (xMov (s.τ 5) s.H) s <| .mk fun s =>
  @sOp (some 12) (xMov (s.τ 1) s.H) s <| .mk fun s =>
  @sOp (some 13) (xBin .add false (s.τ 11) (s.τ 12) s.H) s <| .mk fun s =>
  @sOp (some 5) (xMov (s.τ 13) s.H) s <| .mk fun s =>
  W29_k1 P Φ s
def W29 (P : Program) (Φ : Exit → St → Prop) (s : St) : Prop :=
  @sOp (some 4) (xMov (.int .i64 0) s.H) s <| .mk fun s =>
  @sOp (some 6) (xMov (s.τ 0) s.H) s <| .mk fun s =>
  @sOp (some 7) (xMov (s.τ 1) s.H) s <| .mk fun s =>
  @sOp (some 8) (xBin .rem false (s.τ 6) (s.τ 7) s.H) s <| .mk fun s =>
  @sOp (some 5) (xMov (s.τ 8) s.H) s <| .mk fun s =>
  @sOp (some 9) (xMov (s.τ 5) s.H) s <| .mk fun s =>
  @sOp (some 10) (xBin .lss false (s.τ 9) (.int .i64 0) s.H) s <| .mk fun s =>
  @sIf (s.τ 10) ⟨W29_b2 P Φ s⟩ ⟨W29_k1 P Φ s⟩
theorem W29_rs (τ : Nat → AV) (H : Heap) : resV Try.prog τ H [.tmp 4] = some (τ 4) := by kernel_rfl
theorem W29_eq (Φ : Exit → St → Prop) (s : St) : awp Try.prog (Try.f29.body.getD .skip) Φ s = W29 Try.prog Φ s := by kernel_rfl

-- 30 "penance/steps.Status"
def W30_b1 (P : Program) (Φ : Exit → St → Prop) (s : St) : Prop :=
  @sOp (some 2) (xMov (.int .i64 2) s.H) s <| .mk fun s =>
  Φ .ret s
def W30_b2 (P : Program) (Φ : Exit → St → Prop) (s : St) : Prop :=
  @sOp (some 2) (xMov (.int .i64 0) s.H) s <| .mk fun s =>
  Φ .ret s
def W30_b3 (P : Program) (Φ : Exit → St → Prop) (s : St) : Prop :=
  @sOp (some 2) (xMov (.int .i64 1) s.H) s <| .mk fun s =>
  Φ .ret s
def W30_c4 (P : Program) (Φ : Exit → St → Prop) (s : St) : Prop :=
  @sOp (some 11) (xLen (s.τ 10) s.H) s <| .mk fun s =>
  @sOp (some 12) (xBin .gtr false (s.τ 11) (.int .i64 0) s.H) s <| .mk fun s =>
  @sOp (some 8) (xMov (s.τ 12) s.H) s <| .mk fun s =>
  @sIf (s.τ 8) ⟨W30_b2 P Φ s⟩ ⟨W30_b3 P Φ s⟩
def W30_b5 (P : Program) (Φ : Exit → St → Prop) (s : St) : Prop :=
  @sOp (some 9) (xLoad 9 true (s.τ 1) s.H) s <| .mk fun s =>
  @sCall P (.func 24 []) [(s.τ 9)] (some 10) s ⟨W30_c4 P Φ⟩
def W30_c6 (P : Program) (Φ : Exit → St → Prop) (s : St) : Prop :=
  @sOp (some 6) (xField 0 1 false (s.τ 5) s.H) s <| .mk fun s =>
  @sOp (some 7) (xBin .eql false (s.τ 6) (.int .i64 0) s.H) s <| .mk fun s =>
  @sOp (some 3) (xMov (s.τ 7) s.H) s <| .mk fun s =>
  @sIf (s.τ 3) ⟨W30_b1 P Φ s⟩ ⟨W30_b5 P Φ s⟩
def W30 (P : Program) (Φ : Exit → St → Prop) (s : St) : Prop :=
  @sOp (some 1) (xBox 1 34 (s.τ 0) s.H) s <| .mk fun s =>
  @sOp (some 2) (xMov (.int .i64 0) s.H) s <| .mk fun s =>
  @sOp (some 4) (xLoad 9 true (s.τ 1) s.H) s <| .mk fun s =>
  @sCall P (.func 40 []) [(s.τ 4)] (some 5) s ⟨W30_c6 P Φ⟩
theorem W30_rs (τ : Nat → AV) (H : Heap) : resV Try.prog τ H [.tmp 2] = some (τ 2) := by kernel_rfl
theorem W30_eq (Φ : Exit → St → Prop) (s : St) : awp Try.prog (Try.f30.body.getD .skip) Φ s = W30 Try.prog Φ s := by kernel_rfl


end Go.Proofs.Ytkagfenchknjjaa
