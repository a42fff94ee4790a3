import Derived.Test.YtkagfenchknjjaaAmSimp
import Derived.Test.YtkagfenchknjjaaProg
import Derived.KernelRfl
set_option linter.unusedVariables false
namespace Go.Proofs.Ytkagfenchknjjaa
open Go Go.Am
-- 24 "penance/steps.Enabled"
def W24_c1 (P : Program) (Φ : Exit → St → Prop) (J0 : Nat → St → Prop) (s : St) : Prop :=
  @sOp (some 2) (xMov (s.τ 43) s.H) s <| .mk fun s =>
  Φ .ret s
def W24_k2 (P : Program) (Φ : Exit → St → Prop) (J0 : Nat → St → Prop) (s : St) : Prop :=
  @sOp (some 42) (xLoad 1 false (s.τ 3) s.H) s <| .mk fun s =>
  @sCall P (.func 50 []) [(s.τ 42)] (some 43) s ⟨W24_c1 P Φ J0⟩
def W24_c3 (P : Program) (Φ : Exit → St → Prop) (L0 : St → Prop) (u0 : St) (s : St) : Prop :=
  @sOp (some 37) (xMov (s.τ 6) s.H) s <| .mk fun u8 =>
  @sOp (some 38) (xBuild [.int .i64 0, .nils, .int .i64 0] [(0, 1, (u8.τ 33)), (1, 1, (u8.τ 36)), (2, 1, (u8.τ 37))] u8.H) u8 <| .mk fun u9 =>
  @sChk (compat (occ (u0.τ 3), []) ([39] ++ occL [(u9.τ 38)], [39] ++ occL [(u9.τ 38)])) <| .mk <|
  @sOp (some 39) (xLit 3 1 [.int .i64 0, .nils, .int .i64 0] [(0, (u9.τ 38))] u9.H) u9 <| .mk fun u10 =>
  @sOp (some 40) (xApp P 43 3 40 (some 40) (u10.τ 30) (u10.τ 39) u10.H) u10 <| .mk fun u11 =>
  @sOp none (xStore 1 (u11.τ 3) (u11.τ 40) u11.H) u11 <| .mk fun s =>
  @sOp (some 41) (xBin .add false (s.τ 27) (.int .i64 1) s.H) s <| .mk fun s =>
  @sOp (some 27) (xMov (s.τ 41) s.H) s <| .mk fun s =>
  L0 s
def W24_b4 (P : Program) (Φ : Exit → St → Prop) (L0 : St → Prop) (s : St) : Prop :=
  @sOp (some 29) (xMov (s.τ 27) s.H) s <| .mk fun s =>
  @sOp (some 6) (xMov (s.τ 29) s.H) s <| .mk fun s =>
  @sOp (some 30) (xLoad 1 false (s.τ 3) s.H) s <| .mk fun u1 =>
  @sOp (some 31) (xFld 0 (u1.τ 4) u1.H) u1 <| .mk fun u2 =>
  @sOp (some 32) (xFld 0 (u2.τ 31) u2.H) u2 <| .mk fun u3 =>
  @sOp (some 33) (xLoad 1 false (u3.τ 32) u3.H) u3 <| .mk fun u4 =>
  @sOp (some 34) (xFld 9 (u4.τ 4) u4.H) u4 <| .mk fun u5 =>
  @sOp (some 35) (xLoad 1 false (u5.τ 34) u5.H) u5 <| .mk fun u6 =>
  @sChk (compat (occ (s.τ 3), []) ([36] ++ (occ (.func 49 []) ++ occL [(u6.τ 35)]), [36] ++ (occ (.func 49 []) ++ occL [(u6.τ 35)]))) <| .mk <|
  @sChk (compat (occ (u1.τ 4), []) ([36] ++ (occ (.func 49 []) ++ occL [(u6.τ 35)]), [36] ++ (occ (.func 49 []) ++ occL [(u6.τ 35)]))) <| .mk <|
  @sChk (compat (occ (u2.τ 31), []) ([36] ++ (occ (.func 49 []) ++ occL [(u6.τ 35)]), [36] ++ (occ (.func 49 []) ++ occL [(u6.τ 35)]))) <| .mk <|
  @sChk (compat (occ (u3.τ 32), []) ([36] ++ (occ (.func 49 []) ++ occL [(u6.τ 35)]), [36] ++ (occ (.func 49 []) ++ occL [(u6.τ 35)]))) <| .mk <|
  @sCall0 P (.func 49 []) [(u6.τ 35)] (some 36) u6 ⟨W24_c3 P Φ L0 s⟩
def W24_l5 (P : Program) (Φ : Exit → St → Prop) (L0 : St → Prop) (s : St) : Prop :=
  @sOp (some 28) (xBin .lss false (s.τ 27) (s.τ 26) s.H) s <| .mk fun s =>
  @sIf (s.τ 28) ⟨W24_b4 P Φ L0 s⟩ ⟨Φ .normal s⟩
def W24_k6 (P : Program) (Φ : Exit → St → Prop) (s : St) : Prop :=
  @sOp (some 26) (xMov (s.τ 5) s.H) s <| .mk fun s =>
  @sOp (some 27) (xMov (.int .i64 0) s.H) s <| .mk fun s =>
  @sLoop s ⟨fun L0 s => W24_l5 P Φ L0 s⟩
def W24_b7 (P : Program) (Φ : Exit → St → Prop) (s : St) : Prop :=
  @sOp (some 22) (xFld 10 (s.τ 4) s.H) s <| .mk fun s =>
  @sOp (some 23) (xLoad 1 false (s.τ 22) s.H) s <| .mk fun s =>
  @sIf (s.τ 23) ⟨Φ .normal s⟩ ⟨W24_k6 P Φ s⟩
def W24_b8 (P : Program) (Φ : Exit → St → Prop) (s : St) : Prop :=
  @sOp (some 5) (xMov (.int .i64 2) s.H) s <| .mk fun s =>
  W24_k6 P Φ s
def W24_b9 (P : Program) (Φ : Exit → St → Prop) (s : St) : Prop :=
  @sOp (some 25) (xBin .eql false (s.τ 13) (.int .i64 10) s.H) s <| .mk fun s =>
  @sOp (some 24) (xMov (s.τ 25) s.H) s <| .mk fun s =>
  @sIf (s.τ 24) ⟨W24_b8 P Φ s⟩ ⟨W24_k6 P Φ s⟩
def W24_b10 (P : Program) (Φ : Exit → St → Prop) (s : St) : Prop :=
  @sOp (some 21) (xBin .eql false (s.τ 13) (.int .i64 8) s.H) s <| .mk fun s =>
  @sOp (some 20) (xMov (s.τ 21) s.H) s <| .mk fun s =>
  @sIf (s.τ 20) ⟨W24_b7 P Φ s⟩ ⟨W24_b9 P Φ s⟩
def W24_k11 (P : Program) (Φ : Exit → St → Prop) (s : St) : Prop :=
  @sIf (s.τ 14) ⟨Φ .normal s⟩ ⟨W24_b10 P Φ s⟩
def W24_b12 (P : Program) (Φ : Exit → St → Prop) (s : St) : Prop :=
  @sOp (some 19) (xBin .eql false (s.τ 13) (.int .i64 7) s.H) s <| .mk fun s =>
  @sOp (some 14) (xMov (s.τ 19) s.H) s <| .mk fun s =>
  W24_k11 P Φ s
def W24_b13 (P : Program) (Φ : Exit → St → Prop) (s : St) : Prop :=
  @sOp (some 18) (xBin .eql false (s.τ 13) (.int .i64 11) s.H) s <| .mk fun s =>
  @sOp (some 14) (xMov (s.τ 18) s.H) s <| .mk fun s =>
  @sIf (s.τ 14) ⟨W24_k11 P Φ s⟩ ⟨W24_b12 P Φ s⟩
def W24_b14 (P : Program) (Φ : Exit → St → Prop) (s : St) : Prop :=
  @sOp (some 17) (xBin .eql false (s.τ 13) (.int .i64 12) s.H) s <| .mk fun s =>
  @sOp (some 14) (xMov (s.τ 17) s.H) s <| .mk fun s =>
  @sIf (s.τ 14) ⟨W24_k11 P Φ s⟩ ⟨W24_b13 P Φ s⟩
def W24_b15 (P : Program) (Φ : Exit → St → Prop) (s : St) : Prop :=
  @sOp (some 16) (xBin .eql false (s.τ 13) (.int .i64 14) s.H) s <| .mk fun s =>
  @sOp (some 14) (xMov (s.τ 16) s.H) s <| .mk fun s =>
  @sIf (s.τ 14) ⟨W24_k11 P Φ s⟩ ⟨W24_b14 P Φ s⟩
def W24_r16 (P : Program) (Φ : Exit → St → Prop) (s : St) : Prop :=
  @sOp (some 4) (xAlloc 4 83 [.int .i64 0, .int .i64 0, .int .i64 0, .str ⟨#[]⟩, .int .i64 0, .int .i64 0, .str ⟨#[]⟩, .nils, .nils, .nils, .bool false] s.H) s <| .mk fun s =>
  @sOp none (xStore 11 (s.τ 4) (s.τ 10) s.H) s <| .mk fun s =>
  @sOp (some 5) (xMov (.int .i64 1) s.H) s <| .mk fun s =>
  @sOp (some 11) (xFld 0 (s.τ 4) s.H) s <| .mk fun s =>
  @sOp (some 12) (xFld 0 (s.τ 11) s.H) s <| .mk fun s =>
  @sOp (some 13) (xLoad 1 false (s.τ 12) s.H) s <| .mk fun s =>
  @sOp (some 15) (xBin .eql false (s.τ 13) (.int .i64 0) s.H) s <| .mk fun s =>
  @sOp (some 14) (xMov (s.τ 15) s.H) s <| .mk fun s =>
  @sIf (s.τ 14) ⟨W24_k11 P Φ s⟩ ⟨W24_b15 P Φ s⟩
def W24_c17 (P : Program) (Φ : Exit → St → Prop) (J0 : Nat → St → Prop) (s : St) : Prop :=
  @sRange P (s.τ 9) [10] s ⟨fun Φ s => W24_r16 P Φ s⟩ ⟨(blkK 0 (thenK (W24_k2 P Φ J0) (gotoK J0 Φ)))⟩
def W24_c18 (P : Program) (Φ : Exit → St → Prop) (J0 : Nat → St → Prop) (s : St) : Prop :=
  @sCall P (.func 48 []) [(s.τ 8)] (some 9) s ⟨W24_c17 P Φ J0⟩
def W24_s19 (P : Program) (Φ : Exit → St → Prop) (J0 : Nat → St → Prop) (s : St) : Prop :=
  @sOp (some 3) (xAlloc 3 37 [.nils] s.H) s <| .mk fun s =>
  @sOp (some 7) (xLoad 9 true (s.τ 1) s.H) s <| .mk fun s =>
  @sCall P (.func 40 []) [(s.τ 7)] (some 8) s ⟨W24_c18 P Φ J0⟩
def W24_c20 (P : Program) (Φ : Exit → St → Prop) (J0 : Nat → St → Prop) (s : St) : Prop :=
  @sOp (some 2) (xMov (s.τ 43) s.H) s <| .mk fun s =>
  Φ .ret s
def W24_k21 (P : Program) (Φ : Exit → St → Prop) (J0 : Nat → St → Prop) (s : St) : Prop :=
  @sOp (some 42) (xLoad 1 false (s.τ 3) s.H) s <| .mk fun s =>
  @sCall P (.func 50 []) [(s.τ 42)] (some 43) s ⟨W24_c20 P Φ J0⟩
def W24_c22 (P : Program) (Φ : Exit → St → Prop) (L0 : St → Prop) (u0 : St) (s : St) : Prop :=
  @sOp (some 37) (xMov (s.τ 6) s.H) s <| .mk fun u8 =>
  @sOp (some 38) (xBuild [.int .i64 0, .nils, .int .i64 0] [(0, 1, (u8.τ 33)), (1, 1, (u8.τ 36)), (2, 1, (u8.τ 37))] u8.H) u8 <| .mk fun u9 =>
  @sChk (compat (occ (u0.τ 3), []) ([39] ++ occL [(u9.τ 38)], [39] ++ occL [(u9.τ 38)])) <| .mk <|
  @sOp (some 39) (xLit 3 1 [.int .i64 0, .nils, .int .i64 0] [(0, (u9.τ 38))] u9.H) u9 <| .mk fun u10 =>
  @sOp (some 40) (xApp P 43 3 40 (some 40) (u10.τ 30) (u10.τ 39) u10.H) u10 <| .mk fun u11 =>
  @sOp none (xStore 1 (u11.τ 3) (u11.τ 40) u11.H) u11 <| .mk fun s =>
  @sOp (some 41) (xBin .add false (s.τ 27) (.int .i64 1) s.H) s <| .mk fun s =>
  @sOp (some 27) (xMov (s.τ 41) s.H) s <| .mk fun s =>
  L0 s
def W24_b23 (P : Program) (Φ : Exit → St → Prop) (L0 : St → Prop) (s : St) : Prop :=
  @sOp (some 29) (xMov (s.τ 27) s.H) s <| .mk fun s =>
  @sOp (some 6) (xMov (s.τ 29) s.H) s <| .mk fun s =>
  @sOp (some 30) (xLoad 1 false (s.τ 3) s.H) s <| .mk fun u1 =>
  @sOp (some 31) (xFld 0 (u1.τ 4) u1.H) u1 <| .mk fun u2 =>
  @sOp (some 32) (xFld 0 (u2.τ 31) u2.H) u2 <| .mk fun u3 =>
  @sOp (some 33) (xLoad 1 false (u3.τ 32) u3.H) u3 <| .mk fun u4 =>
  @sOp (some 34) (xFld 9 (u4.τ 4) u4.H) u4 <| .mk fun u5 =>
  @sOp (some 35) (xLoad 1 false (u5.τ 34) u5.H) u5 <| .mk fun u6 =>
  @sChk (compat (occ (s.τ 3), []) ([36] ++ (occ (.func 49 []) ++ occL [(u6.τ 35)]), [36] ++ (occ (.func 49 []) ++ occL [(u6.τ 35)]))) <| .mk <|
  @sChk (compat (occ (u1.τ 4), []) ([36] ++ (occ (.func 49 []) ++ occL [(u6.τ 35)]), [36] ++ (occ (.func 49 []) ++ occL [(u6.τ 35)]))) <| .mk <|
  @sChk (compat (occ (u2.τ 31), []) ([36] ++ (occ (.func 49 []) ++ occL [(u6.τ 35)]), [36] ++ (occ (.func 49 []) ++ occL [(u6.τ 35)]))) <| .mk <|
  @sChk (compat (occ (u3.τ 32), []) ([36] ++ (occ (.func 49 []) ++ occL [(u6.τ 35)]), [36] ++ (occ (.func 49 []) ++ occL [(u6.τ 35)]))) <| .mk <|
  @sCall0 P (.func 49 []) [(u6.τ 35)] (some 36) u6 ⟨W24_c22 P Φ L0 s⟩
def W24_l24 (P : Program) (Φ : Exit → St → Prop) (L0 : St → Prop) (s : St) : Prop :=
  @sOp (some 28) (xBin .lss false (s.τ 27) (s.τ 26) s.H) s <| .mk fun s =>
  @sIf (s.τ 28) ⟨W24_b23 P Φ L0 s⟩ ⟨Φ .normal s⟩
def W24_k25 (P : Program) (Φ : Exit → St → Prop) (s : St) : Prop :=
  @sOp (some 26) (xMov (s.τ 5) s.H) s <| .mk fun s =>
  @sOp (some 27) (xMov (.int .i64 0) s.H) s <| .mk fun s =>
  @sLoop s ⟨fun L0 s => W24_l24 P Φ L0 s⟩
def W24_b26 (P : Program) (Φ : Exit → St → Prop) (s : St) : Prop :=
  @sOp (some 22) (xFld 10 (s.τ 4) s.H) s <| .mk fun s =>
  @sOp (some 23) (xLoad 1 false (s.τ 22) s.H) s <| .mk fun s =>
  @sIf (s.τ 23) ⟨Φ .normal s⟩ ⟨W24_k25 P Φ s⟩
def W24_b27 (P : Program) (Φ : Exit → St → Prop) (s : St) : Prop :=
  @sOp (some 5) (xMov (.int .i64 2) s.H) s <| .mk fun s =>
  W24_k25 P Φ s
def W24_b28 (P : Program) (Φ : Exit → St → Prop) (s : St) : Prop :=
  @sOp (some 25) (xBin .eql false (s.τ 13) (.int .i64 10) s.H) s <| .mk fun s =>
  @sOp (some 24) (xMov (s.τ 25) s.H) s <| .mk fun s =>
  @sIf (s.τ 24) ⟨W24_b27 P Φ s⟩ ⟨W24_k25 P Φ s⟩
def W24_b29 (P : Program) (Φ : Exit → St → Prop) (s : St) : Prop :=
  @sOp (some 21) (xBin .eql false (s.τ 13) (.int .i64 8) s.H) s <| .mk fun s =>
  @sOp (some 20) (xMov (s.τ 21) s.H) s <| .mk fun s =>
  @sIf (s.τ 20) ⟨W24_b26 P Φ s⟩ ⟨W24_b28 P Φ s⟩
def W24_k30 (P : Program) (Φ : Exit → St → Prop) (s : St) : Prop :=
  @sIf (s.τ 14) ⟨Φ .normal s⟩ ⟨W24_b29 P Φ s⟩
def W24_b31 (P : Program) (Φ : Exit → St → Prop) (s : St) : Prop :=
  @sOp (some 19) (xBin .eql false (s.τ 13) (.int .i64 7) s.H) s <| .mk fun s =>
  @sOp (some 14) (xMov (s.τ 19) s.H) s <| .mk fun s =>
  W24_k30 P Φ s
def W24_b32 (P : Program) (Φ : Exit → St → Prop) (s : St) : Prop :=
  @sOp (some 18) (xBin .eql false (s.τ 13) (.int .i64 11) s.H) s <| .mk fun s =>
  @sOp (some 14) (xMov (s.τ 18) s.H) s <| .mk fun s =>
  @sIf (s.τ 14) ⟨W24_k30 P Φ s⟩ ⟨W24_b31 P Φ s⟩
def W24_b33 (P : Program) (Φ : Exit → St → Prop) (s : St) : Prop :=
  @sOp (some 17) (xBin .eql false (s.τ 13) (.int .i64 12) s.H) s <| .mk fun s =>
  @sOp (some 14) (xMov (s.τ 17) s.H) s <| .mk fun s =>
  @sIf (s.τ 14) ⟨W24_k30 P Φ s⟩ ⟨W24_b32 P Φ s⟩
def W24_b34 (P : Program) (Φ : Exit → St → Prop) (s : St) : Prop :=
  @sOp (some 16) (xBin .eql false (s.τ 13) (.int .i64 14) s.H) s <| .mk fun s =>
  @sOp (some 14) (xMov (s.τ 16) s.H) s <| .mk fun s =>
  @sIf (s.τ 14) ⟨W24_k30 P Φ s⟩ ⟨W24_b33 P Φ s⟩
def W24_r35 (P : Program) (Φ : Exit → St → Prop) (s : St) : Prop :=
  @sOp (some 4) (xAlloc 4 83 [.int .i64 0, .int .i64 0, .int .i64 0, .str ⟨#[]⟩, .int .i64 0, .int .i64 0, .str ⟨#[]⟩, .nils, .nils, .nils, .bool false] s.H) s <| .mk fun s =>
  @sOp none (xStore 11 (s.τ 4) (s.τ 10) s.H) s <| .mk fun s =>
  @sOp (some 5) (xMov (.int .i64 1) s.H) s <| .mk fun s =>
  @sOp (some 11) (xFld 0 (s.τ 4) s.H) s <| .mk fun s =>
  @sOp (some 12) (xFld 0 (s.τ 11) s.H) s <| .mk fun s =>
  @sOp (some 13) (xLoad 1 false (s.τ 12) s.H) s <| .mk fun s =>
  @sOp (some 15) (xBin .eql false (s.τ 13) (.int .i64 0) s.H) s <| .mk fun s =>
  @sOp (some 14) (xMov (s.τ 15) s.H) s <| .mk fun s =>
  @sIf (s.τ 14) ⟨W24_k30 P Φ s⟩ ⟨W24_b34 P Φ s⟩
def W24_c36 (P : Program) (Φ : Exit → St → Prop) (J0 : Nat → St → Prop) (s : St) : Prop :=
  @sRange P (s.τ 9) [10] s ⟨fun Φ s => W24_r35 P Φ s⟩ ⟨(blkK 0 (thenK (W24_k21 P Φ J0) (gotoK J0 Φ)))⟩
def W24_c37 (P : Program) (Φ : Exit → St → Prop) (J0 : Nat → St → Prop) (s : St) : Prop :=
  @sCall P (.func 48 []) [(s.τ 8)] (some 9) s ⟨W24_c36 P Φ J0⟩
def W24_g38 (P : Program) (Φ : Exit → St → Prop) (J0 : Nat → St → Prop) (s : St) : Prop :=
  @sOp (some 7) (xLoad 9 true (s.τ 1) s.H) s <| .mk fun s =>
  @sCall P (.func 40 []) [(s.τ 7)] (some 8) s ⟨W24_c37 P Φ J0⟩
def W24 (P : Program) (Φ : Exit → St → Prop) (s : St) : Prop :=
  @sOp (some 1) (xBox 1 34 (s.τ 0) s.H) s <| .mk fun s =>
  @sOp (some 2) (xMov (.nils) s.H) s <| .mk fun s =>
  @sScope s ⟨fun J0 s => W24_s19 P Φ J0 s⟩ ⟨[(0, fun J0 s => W24_g38 P Φ J0 s)]⟩
theorem W24_rs (τ : Nat → AV) (H : Heap) : resV Try.prog τ H [.tmp 2] = some (τ 2) := by kernel_rfl
theorem W24_eq (Φ : Exit → St → Prop) (s : St) : awp Try.prog (Try.f24.body.getD .skip) Φ s = W24 Try.prog Φ s := by kernel_rfl

-- 25 "penance/penancelaw7.at"
def W25_k1 (P : Program) (Φ : Exit → St → Prop) (s : St) : Prop :=
  @sOp (some 36) (xLoad 9 true (s.τ 2) s.H) s <| .mk fun s =>
  @sOp none (xStore 9 (s.τ 4) (s.τ 36) s.H) s <| .mk fun s =>
  @sOp (some 5) (xMov (.bool true) s.H) s <| .mk fun s =>
  Φ .ret s
def W25_b2 (P : Program) (Φ : Exit → St → Prop) (L0 : St → Prop) (s : St) : Prop :=
  @sOp (some 27) (xLoad 9 true (s.τ 2) s.H) s <| .mk fun s =>
  @sOp none (xStore 9 (s.τ 4) (s.τ 27) s.H) s <| .mk fun s =>
  @sOp (some 5) (xMov (.bool false) s.H) s <| .mk fun s =>
  Φ .ret s
def W25_b3 (P : Program) (Φ : Exit → St → Prop) (L0 : St → Prop) (s : St) : Prop :=
  @sOp (some 28) (xFld 8 (s.τ 2) s.H) s <| .mk fun s =>
  @sOp (some 29) (xLoad 1 false (s.τ 28) s.H) s <| .mk fun s =>
  @sOp (some 30) (xMov (s.τ 1) s.H) s <| .mk fun s =>
  @sOp (some 31) (xMov (s.τ 6) s.H) s <| .mk fun s =>
  @sOp (some 32) (xIx 1 (s.τ 30) (s.τ 31) s.H) s <| .mk fun s =>
  @sOp (some 33) (xLoad 1 false (s.τ 32) s.H) s <| .mk fun s =>
  @sOp (some 34) (xIx 9 (s.τ 29) (s.τ 33) s.H) s <| .mk fun s =>
  @sOp (some 35) (xLoad 9 true (s.τ 34) s.H) s <| .mk fun s =>
  @sOp none (xStore 9 (s.τ 2) (s.τ 35) s.H) s <| .mk fun s =>
  @sOp (some 11) (xMov (s.τ 6) s.H) s <| .mk fun s =>
  @sOp (some 12) (xBin .add false (s.τ 11) (.int .i64 1) s.H) s <| .mk fun s =>
  @sOp (some 6) (xMov (s.τ 12) s.H) s <| .mk fun s =>
  L0 s
def W25_c4 (P : Program) (Φ : Exit → St → Prop) (L0 : St → Prop) (s : St) : Prop :=
  @sOp (some 26) (xPick (s.τ 18) (.bool true) (s.τ 25) s.H) s <| .mk fun s =>
  @sIf (s.τ 26) ⟨W25_b2 P Φ L0 s⟩ ⟨W25_b3 P Φ L0 s⟩
def W25_c5 (P : Program) (Φ : Exit → St → Prop) (L0 : St → Prop) (s : St) : Prop :=
  @sGrd (guardOf (s.τ 18) false) (some 25) s ⟨fun s K => @sOp (some 25) (xBin .geq false (s.τ 22) (s.τ 24) s.H) s ⟨K⟩⟩ ⟨W25_c4 P Φ L0⟩
def W25_c6 (P : Program) (Φ : Exit → St → Prop) (L0 : St → Prop) (u8 : St) (u9 : St) (s : St) : Prop :=
  @sChk (compat (occ (u8.τ 19), []) ([24] ++ (occ (.func 26 []) ++ occL [(s.τ 23)]), [24] ++ (occ (.func 26 []) ++ occL [(s.τ 23)]))) <| .mk <|
  @sChk (compat (occ (u9.τ 21), []) ([24] ++ (occ (.func 26 []) ++ occL [(s.τ 23)]), [24] ++ (occ (.func 26 []) ++ occL [(s.τ 23)]))) <| .mk <|
  @sGrd (guardOf (s.τ 18) false) (some 24) s ⟨fun s K => @sCall0 P (.func 26 []) [(s.τ 23)] (some 24) s ⟨K⟩⟩ ⟨W25_c5 P Φ L0⟩
def W25_c7 (P : Program) (Φ : Exit → St → Prop) (L0 : St → Prop) (u8 : St) (u9 : St) (s : St) : Prop :=
  @sGrd (guardOf (s.τ 18) false) (some 23) s ⟨fun s K => @sOp (some 23) (xLoad 9 true (s.τ 2) s.H) s ⟨K⟩⟩ ⟨W25_c6 P Φ L0 u8 u9⟩
def W25_c8 (P : Program) (Φ : Exit → St → Prop) (L0 : St → Prop) (u8 : St) (s : St) : Prop :=
  @sGrd (guardOf (s.τ 18) false) (some 22) s ⟨fun s K => @sOp (some 22) (xLoad 1 false (s.τ 21) s.H) s ⟨K⟩⟩ ⟨W25_c7 P Φ L0 u8 s⟩
def W25_c9 (P : Program) (Φ : Exit → St → Prop) (L0 : St → Prop) (s : St) : Prop :=
  @sGrd (guardOf (s.τ 18) false) (some 21) s ⟨fun s K => @sOp (some 21) (xIx 1 (s.τ 19) (s.τ 20) s.H) s ⟨K⟩⟩ ⟨W25_c8 P Φ L0 s⟩
def W25_c10 (P : Program) (Φ : Exit → St → Prop) (L0 : St → Prop) (s : St) : Prop :=
  @sGrd (guardOf (s.τ 18) false) (some 20) s ⟨fun s K => @sOp (some 20) (xMov (s.τ 6) s.H) s ⟨K⟩⟩ ⟨W25_c9 P Φ L0⟩
def W25_b11 (P : Program) (Φ : Exit → St → Prop) (L0 : St → Prop) (s : St) : Prop :=
  @sOp (some 13) (xMov (s.τ 1) s.H) s <| .mk fun u1 =>
  @sOp (some 14) (xMov (u1.τ 6) u1.H) u1 <| .mk fun u2 =>
  @sOp (some 15) (xIx 1 (u2.τ 13) (u2.τ 14) u2.H) u2 <| .mk fun u3 =>
  @sOp (some 16) (xLoad 1 false (u3.τ 15) u3.H) u3 <| .mk fun u4 =>
  @sOp (some 17) (xBin .lss false (u4.τ 16) (.int .i64 0) u4.H) u4 <| .mk fun u5 =>
  @sOp (some 18) (xMov (u5.τ 17) u5.H) u5 <| .mk fun u6 =>
  @sGrd (guardOf (u6.τ 18) false) (some 19) u6 ⟨fun s K => @sOp (some 19) (xMov (s.τ 1) s.H) s ⟨K⟩⟩ ⟨W25_c10 P Φ L0⟩
def W25_l12 (P : Program) (Φ : Exit → St → Prop) (L0 : St → Prop) (s : St) : Prop :=
  @sOp (some 7) (xMov (s.τ 6) s.H) s <| .mk fun s =>
  @sOp (some 8) (xMov (s.τ 1) s.H) s <| .mk fun s =>
  @sOp (some 9) (xLen (s.τ 8) s.H) s <| .mk fun s =>
  @sOp (some 10) (xBin .lss false (s.τ 7) (s.τ 9) s.H) s <| .mk fun s =>
  @sIf (s.τ 10) ⟨W25_b11 P Φ L0 s⟩ ⟨W25_k1 P Φ s⟩
def W25 (P : Program) (Φ : Exit → St → Prop) (s : St) : Prop :=
  @sOp (some 2) (xBox 2 34 (s.τ 0) s.H) s <| .mk fun s =>
  @sOp (some 4) (xAlloc 4 34 [.int .i64 0, .int .i64 0, .int .i64 0, .str ⟨#[]⟩, .int .i64 0, .int .i64 0, .str ⟨#[]⟩, .nils, .nils] s.H) s <| .mk fun s =>
  @sOp (some 5) (xMov (.bool false) s.H) s <| .mk fun s =>
  @sOp (some 6) (xMov (.int .i64 0) s.H) s <| .mk fun s =>
  @sLoop s ⟨fun L0 s => W25_l12 P Φ L0 s⟩
theorem W25_rs (τ : Nat → AV) (H : Heap) : resV Try.prog τ H [.cell 4 34, .tmp 5] = ob (ob (rdV H 9 true (τ 4)) fun v => ob (ob (some (τ 5)) fun v => ob (some []) fun vs => some (v :: vs)) fun vs => some (v :: vs)) fun vs => some (.tup vs) := by kernel_rfl
theorem W25_eq (Φ : Exit → St → Prop) (s : St) : awp Try.prog (Try.f25.body.getD .skip) Φ s = W25 Try.prog Φ s := by kernel_rfl

-- 26 "penance/penanceref5.Active"
def W26_b1 (P : Program) (Φ : Exit → St → Prop) (s : St) : Prop :=
  @sOp (some 2) (xMov (.int .i64 1) s.H) s <| .mk fun s =>
  Φ .ret s
def W26_b2 (P : Program) (Φ : Exit → St → Prop) (s : St) : Prop :=
  @sOp (some 2) (xMov (.int .i64 2) s.H) s <| .mk fun s =>
  Φ .ret s
def W26_b3 (P : Program) (Φ : Exit → St → Prop) (s : St) : Prop :=
  @sOp (some 2) (xMov (.int .i64 0) s.H) s <| .mk fun s =>
  Φ .ret s
def W26_b4 (P : Program) (Φ : Exit → St → Prop) (s : St) : Prop :=
  @sOp (some 9) (xBin .eql false (s.τ 4) (.int .i64 11) s.H) s <| .mk fun s =>
  @sOp (some 8) (xMov (s.τ 9) s.H) s <| .mk fun s =>
  @sIf (s.τ 8) ⟨W26_b2 P Φ s⟩ ⟨W26_b3 P Φ s⟩
def W26_k5 (P : Program) (Φ : Exit → St → Prop) (s : St) : Prop :=
  @sIf (s.τ 5) ⟨W26_b1 P Φ s⟩ ⟨W26_b4 P Φ s⟩
def W26_b6 (P : Program) (Φ : Exit → St → Prop) (s : St) : Prop :=
  @sOp (some 7) (xBin .eql false (s.τ 4) (.int .i64 7) s.H) s <| .mk fun s =>
  @sOp (some 5) (xMov (s.τ 7) s.H) s <| .mk fun s =>
  W26_k5 P Φ s
def W26 (P : Program) (Φ : Exit → St → Prop) (s : St) : Prop :=
  @sOp (some 1) (xBox 1 34 (s.τ 0) s.H) s <| .mk fun s =>
  @sOp (some 2) (xMov (.int .i64 0) s.H) s <| .mk fun s =>
  @sOp (some 3) (xFld 0 (s.τ 1) s.H) s <| .mk fun s =>
  @sOp (some 4) (xLoad 1 false (s.τ 3) s.H) s <| .mk fun s =>
  @sOp (some 6) (xBin .eql false (s.τ 4) (.int .i64 12) s.H) s <| .mk fun s =>
  @sOp (some 5) (xMov (s.τ 6) s.H) s <| .mk fun s =>
  @sIf (s.τ 5) ⟨W26_k5 P Φ s⟩ ⟨W26_b6 P Φ s⟩
theorem W26_rs (τ : Nat → AV) (H : Heap) : resV Try.prog τ H [.tmp 2] = some (τ 2) := by kernel_rfl
theorem W26_eq (Φ : Exit → St → Prop) (s : St) : awp Try.prog (Try.f26.body.getD .skip) Φ s = W26 Try.prog Φ s := by kernel_rfl

-- 27 "penance/penanceref1.Ints"
def W27_b1 (P : Program) (Φ : Exit → St → Prop) (s : St) : Prop :=
  @sOp (some 4) (xMov (.bool false) s.H) s <| .mk fun s =>
  Φ .ret s
def W27_k2 (P : Program) (Φ : Exit → St → Prop) (s : St) : Prop :=
  @sOp (some 4) (xMov (.bool true) s.H) s <| .mk fun s =>
  Φ .ret s
def W27_b3 (P : Program) (Φ : Exit → St → Prop) (L0 : St → Prop) (s : St) : Prop :=
  @sOp (some 4) (xMov (.bool false) s.H) s <| .mk fun s =>
  Φ .ret s
def W27_b4 (P : Program) (Φ : Exit → St → Prop) (L0 : St → Prop) (s : St) : Prop :=
  @sOp (some 15) (xMov (s.τ 5) s.H) s <| .mk fun s =>
  @sOp (some 16) (xBin .add false (s.τ 15) (.int .i64 1) s.H) s <| .mk fun s =>
  @sOp (some 5) (xMov (s.τ 16) s.H) s <| .mk fun s =>
  L0 s
def W27_b5 (P : Program) (Φ : Exit → St → Prop) (L0 : St → Prop) (s : St) : Prop :=
  @sOp (some 17) (xMov (s.τ 0) s.H) s <| .mk fun s =>
  @sOp (some 18) (xMov (s.τ 5) s.H) s <| .mk fun s =>
  @sOp (some 19) (xIx 1 (s.τ 17) (s.τ 18) s.H) s <| .mk fun s =>
  @sOp (some 20) (xLoad 1 false (s.τ 19) s.H) s <| .mk fun s =>
  @sOp (some 21) (xMov (s.τ 1) s.H) s <| .mk fun s =>
  @sOp (some 22) (xMov (s.τ 5) s.H) s <| .mk fun s =>
  @sOp (some 23) (xIx 1 (s.τ 21) (s.τ 22) s.H) s <| .mk fun s =>
  @sOp (some 24) (xLoad 1 false (s.τ 23) s.H) s <| .mk fun s =>
  @sOp (some 25) (xBin .neq false (s.τ 20) (s.τ 24) s.H) s <| .mk fun s =>
  @sIf (s.τ 25) ⟨W27_b3 P Φ L0 s⟩ ⟨W27_b4 P Φ L0 s⟩
def W27_l6 (P : Program) (Φ : Exit → St → Prop) (L0 : St → Prop) (s : St) : Prop :=
  @sOp (some 11) (xMov (s.τ 5) s.H) s <| .mk fun s =>
  @sOp (some 12) (xMov (s.τ 0) s.H) s <| .mk fun s =>
  @sOp (some 13) (xLen (s.τ 12) s.H) s <| .mk fun s =>
  @sOp (some 14) (xBin .lss false (s.τ 11) (s.τ 13) s.H) s <| .mk fun s =>
  @sIf (s.τ 14) ⟨W27_b5 P Φ L0 s⟩ ⟨W27_k2 P Φ s⟩
def W27_b7 (P : Program) (Φ : Exit → St → Prop) (s : St) : Prop :=
  @sOp (some 5) (xMov (.int .i64 0) s.H) s <| .mk fun s =>
  @sLoop s ⟨fun L0 s => W27_l6 P Φ L0 s⟩
def W27 (P : Program) (Φ : Exit → St → Prop) (s : St) : Prop :=
  @sOp (some 4) (xMov (.bool false) s.H) s <| .mk fun s =>
  @sOp (some 6) (xMov (s.τ 0) s.H) s <| .mk fun s =>
  @sOp (some 7) (xLen (s.τ 6) s.H) s <| .mk fun s =>
  @sOp (some 8) (xMov (s.τ 1) s.H) s <| .mk fun s =>
  @sOp (some 9) (xLen (s.τ 8) s.H) s <| .mk fun s =>
  @sOp (some 10) (xBin .neq false (s.τ 7) (s.τ 9) s.H) s <| .mk fun s =>
  @sIf (s.τ 10) ⟨W27_b1 P Φ s⟩ ⟨W27_b7 P Φ s⟩
theorem W27_rs (τ : Nat → AV) (H : Heap) : resV Try.prog τ H [.tmp 4] = some (τ 4) := by kernel_rfl
theorem W27_eq (Φ : Exit → St → Prop) (s : St) : awp Try.prog (Try.f27.body.getD .skip) Φ s = W27 Try.prog Φ s := by kernel_rfl

-- 28 "penance/penanceref7.Same"
def W28_b1 (P : Program) (Φ : Exit → St → Prop) (s : St) : Prop :=
  @sOp (some 4) (xMov (.bool false) s.H) s <| .mk fun s =>
  Φ .ret s
def W28_k2 (P : Program) (Φ : Exit → St → Prop) (s : St) : Prop :=
  @sOp (some 4) (xMov (.bool true) s.H) s <| .mk fun s =>
  Φ .ret s
def W28_b3 (P : Program) (Φ : Exit → St → Prop) (L0 : St → Prop) (s : St) : Prop :=
  @sOp (some 4) (xMov (.bool false) s.H) s <| .mk fun s =>
  Φ .ret s
def W28_b4 (P : Program) (Φ : Exit → St → Prop) (L0 : St → Prop) (s : St) : Prop :=
  @sOp (some 15) (xMov (s.τ 5) s.H) s <| .mk fun s =>
  @sOp (some 16) (xBin .add false (s.τ 15) (.int .i64 1) s.H) s <| .mk fun s =>
  @sOp (some 5) (xMov (s.τ 16) s.H) s <| .mk fun s =>
  L0 s
def W28_c5 (P : Program) (Φ : Exit → St → Prop) (L0 : St → Prop) (s : St) : Prop :=
  @sOp (some 54) (xPick (s.τ 41) (.bool true) (s.τ 53) s.H) s <| .mk fun s =>
  @sIf (s.τ 54) ⟨W28_b3 P Φ L0 s⟩ ⟨W28_b4 P Φ L0 s⟩
def W28_c6 (P : Program) (Φ : Exit → St → Prop) (L0 : St → Prop) (s : St) : Prop :=
  @sGrd (guardOf (s.τ 41) false) (some 53) s ⟨fun s K => @sOp (some 53) (xNot (s.τ 52) s.H) s ⟨K⟩⟩ ⟨W28_c5 P Φ L0⟩
def W28_c7 (P : Program) (Φ : Exit → St → Prop) (L0 : St → Prop) (s : St) : Prop :=
  @sGrd (guardOf (s.τ 41) false) (some 52) s ⟨fun s K => @sCall0 P (.func 27 []) [(s.τ 46), (s.τ 51)] (some 52) s ⟨K⟩⟩ ⟨W28_c6 P Φ L0⟩
def W28_c8 (P : Program) (Φ : Exit → St → Prop) (L0 : St → Prop) (s : St) : Prop :=
  @sGrd (guardOf (s.τ 41) false) (some 51) s ⟨fun s K => @sOp (some 51) (xLoad 1 false (s.τ 50) s.H) s ⟨K⟩⟩ ⟨W28_c7 P Φ L0⟩
def W28_c9 (P : Program) (Φ : Exit → St → Prop) (L0 : St → Prop) (s : St) : Prop :=
  @sGrd (guardOf (s.τ 41) false) (some 50) s ⟨fun s K => @sOp (some 50) (xFld 1 (s.τ 49) s.H) s ⟨K⟩⟩ ⟨W28_c8 P Φ L0⟩
def W28_c10 (P : Program) (Φ : Exit → St → Prop) (L0 : St → Prop) (s : St) : Prop :=
  @sGrd (guardOf (s.τ 41) false) (some 49) s ⟨fun s K => @sOp (some 49) (xIx 3 (s.τ 47) (s.τ 48) s.H) s ⟨K⟩⟩ ⟨W28_c9 P Φ L0⟩
def W28_c11 (P : Program) (Φ : Exit → St → Prop) (L0 : St → Prop) (s : St) : Prop :=
  @sGrd (guardOf (s.τ 41) false) (some 48) s ⟨fun s K => @sOp (some 48) (xMov (s.τ 5) s.H) s ⟨K⟩⟩ ⟨W28_c10 P Φ L0⟩
def W28_c12 (P : Program) (Φ : Exit → St → Prop) (L0 : St → Prop) (s : St) : Prop :=
  @sGrd (guardOf (s.τ 41) false) (some 47) s ⟨fun s K => @sOp (some 47) (xMov (s.τ 1) s.H) s ⟨K⟩⟩ ⟨W28_c11 P Φ L0⟩
def W28_c13 (P : Program) (Φ : Exit → St → Prop) (L0 : St → Prop) (s : St) : Prop :=
  @sGrd (guardOf (s.τ 41) false) (some 46) s ⟨fun s K => @sOp (some 46) (xLoad 1 false (s.τ 45) s.H) s ⟨K⟩⟩ ⟨W28_c12 P Φ L0⟩
def W28_c14 (P : Program) (Φ : Exit → St → Prop) (L0 : St → Prop) (s : St) : Prop :=
  @sGrd (guardOf (s.τ 41) false) (some 45) s ⟨fun s K => @sOp (some 45) (xFld 1 (s.τ 44) s.H) s ⟨K⟩⟩ ⟨W28_c13 P Φ L0⟩
def W28_c15 (P : Program) (Φ : Exit → St → Prop) (L0 : St → Prop) (s : St) : Prop :=
  @sGrd (guardOf (s.τ 41) false) (some 44) s ⟨fun s K => @sOp (some 44) (xIx 3 (s.τ 42) (s.τ 43) s.H) s ⟨K⟩⟩ ⟨W28_c14 P Φ L0⟩
def W28_c16 (P : Program) (Φ : Exit → St → Prop) (L0 : St → Prop) (s : St) : Prop :=
  @sGrd (guardOf (s.τ 41) false) (some 43) s ⟨fun s K => @sOp (some 43) (xMov (s.τ 5) s.H) s ⟨K⟩⟩ ⟨W28_c15 P Φ L0⟩
def W28_c17 (P : Program) (Φ : Exit → St → Prop) (L0 : St → Prop) (s : St) : Prop :=
  @sOp (some 40) (xPick (s.τ 28) (.bool true) (s.τ 39) s.H) s <| .mk fun s =>
  @sOp (some 41) (xMov (s.τ 40) s.H) s <| .mk fun s =>
  @sGrd (guardOf (s.τ 41) false) (some 42) s ⟨fun s K => @sOp (some 42) (xMov (s.τ 0) s.H) s ⟨K⟩⟩ ⟨W28_c16 P Φ L0⟩
def W28_c18 (P : Program) (Φ : Exit → St → Prop) (L0 : St → Prop) (s : St) : Prop :=
  @sGrd (guardOf (s.τ 28) false) (some 39) s ⟨fun s K => @sOp (some 39) (xBin .neq false (s.τ 33) (s.τ 38) s.H) s ⟨K⟩⟩ ⟨W28_c17 P Φ L0⟩
def W28_c19 (P : Program) (Φ : Exit → St → Prop) (L0 : St → Prop) (s : St) : Prop :=
  @sGrd (guardOf (s.τ 28) false) (some 38) s ⟨fun s K => @sOp (some 38) (xLoad 1 false (s.τ 37) s.H) s ⟨K⟩⟩ ⟨W28_c18 P Φ L0⟩
def W28_c20 (P : Program) (Φ : Exit → St → Prop) (L0 : St → Prop) (s : St) : Prop :=
  @sGrd (guardOf (s.τ 28) false) (some 37) s ⟨fun s K => @sOp (some 37) (xFld 2 (s.τ 36) s.H) s ⟨K⟩⟩ ⟨W28_c19 P Φ L0⟩
def W28_c21 (P : Program) (Φ : Exit → St → Prop) (L0 : St → Prop) (s : St) : Prop :=
  @sGrd (guardOf (s.τ 28) false) (some 36) s ⟨fun s K => @sOp (some 36) (xIx 3 (s.τ 34) (s.τ 35) s.H) s ⟨K⟩⟩ ⟨W28_c20 P Φ L0⟩
def W28_c22 (P : Program) (Φ : Exit → St → Prop) (L0 : St → Prop) (s : St) : Prop :=
  @sGrd (guardOf (s.τ 28) false) (some 35) s ⟨fun s K => @sOp (some 35) (xMov (s.τ 5) s.H) s ⟨K⟩⟩ ⟨W28_c21 P Φ L0⟩
def W28_c23 (P : Program) (Φ : Exit → St → Prop) (L0 : St → Prop) (s : St) : Prop :=
  @sGrd (guardOf (s.τ 28) false) (some 34) s ⟨fun s K => @sOp (some 34) (xMov (s.τ 1) s.H) s ⟨K⟩⟩ ⟨W28_c22 P Φ L0⟩
def W28_c24 (P : Program) (Φ : Exit → St → Prop) (L0 : St → Prop) (s : St) : Prop :=
  @sGrd (guardOf (s.τ 28) false) (some 33) s ⟨fun s K => @sOp (some 33) (xLoad 1 false (s.τ 32) s.H) s ⟨K⟩⟩ ⟨W28_c23 P Φ L0⟩
def W28_c25 (P : Program) (Φ : Exit → St → Prop) (L0 : St → Prop) (s : St) : Prop :=
  @sGrd (guardOf (s.τ 28) false) (some 32) s ⟨fun s K => @sOp (some 32) (xFld 2 (s.τ 31) s.H) s ⟨K⟩⟩ ⟨W28_c24 P Φ L0⟩
def W28_c26 (P : Program) (Φ : Exit → St → Prop) (L0 : St → Prop) (s : St) : Prop :=
  @sGrd (guardOf (s.τ 28) false) (some 31) s ⟨fun s K => @sOp (some 31) (xIx 3 (s.τ 29) (s.τ 30) s.H) s ⟨K⟩⟩ ⟨W28_c25 P Φ L0⟩
def W28_c27 (P : Program) (Φ : Exit → St → Prop) (L0 : St → Prop) (s : St) : Prop :=
  @sGrd (guardOf (s.τ 28) false) (some 30) s ⟨fun s K => @sOp (some 30) (xMov (s.τ 5) s.H) s ⟨K⟩⟩ ⟨W28_c26 P Φ L0⟩
def W28_b28 (P : Program) (Φ : Exit → St → Prop) (L0 : St → Prop) (s : St) : Prop :=
  @sOp (some 17) (xMov (s.τ 0) s.H) s <| .mk fun s =>
  @sOp (some 18) (xMov (s.τ 5) s.H) s <| .mk fun s =>
  @sOp (some 19) (xIx 3 (s.τ 17) (s.τ 18) s.H) s <| .mk fun s =>
  @sOp (some 20) (xFld 0 (s.τ 19) s.H) s <| .mk fun s =>
  @sOp (some 21) (xLoad 1 false (s.τ 20) s.H) s <| .mk fun s =>
  @sOp (some 22) (xMov (s.τ 1) s.H) s <| .mk fun s =>
  @sOp (some 23) (xMov (s.τ 5) s.H) s <| .mk fun s =>
  @sOp (some 24) (xIx 3 (s.τ 22) (s.τ 23) s.H) s <| .mk fun s =>
  @sOp (some 25) (xFld 0 (s.τ 24) s.H) s <| .mk fun s =>
  @sOp (some 26) (xLoad 1 false (s.τ 25) s.H) s <| .mk fun s =>
  @sOp (some 27) (xBin .neq false (s.τ 21) (s.τ 26) s.H) s <| .mk fun s =>
  @sOp (some 28) (xMov (s.τ 27) s.H) s <| .mk fun s =>
  @sGrd (guardOf (s.τ 28) false) (some 29) s ⟨fun s K => @sOp (some 29) (xMov (s.τ 0) s.H) s ⟨K⟩⟩ ⟨W28_c27 P Φ L0⟩
def W28_l29 (P : Program) (Φ : Exit → St → Prop) (L0 : St → Prop) (s : St) : Prop :=
  @sOp (some 11) (xMov (s.τ 5) s.H) s <| .mk fun s =>
  @sOp (some 12) (xMov (s.τ 0) s.H) s <| .mk fun s =>
  @sOp (some 13) (xLen (s.τ 12) s.H) s <| .mk fun s =>
  @sOp (some 14) (xBin .lss false (s.τ 11) (s.τ 13) s.H) s <| .mk fun s =>
  @sIf (s.τ 14) ⟨W28_b28 P Φ L0 s⟩ ⟨W28_k2 P Φ s⟩
def W28_b30 (P : Program) (Φ : Exit → St → Prop) (s : St) : Prop :=
  @sOp (some 5) (xMov (.int .i64 0) s.H) s <| .mk fun s =>
  @sLoop s ⟨fun L0 s => W28_l29 P Φ L0 s⟩
def W28 (P : Program) (Φ : Exit → St → Prop) (s : St) : Prop :=
  @sOp (some 4) (xMov (.bool false) s.H) s <| .mk fun s =>
  @sOp (some 6) (xMov (s.τ 0) s.H) s <| .mk fun s =>
  @sOp (some 7) (xLen (s.τ 6) s.H) s <| .mk fun s =>
  @sOp (some 8) (xMov (s.τ 1) s.H) s <| .mk fun s =>
  @sOp (some 9) (xLen (s.τ 8) s.H) s <| .mk fun s =>
  @sOp (some 10) (xBin .neq false (s.τ 7) (s.τ 9) s.H) s <| .mk fun s =>
  @sIf (s.τ 10) ⟨W28_b1 P Φ s⟩ ⟨W28_b30 P Φ s⟩
theorem W28_rs (τ : Nat → AV) (H : Heap) : resV Try.prog τ H [.tmp 4] = some (τ 4) := by kernel_rfl
theorem W28_eq (Φ : Exit → St → Prop) (s : St) : awp Try.prog (Try.f28.body.getD .skip) Φ s = W28 Try.prog Φ s := by kernel_rfl

-- 29 "penance/penancelaw7.within"
def W29_k1 (P : Program) (Φ : Exit → St → Prop) (s : St) : Prop :=
  @sOp (some 14) (xMov (s.τ 5) s.H) s <| .mk fun s =>
  @sOp (some 4) (xMov (s.τ 14) s.H) s <| .mk fun s =>
  Φ .ret s
def W29_b2 (P : Program) (Φ : Exit → St → Prop) (s : St) : Prop :=
  @sOp (some 11) (xMov (s.τ 5) s.H) s <| .mk fun s =>
  @sOp (some 12) (xMov (s.τ 1) s.H) s <| .mk fun s =>
  @sOp (some 13) (xBin .add false (s.τ 11) (s.τ 12) s.H) s <| .mk fun s =>
  @sOp (some 5) (xMov (s.τ 13) s.H) s <| .mk fun s =>
  W29_k1 P Φ s
def W29 (P : Program) (Φ : Exit → St → Prop) (s : St) : Prop :=
  @sOp (some 4) (xMov (.int .i64 0) s.H) s <| .mk fun s =>
  @sOp (some 6) (xMov (s.τ 0) s.H) s <| .mk fun s =>
  @sOp (some 7) (xMov (s.τ 1) s.H) s <| .mk fun s =>
  @sOp (some 8) (xBin .rem false (s.τ 6) (s.τ 7) s.H) s <| .mk fun s =>
  @sOp (some 5) (xMov (s.τ 8) s.H) s <| .mk fun s =>
  @sOp (some 9) (xMov (s.τ 5) s.H) s <| .mk fun s =>
  @sOp (some 10) (xBin .lss false (s.τ 9) (.int .i64 0) s.H) s <| .mk fun s =>
  @sIf (s.τ 10) ⟨W29_b2 P Φ s⟩ ⟨W29_k1 P Φ s⟩
theorem W29_rs (τ : Nat → AV) (H : Heap) : resV Try.prog τ H [.tmp 4] = some (τ 4) := by kernel_rfl
theorem W29_eq (Φ : Exit → St → Prop) (s : St) : awp Try.prog (Try.f29.body.getD .skip) Φ s = W29 Try.prog Φ s := by kernel_rfl

-- 30 "penance/steps.Status"
def W30_b1 (P : Program) (Φ : Exit → St → Prop) (s : St) : Prop :=
  @sOp (some 2) (xMov (.int .i64 2) s.H) s <| .mk fun s =>
  Φ .ret s
def W30_b2 (P : Program) (Φ : Exit → St → Prop) (s : St) : Prop :=
  @sOp (some 2) (xMov (.int .i64 0) s.H) s <| .mk fun s =>
  Φ .ret s
def W30_b3 (P : Program) (Φ : Exit → St → Prop) (s : St) : Prop :=
  @sOp (some 2) (xMov (.int .i64 1) s.H) s <| .mk fun s =>
  Φ .ret s
def W30_c4 (P : Program) (Φ : Exit → St → Prop) (s : St) : Prop :=
  @sOp (some 11) (xLen (s.τ 10) s.H) s <| .mk fun s =>
  @sOp (some 12) (xBin .gtr false (s.τ 11) (.int .i64 0) s.H) s <| .mk fun s =>
  @sOp (some 8) (xMov (s.τ 12) s.H) s <| .mk fun s =>
  @sIf (s.τ 8) ⟨W30_b2 P Φ s⟩ ⟨W30_b3 P Φ s⟩
def W30_b5 (P : Program) (Φ : Exit → St → Prop) (s : St) : Prop :=
  @sOp (some 9) (xLoad 9 true (s.τ 1) s.H) s <| .mk fun s =>
  @sCall P (.func 24 []) [(s.τ 9)] (some 10) s ⟨W30_c4 P Φ⟩
def W30_c6 (P : Program) (Φ : Exit → St → Prop) (s : St) : Prop :=
  @sOp (some 6) (xField 0 1 false (s.τ 5) s.H) s <| .mk fun s =>
  @sOp (some 7) (xBin .eql false (s.τ 6) (.int .i64 0) s.H) s <| .mk fun s =>
  @sOp (some 3) (xMov (s.τ 7) s.H) s <| .mk fun s =>
  @sIf (s.τ 3) ⟨W30_b1 P Φ s⟩ ⟨W30_b5 P Φ s⟩
def W30 (P : Program) (Φ : Exit → St → Prop) (s : St) : Prop :=
  @sOp (some 1) (xBox 1 34 (s.τ 0) s.H) s <| .mk fun s =>
  @sOp (some 2) (xMov (.int .i64 0) s.H) s <| .mk fun s =>
  @sOp (some 4) (xLoad 9 true (s.τ 1) s.H) s <| .mk fun s =>
  @sCall P (.func 40 []) [(s.τ 4)] (some 5) s ⟨W30_c6 P Φ⟩
theorem W30_rs (τ : Nat → AV) (H : Heap) : resV Try.prog τ H [.tmp 2] = some (τ 2) := by kernel_rfl
theorem W30_eq (Φ : Exit → St → Prop) (s : St) : awp Try.prog (Try.f30.body.getD .skip) Φ s = W30 Try.prog Φ s := by kernel_rfl

-- 31 "penance/penanceref5.Waits"
def W31_b1 (P : Program) (Φ : Exit → St → Prop) (s : St) : Prop :=
  @sOp (some 8) (xFld 1 (s.τ 1) s.H) s <| .mk fun s =>
  @sOp (some 9) (xLoad 1 false (s.τ 8) s.H) s <| .mk fun s =>
  @sOp (some 10) (xLit 1 1 [.int .i64 0] [(0, (s.τ 9))] s.H) s <| .mk fun s =>
  @sOp (some 2) (xMov (s.τ 10) s.H) s <| .mk fun s =>
  Φ .ret s
def W31_k2 (P : Program) (Φ : Exit → St → Prop) (s : St) : Prop :=
  @sOp (some 25) (xMov (s.τ 3) s.H) s <| .mk fun s =>
  @sOp (some 2) (xMov (s.τ 25) s.H) s <| .mk fun s =>
  Φ .ret s
def W31_c3 (P : Program) (Φ : Exit → St → Prop) (L0 : St → Prop) (s : St) : Prop :=
  @sOp (some 24) (xApp P 3 1 8 (some 24) (s.τ 17) (s.τ 23) s.H) s <| .mk fun s =>
  @sOp (some 3) (xMov (s.τ 24) s.H) s <| .mk fun s =>
  @sOp (some 15) (xMov (s.τ 4) s.H) s <| .mk fun s =>
  @sOp (some 16) (xBin .add false (s.τ 15) (.int .i64 1) s.H) s <| .mk fun s =>
  @sOp (some 4) (xMov (s.τ 16) s.H) s <| .mk fun s =>
  L0 s
def W31_b4 (P : Program) (Φ : Exit → St → Prop) (L0 : St → Prop) (s : St) : Prop :=
  @sOp (some 17) (xMov (s.τ 3) s.H) s <| .mk fun s =>
  @sOp (some 18) (xFld 8 (s.τ 1) s.H) s <| .mk fun s =>
  @sOp (some 19) (xLoad 1 false (s.τ 18) s.H) s <| .mk fun s =>
  @sOp (some 20) (xMov (s.τ 4) s.H) s <| .mk fun s =>
  @sOp (some 21) (xIx 9 (s.τ 19) (s.τ 20) s.H) s <| .mk fun s =>
  @sOp (some 22) (xLoad 9 true (s.τ 21) s.H) s <| .mk fun s =>
  @sCall P (.func 31 []) [(s.τ 22)] (some 23) s ⟨W31_c3 P Φ L0⟩
def W31_c5 (P : Program) (Φ : Exit → St → Prop) (L0 : St → Prop) (s : St) : Prop :=
  @sOp (some 14) (xBin .lss false (s.τ 11) (s.τ 13) s.H) s <| .mk fun s =>
  @sIf (s.τ 14) ⟨W31_b4 P Φ L0 s⟩ ⟨W31_k2 P Φ s⟩
def W31_l6 (P : Program) (Φ : Exit → St → Prop) (L0 : St → Prop) (s : St) : Prop :=
  @sOp (some 11) (xMov (s.τ 4) s.H) s <| .mk fun s =>
  @sOp (some 12) (xLoad 9 true (s.τ 1) s.H) s <| .mk fun s =>
  @sCall P (.func 26 []) [(s.τ 12)] (some 13) s ⟨W31_c5 P Φ L0⟩
def W31_b7 (P : Program) (Φ : Exit → St → Prop) (s : St) : Prop :=
  @sOp (some 3) (xMov (.nils) s.H) s <| .mk fun s =>
  @sOp (some 4) (xMov (.int .i64 0) s.H) s <| .mk fun s =>
  @sLoop s ⟨fun L0 s => W31_l6 P Φ L0 s⟩
def W31 (P : Program) (Φ : Exit → St → Prop) (s : St) : Prop :=
  @sOp (some 1) (xBox 1 34 (s.τ 0) s.H) s <| .mk fun s =>
  @sOp (some 2) (xMov (.nils) s.H) s <| .mk fun s =>
  @sOp (some 5) (xFld 0 (s.τ 1) s.H) s <| .mk fun s =>
  @sOp (some 6) (xLoad 1 false (s.τ 5) s.H) s <| .mk fun s =>
  @sOp (some 7) (xBin .eql false (s.τ 6) (.int .i64 14) s.H) s <| .mk fun s =>
  @sIf (s.τ 7) ⟨W31_b1 P Φ s⟩ ⟨W31_b7 P Φ s⟩
theorem W31_rs (τ : Nat → AV) (H : Heap) : resV Try.prog τ H [.tmp 2] = some (τ 2) := by kernel_rfl
theorem W31_eq (Φ : Exit → St → Prop) (s : St) : awp Try.prog (Try.f31.body.getD .skip) Φ s = W31 Try.prog Φ s := by kernel_rfl

-- 32 "penance/penancelaw5.known"
def W32_c1 (P : Program) (Φ : Exit → St → Prop) (s : St) : Prop :=
  @sOp (some 36) (xPick (s.τ 31) (s.τ 35) (.bool false) s.H) s <| .mk fun s =>
  @sOp (some 0) (xMov (s.τ 36) s.H) s <| .mk fun s =>
  Φ .ret s
def W32_c2 (P : Program) (Φ : Exit → St → Prop) (s : St) : Prop :=
  @sGrd (guardOf (s.τ 31) true) (some 35) s ⟨fun s K => @sOp (some 35) (xBin .eql false (s.τ 34) (.int .i64 3) s.H) s ⟨K⟩⟩ ⟨W32_c1 P Φ⟩
def W32_c3 (P : Program) (Φ : Exit → St → Prop) (s : St) : Prop :=
  @sGrd (guardOf (s.τ 31) true) (some 34) s ⟨fun s K => @sOp (some 34) (xLoad 1 false (s.τ 33) s.H) s ⟨K⟩⟩ ⟨W32_c2 P Φ⟩
def W32_c4 (P : Program) (Φ : Exit → St → Prop) (s : St) : Prop :=
  @sGrd (guardOf (s.τ 31) true) (some 33) s ⟨fun s K => @sOp (some 33) (xIx 1 (s.τ 32) (.int .i64 0) s.H) s ⟨K⟩⟩ ⟨W32_c3 P Φ⟩
def W32_c5 (P : Program) (Φ : Exit → St → Prop) (s : St) : Prop :=
  @sOp (some 30) (xPick (s.τ 26) (s.τ 29) (.bool false) s.H) s <| .mk fun s =>
  @sOp (some 31) (xMov (s.τ 30) s.H) s <| .mk fun s =>
  @sGrd (guardOf (s.τ 31) true) (some 32) s ⟨fun s K => @sOp (some 32) (xMov (s.τ 3) s.H) s ⟨K⟩⟩ ⟨W32_c4 P Φ⟩
def W32_c6 (P : Program) (Φ : Exit → St → Prop) (s : St) : Prop :=
  @sGrd (guardOf (s.τ 26) true) (some 29) s ⟨fun s K => @sOp (some 29) (xBin .eql false (s.τ 28) (.int .i64 1) s.H) s ⟨K⟩⟩ ⟨W32_c5 P Φ⟩
def W32_c7 (P : Program) (Φ : Exit → St → Prop) (s : St) : Prop :=
  @sGrd (guardOf (s.τ 26) true) (some 28) s ⟨fun s K => @sOp (some 28) (xLen (s.τ 27) s.H) s ⟨K⟩⟩ ⟨W32_c6 P Φ⟩
def W32_c8 (P : Program) (Φ : Exit → St → Prop) (s : St) : Prop :=
  @sOp (some 25) (xPick (s.τ 22) (s.τ 24) (.bool false) s.H) s <| .mk fun s =>
  @sOp (some 26) (xMov (s.τ 25) s.H) s <| .mk fun s =>
  @sGrd (guardOf (s.τ 26) true) (some 27) s ⟨fun s K => @sOp (some 27) (xMov (s.τ 3) s.H) s ⟨K⟩⟩ ⟨W32_c7 P Φ⟩
def W32_c9 (P : Program) (Φ : Exit → St → Prop) (s : St) : Prop :=
  @sGrd (guardOf (s.τ 22) true) (some 24) s ⟨fun s K => @sCall P (.func 34 []) [(s.τ 23), (.int .i64 0), (.int .i64 0), (.int .i64 0)] (some 24) s ⟨K⟩⟩ ⟨W32_c8 P Φ⟩
def W32_c10 (P : Program) (Φ : Exit → St → Prop) (s : St) : Prop :=
  @sOp (some 21) (xPick (s.τ 17) (s.τ 20) (.bool false) s.H) s <| .mk fun s =>
  @sOp (some 22) (xMov (s.τ 21) s.H) s <| .mk fun s =>
  @sGrd (guardOf (s.τ 22) true) (some 23) s ⟨fun s K => @sOp (some 23) (xLoad 9 true (s.τ 2) s.H) s ⟨K⟩⟩ ⟨W32_c9 P Φ⟩
def W32_c11 (P : Program) (Φ : Exit → St → Prop) (s : St) : Prop :=
  @sGrd (guardOf (s.τ 17) true) (some 20) s ⟨fun s K => @sOp (some 20) (xBin .eql false (s.τ 19) (.int .i64 2) s.H) s ⟨K⟩⟩ ⟨W32_c10 P Φ⟩
def W32_c12 (P : Program) (Φ : Exit → St → Prop) (s : St) : Prop :=
  @sGrd (guardOf (s.τ 17) true) (some 19) s ⟨fun s K => @sCall P (.func 36 []) [(s.τ 18)] (some 19) s ⟨K⟩⟩ ⟨W32_c11 P Φ⟩
def W32_c13 (P : Program) (Φ : Exit → St → Prop) (s : St) : Prop :=
  @sOp (some 17) (xMov (s.τ 16) s.H) s <| .mk fun s =>
  @sGrd (guardOf (s.τ 17) true) (some 18) s ⟨fun s K => @sOp (some 18) (xLoad 9 true (s.τ 1) s.H) s ⟨K⟩⟩ ⟨W32_c12 P Φ⟩
def W32_c14 (P : Program) (Φ : Exit → St → Prop) (s : St) : Prop :=
  @sOp (some 15) (xBuild [.int .i64 0, .int .i64 0, .int .i64 0, .str ⟨#[]⟩, .int .i64 0, .int .i64 0, .str ⟨#[]⟩, .nils, .nils] [] s.H) s <| .mk fun s =>
  @sCall P (.func 38 []) [(s.τ 14), (s.τ 15)] (some 16) s ⟨W32_c13 P Φ⟩
def W32_c15 (P : Program) (Φ : Exit → St → Prop) (s : St) : Prop :=
  @sOp (some 3) (xMov (s.τ 12) s.H) s <| .mk fun s =>
  @sOp (some 13) (xLoad 9 true (s.τ 1) s.H) s <| .mk fun s =>
  @sCall P (.func 40 []) [(s.τ 13)] (some 14) s ⟨W32_c14 P Φ⟩
def W32 (P : Program) (Φ : Exit → St → Prop) (s : St) : Prop :=
  @sOp (some 0) (xMov (.bool false) s.H) s <| .mk fun s =>
  @sOp (some 4) (xBuild [.int .i64 0, .int .i64 0, .int .i64 0, .str ⟨#[]⟩, .int .i64 0, .int .i64 0, .str ⟨#[]⟩, .nils, .nils] [] s.H) s <| .mk fun s =>
  @sOp (some 5) (xLit 9 1 [.int .i64 0, .int .i64 0, .int .i64 0, .str ⟨#[]⟩, .int .i64 0, .int .i64 0, .str ⟨#[]⟩, .nils, .nils] [(0, (s.τ 4))] s.H) s <| .mk fun s =>
  @sOp (some 6) (xBuild [.int .i64 0, .int .i64 0, .int .i64 0, .str ⟨#[]⟩, .int .i64 0, .int .i64 0, .str ⟨#[]⟩, .nils, .nils] [(0, 1, (.int .i64 7)), (8, 1, (s.τ 5))] s.H) s <| .mk fun s =>
  @sOp (some 1) (xAlloc 1 34 [.int .i64 0, .int .i64 0, .int .i64 0, .str ⟨#[]⟩, .int .i64 0, .int .i64 0, .str ⟨#[]⟩, .nils, .nils] s.H) s <| .mk fun s =>
  @sOp none (xStore 9 (s.τ 1) (s.τ 6) s.H) s <| .mk fun s =>
  @sOp (some 7) (xBuild [.int .i64 0, .int .i64 0, .int .i64 0, .str ⟨#[]⟩, .int .i64 0, .int .i64 0, .str ⟨#[]⟩, .nils, .nils] [(0, 1, (.int .i64 14)), (1, 1, (.int .i64 3)), (2, 1, (.int .i64 (-1))), (3, 1, (.str ⟨#[112, 97, 121]⟩))] s.H) s <| .mk fun s =>
  @sOp (some 2) (xAlloc 2 34 [.int .i64 0, .int .i64 0, .int .i64 0, .str ⟨#[]⟩, .int .i64 0, .int .i64 0, .str ⟨#[]⟩, .nils, .nils] s.H) s <| .mk fun s =>
  @sOp none (xStore 9 (s.τ 2) (s.τ 7) s.H) s <| .mk fun s =>
  @sOp (some 8) (xLoad 9 true (s.τ 2) s.H) s <| .mk fun s =>
  @sOp (some 9) (xBuild [.int .i64 0, .int .i64 0, .int .i64 0, .str ⟨#[]⟩, .int .i64 0, .int .i64 0, .str ⟨#[]⟩, .nils, .nils] [] s.H) s <| .mk fun s =>
  @sOp (some 10) (xLit 9 2 [.int .i64 0, .int .i64 0, .int .i64 0, .str ⟨#[]⟩, .int .i64 0, .int .i64 0, .str ⟨#[]⟩, .nils, .nils] [(0, (s.τ 8)), (1, (s.τ 9))] s.H) s <| .mk fun s =>
  @sOp (some 11) (xBuild [.int .i64 0, .int .i64 0, .int .i64 0, .str ⟨#[]⟩, .int .i64 0, .int .i64 0, .str ⟨#[]⟩, .nils, .nils] [(0, 1, (.int .i64 12)), (8, 1, (s.τ 10))] s.H) s <| .mk fun s =>
  @sCall P (.func 41 []) [(s.τ 11)] (some 12) s ⟨W32_c15 P Φ⟩
theorem W32_rs (τ : Nat → AV) (H : Heap) : resV Try.prog τ H [.tmp 0] = some (τ 0) := by kernel_rfl
theorem W32_eq (Φ : Exit → St → Prop) (s : St) : awp Try.prog (Try.f32.body.getD .skip) Φ s = W32 Try.prog Φ s := by kernel_rfl

-- 33 "penance/penancelaw5.Spoilt"
def W33_c1 (P : Program) (Φ : Exit → St → Prop) (s : St) : Prop :=
  @sOp (some 40) (xIx 9 (s.τ 29) (s.τ 30) s.H) s <| .mk fun s =>
  @sOp none (xStore 9 (s.τ 40) (s.τ 39) s.H) s <| .mk fun s =>
  @sOp (some 41) (xMov (s.τ 9) s.H) s <| .mk fun s =>
  @sOp (some 42) (xFld 8 (s.τ 4) s.H) s <| .mk fun s =>
  @sOp none (xStore 1 (s.τ 42) (s.τ 41) s.H) s <| .mk fun s =>
  @sOp (some 43) (xLoad 9 true (s.τ 4) s.H) s <| .mk fun s =>
  @sOp none (xStore 9 (s.τ 8) (s.τ 43) s.H) s <| .mk fun s =>
  Φ .ret s
def W33_c2 (P : Program) (Φ : Exit → St → Prop) (s : St) : Prop :=
  @sOp (some 10) (xMov (s.τ 28) s.H) s <| .mk fun s =>
  @sOp (some 29) (xMov (s.τ 9) s.H) s <| .mk fun s =>
  @sOp (some 30) (xMov (s.τ 10) s.H) s <| .mk fun s =>
  @sOp (some 31) (xMov (s.τ 9) s.H) s <| .mk fun s =>
  @sOp (some 32) (xMov (s.τ 10) s.H) s <| .mk fun s =>
  @sOp (some 33) (xIx 9 (s.τ 31) (s.τ 32) s.H) s <| .mk fun s =>
  @sOp (some 34) (xLoad 9 true (s.τ 33) s.H) s <| .mk fun s =>
  @sOp (some 35) (xMov (s.τ 1) s.H) s <| .mk fun s =>
  @sOp (some 36) (xMov (s.τ 2) s.H) s <| .mk fun s =>
  @sOp (some 37) (xMov (s.τ 3) s.H) s <| .mk fun s =>
  @sOp (some 38) (xBin .quo false (s.τ 37) (.int .i64 9) s.H) s <| .mk fun s =>
  @sCall P (.func 33 []) [(s.τ 34), (s.τ 35), (s.τ 36), (s.τ 38)] (some 39) s ⟨W33_c1 P Φ⟩
def W33_b3 (P : Program) (Φ : Exit → St → Prop) (s : St) : Prop :=
  @sOp (some 20) (xRow 20 34 9 0 [.int .i64 0, .int .i64 0, .int .i64 0, .str ⟨#[]⟩, .int .i64 0, .int .i64 0, .str ⟨#[]⟩, .nils, .nils] [] s.H) s <| .mk fun s =>
  @sOp (some 21) (xFld 8 (s.τ 4) s.H) s <| .mk fun s =>
  @sOp (some 22) (xLoad 1 false (s.τ 21) s.H) s <| .mk fun s =>
  @sOp (some 23) (xApp P 34 9 120 (some 23) (s.τ 20) (s.τ 22) s.H) s <| .mk fun s =>
  @sOp (some 9) (xMov (s.τ 23) s.H) s <| .mk fun s =>
  @sOp (some 24) (xMov (s.τ 3) s.H) s <| .mk fun s =>
  @sOp (some 25) (xBin .quo false (s.τ 24) (.int .i64 4) s.H) s <| .mk fun s =>
  @sOp (some 26) (xMov (s.τ 9) s.H) s <| .mk fun s =>
  @sOp (some 27) (xLen (s.τ 26) s.H) s <| .mk fun s =>
  @sCall P (.func 43 []) [(s.τ 25), (s.τ 27)] (some 28) s ⟨W33_c2 P Φ⟩
def W33_k4 (P : Program) (Φ : Exit → St → Prop) (s : St) : Prop :=
  @sOp (some 112) (xLoad 9 true (s.τ 4) s.H) s <| .mk fun s =>
  @sOp none (xStore 9 (s.τ 8) (s.τ 112) s.H) s <| .mk fun s =>
  Φ .ret s
def W33_c5 (P : Program) (Φ : Exit → St → Prop) (s : St) : Prop :=
  @sOp (some 50) (xBin .sub false (s.τ 49) (.int .i64 1) s.H) s <| .mk fun s =>
  @sOp (some 51) (xFld 0 (s.τ 4) s.H) s <| .mk fun s =>
  @sOp none (xStore 1 (s.τ 51) (s.τ 50) s.H) s <| .mk fun s =>
  W33_k4 P Φ s
def W33_b6 (P : Program) (Φ : Exit → St → Prop) (s : St) : Prop :=
  @sOp (some 48) (xMov (s.τ 2) s.H) s <| .mk fun s =>
  @sCall P (.func 43 []) [(s.τ 48), (.int .i64 17)] (some 49) s ⟨W33_c5 P Φ⟩
def W33_c7 (P : Program) (Φ : Exit → St → Prop) (s : St) : Prop :=
  @sOp (some 58) (xIx 1 (s.τ 55) (s.τ 57) s.H) s <| .mk fun s =>
  @sOp (some 59) (xLoad 1 false (s.τ 58) s.H) s <| .mk fun s =>
  @sOp (some 60) (xFld 1 (s.τ 4) s.H) s <| .mk fun s =>
  @sOp none (xStore 1 (s.τ 60) (s.τ 59) s.H) s <| .mk fun s =>
  W33_k4 P Φ s
def W33_b8 (P : Program) (Φ : Exit → St → Prop) (s : St) : Prop :=
  @sOp (some 54) (xMov (s.τ 2) s.H) s <| .mk fun s =>
  @sOp (some 55) (xLit 1 6 [.int .i64 0] [(0, (.int .i64 (-2))), (1, (.int .i64 (-1))), (2, (.int .i64 0)), (3, (.int .i64 2)), (4, (.int .i64 5)), (5, (s.τ 54))] s.H) s <| .mk fun s =>
  @sOp (some 56) (xMov (s.τ 2) s.H) s <| .mk fun s =>
  @sCall P (.func 43 []) [(s.τ 56), (.int .i64 6)] (some 57) s ⟨W33_c7 P Φ⟩
def W33_c9 (P : Program) (Φ : Exit → St → Prop) (s : St) : Prop :=
  @sOp (some 67) (xIx 1 (s.τ 64) (s.τ 66) s.H) s <| .mk fun s =>
  @sOp (some 68) (xLoad 1 false (s.τ 67) s.H) s <| .mk fun s =>
  @sOp (some 69) (xFld 2 (s.τ 4) s.H) s <| .mk fun s =>
  @sOp none (xStore 1 (s.τ 69) (s.τ 68) s.H) s <| .mk fun s =>
  W33_k4 P Φ s
def W33_b10 (P : Program) (Φ : Exit → St → Prop) (s : St) : Prop :=
  @sOp (some 63) (xMov (s.τ 2) s.H) s <| .mk fun s =>
  @sOp (some 64) (xLit 1 6 [.int .i64 0] [(0, (.int .i64 (-2))), (1, (.int .i64 (-1))), (2, (.int .i64 0)), (3, (.int .i64 2)), (4, (.int .i64 3)), (5, (s.τ 63))] s.H) s <| .mk fun s =>
  @sOp (some 65) (xMov (s.τ 2) s.H) s <| .mk fun s =>
  @sCall P (.func 43 []) [(s.τ 65), (.int .i64 6)] (some 66) s ⟨W33_c9 P Φ⟩
def W33_c11 (P : Program) (Φ : Exit → St → Prop) (s : St) : Prop :=
  @sOp (some 75) (xIx 1 (s.τ 72) (s.τ 74) s.H) s <| .mk fun s =>
  @sOp (some 76) (xLoad 1 false (s.τ 75) s.H) s <| .mk fun s =>
  @sOp (some 77) (xFld 3 (s.τ 4) s.H) s <| .mk fun s =>
  @sOp none (xStore 1 (s.τ 77) (s.τ 76) s.H) s <| .mk fun s =>
  W33_k4 P Φ s
def W33_b12 (P : Program) (Φ : Exit → St → Prop) (s : St) : Prop :=
  @sOp (some 72) (xLit 1 5 [.str ⟨#[]⟩] [(0, (.str ⟨#[]⟩)), (1, (.str ⟨#[112, 97, 121]⟩)), (2, (.str ⟨#[100, 111]⟩)), (3, (.str ⟨#[97, 32, 98]⟩)), (4, (.str ⟨#[80, 97, 121]⟩))] s.H) s <| .mk fun s =>
  @sOp (some 73) (xMov (s.τ 2) s.H) s <| .mk fun s =>
  @sCall P (.func 43 []) [(s.τ 73), (.int .i64 5)] (some 74) s ⟨W33_c11 P Φ⟩
def W33_c13 (P : Program) (Φ : Exit → St → Prop) (s : St) : Prop :=
  @sOp (some 85) (xBuild [.int .i64 0, .int .i64 0, .str ⟨#[]⟩, .nils] [(0, 1, (s.τ 81)), (1, 1, (s.τ 84))] s.H) s <| .mk fun s =>
  @sOp (some 86) (xFld 4 (s.τ 4) s.H) s <| .mk fun s =>
  @sOp none (xStore 4 (s.τ 86) (s.τ 85) s.H) s <| .mk fun s =>
  W33_k4 P Φ s
def W33_c14 (P : Program) (Φ : Exit → St → Prop) (s : St) : Prop :=
  @sOp (some 82) (xMov (s.τ 2) s.H) s <| .mk fun s =>
  @sOp (some 83) (xBin .quo false (s.τ 82) (.int .i64 4) s.H) s <| .mk fun s =>
  @sCall P (.func 43 []) [(s.τ 83), (.int .i64 5)] (some 84) s ⟨W33_c13 P Φ⟩
def W33_b15 (P : Program) (Φ : Exit → St → Prop) (s : St) : Prop :=
  @sOp (some 80) (xMov (s.τ 2) s.H) s <| .mk fun s =>
  @sCall P (.func 43 []) [(s.τ 80), (.int .i64 4)] (some 81) s ⟨W33_c14 P Φ⟩
def W33_b16 (P : Program) (Φ : Exit → St → Prop) (s : St) : Prop :=
  @sOp (some 89) (xRow 89 34 9 0 [.int .i64 0, .int .i64 0, .int .i64 0, .str ⟨#[]⟩, .int .i64 0, .int .i64 0, .str ⟨#[]⟩, .nils, .nils] [] s.H) s <| .mk fun s =>
  @sOp (some 90) (xFld 8 (s.τ 4) s.H) s <| .mk fun s =>
  @sOp (some 91) (xLoad 1 false (s.τ 90) s.H) s <| .mk fun s =>
  @sOp (some 92) (xApp P 34 9 120 (some 92) (s.τ 89) (s.τ 91) s.H) s <| .mk fun s =>
  @sOp (some 93) (xBuild [.int .i64 0, .int .i64 0, .int .i64 0, .str ⟨#[]⟩, .int .i64 0, .int .i64 0, .str ⟨#[]⟩, .nils, .nils] [(0, 1, (.int .i64 14)), (2, 1, (.int .i64 (-1))), (3, 1, (.str ⟨#[112, 97, 121]⟩))] s.H) s <| .mk fun s =>
  @sOp (some 94) (xLit 9 1 [.int .i64 0, .int .i64 0, .int .i64 0, .str ⟨#[]⟩, .int .i64 0, .int .i64 0, .str ⟨#[]⟩, .nils, .nils] [(0, (s.τ 93))] s.H) s <| .mk fun s =>
  @sOp (some 95) (xApp P 34 9 120 (some 95) (s.τ 92) (s.τ 94) s.H) s <| .mk fun s =>
  @sOp (some 96) (xFld 8 (s.τ 4) s.H) s <| .mk fun s =>
  @sOp none (xStore 1 (s.τ 96) (s.τ 95) s.H) s <| .mk fun s =>
  W33_k4 P Φ s
def W33_b17 (P : Program) (Φ : Exit → St → Prop) (s : St) : Prop :=
  @sOp (some 103) (xFld 8 (s.τ 4) s.H) s <| .mk fun s =>
  @sOp (some 104) (xLoad 1 false (s.τ 103) s.H) s <| .mk fun s =>
  @sOp (some 105) (xSlc 9 (s.τ 104) (some (.int .i64 1)) none s.H) s <| .mk fun s =>
  @sOp (some 106) (xFld 8 (s.τ 4) s.H) s <| .mk fun s =>
  @sOp none (xStore 1 (s.τ 106) (s.τ 105) s.H) s <| .mk fun s =>
  W33_k4 P Φ s
def W33_b18 (P : Program) (Φ : Exit → St → Prop) (s : St) : Prop :=
  @sOp (some 99) (xFld 8 (s.τ 4) s.H) s <| .mk fun s =>
  @sOp (some 100) (xLoad 1 false (s.τ 99) s.H) s <| .mk fun s =>
  @sOp (some 101) (xLen (s.τ 100) s.H) s <| .mk fun s =>
  @sOp (some 102) (xBin .gtr false (s.τ 101) (.int .i64 0) s.H) s <| .mk fun s =>
  @sIf (s.τ 102) ⟨W33_b17 P Φ s⟩ ⟨W33_k4 P Φ s⟩
def W33_b19 (P : Program) (Φ : Exit → St → Prop) (s : St) : Prop :=
  @sOp (some 109) (xLoad 9 true (s.τ 4) s.H) s <| .mk fun s =>
  @sOp (some 110) (xLit 9 1 [.int .i64 0, .int .i64 0, .int .i64 0, .str ⟨#[]⟩, .int .i64 0, .int .i64 0, .str ⟨#[]⟩, .nils, .nils] [(0, (s.τ 109))] s.H) s <| .mk fun s =>
  @sOp (some 111) (xBuild [.int .i64 0, .int .i64 0, .int .i64 0, .str ⟨#[]⟩, .int .i64 0, .int .i64 0, .str ⟨#[]⟩, .nils, .nils] [(0, 1, (.int .i64 3)), (8, 1, (s.τ 110))] s.H) s <| .mk fun s =>
  @sOp none (xStore 9 (s.τ 4) (s.τ 111) s.H) s <| .mk fun s =>
  W33_k4 P Φ s
def W33_b20 (P : Program) (Φ : Exit → St → Prop) (s : St) : Prop :=
  @sOp (some 108) (xBin .eql false (s.τ 45) (.int .i64 7) s.H) s <| .mk fun s =>
  @sOp (some 107) (xMov (s.τ 108) s.H) s <| .mk fun s =>
  @sIf (s.τ 107) ⟨W33_b19 P Φ s⟩ ⟨W33_k4 P Φ s⟩
def W33_b21 (P : Program) (Φ : Exit → St → Prop) (s : St) : Prop :=
  @sOp (some 98) (xBin .eql false (s.τ 45) (.int .i64 6) s.H) s <| .mk fun s =>
  @sOp (some 97) (xMov (s.τ 98) s.H) s <| .mk fun s =>
  @sIf (s.τ 97) ⟨W33_b18 P Φ s⟩ ⟨W33_b20 P Φ s⟩
def W33_b22 (P : Program) (Φ : Exit → St → Prop) (s : St) : Prop :=
  @sOp (some 88) (xBin .eql false (s.τ 45) (.int .i64 5) s.H) s <| .mk fun s =>
  @sOp (some 87) (xMov (s.τ 88) s.H) s <| .mk fun s =>
  @sIf (s.τ 87) ⟨W33_b16 P Φ s⟩ ⟨W33_b21 P Φ s⟩
def W33_b23 (P : Program) (Φ : Exit → St → Prop) (s : St) : Prop :=
  @sOp (some 79) (xBin .eql false (s.τ 45) (.int .i64 4) s.H) s <| .mk fun s =>
  @sOp (some 78) (xMov (s.τ 79) s.H) s <| .mk fun s =>
  @sIf (s.τ 78) ⟨W33_b15 P Φ s⟩ ⟨W33_b22 P Φ s⟩
def W33_b24 (P : Program) (Φ : Exit → St → Prop) (s : St) : Prop :=
  @sOp (some 71) (xBin .eql false (s.τ 45) (.int .i64 3) s.H) s <| .mk fun s =>
  @sOp (some 70) (xMov (s.τ 71) s.H) s <| .mk fun s =>
  @sIf (s.τ 70) ⟨W33_b12 P Φ s⟩ ⟨W33_b23 P Φ s⟩
def W33_b25 (P : Program) (Φ : Exit → St → Prop) (s : St) : Prop :=
  @sOp (some 62) (xBin .eql false (s.τ 45) (.int .i64 2) s.H) s <| .mk fun s =>
  @sOp (some 61) (xMov (s.τ 62) s.H) s <| .mk fun s =>
  @sIf (s.τ 61) ⟨W33_b10 P Φ s⟩ ⟨W33_b24 P Φ s⟩
def W33_b26 (P : Program) (Φ : Exit → St → Prop) (s : St) : Prop :=
  @sOp (some 53) (xBin .eql false (s.τ 45) (.int .i64 1) s.H) s <| .mk fun s =>
  @sOp (some 52) (xMov (s.τ 53) s.H) s <| .mk fun s =>
  @sIf (s.τ 52) ⟨W33_b8 P Φ s⟩ ⟨W33_b25 P Φ s⟩
def W33_c27 (P : Program) (Φ : Exit → St → Prop) (s : St) : Prop :=
  @sOp (some 47) (xBin .eql false (s.τ 45) (.int .i64 0) s.H) s <| .mk fun s =>
  @sOp (some 46) (xMov (s.τ 47) s.H) s <| .mk fun s =>
  @sIf (s.τ 46) ⟨W33_b6 P Φ s⟩ ⟨W33_b26 P Φ s⟩
def W33_b28 (P : Program) (Φ : Exit → St → Prop) (s : St) : Prop :=
  @sOp (some 44) (xMov (s.τ 1) s.H) s <| .mk fun s =>
  @sCall P (.func 43 []) [(s.τ 44), (.int .i64 8)] (some 45) s ⟨W33_c27 P Φ⟩
def W33_c29 (P : Program) (Φ : Exit → St → Prop) (s : St) : Prop :=
  @sOp (some 19) (xPick (s.τ 15) (s.τ 18) (.bool false) s.H) s <| .mk fun s =>
  @sIf (s.τ 19) ⟨W33_b3 P Φ s⟩ ⟨W33_b28 P Φ s⟩
def W33_c30 (P : Program) (Φ : Exit → St → Prop) (s : St) : Prop :=
  @sGrd (guardOf (s.τ 15) true) (some 18) s ⟨fun s K => @sOp (some 18) (xBin .gtr false (s.τ 17) (.int .i64 0) s.H) s ⟨K⟩⟩ ⟨W33_c29 P Φ⟩
def W33_c31 (P : Program) (Φ : Exit → St → Prop) (s : St) : Prop :=
  @sGrd (guardOf (s.τ 15) true) (some 17) s ⟨fun s K => @sCall P (.func 43 []) [(s.τ 16), (.int .i64 4)] (some 17) s ⟨K⟩⟩ ⟨W33_c30 P Φ⟩
def W33 (P : Program) (Φ : Exit → St → Prop) (s : St) : Prop :=
  @sOp (some 4) (xBox 4 34 (s.τ 0) s.H) s <| .mk fun s =>
  @sOp (some 8) (xAlloc 8 34 [.int .i64 0, .int .i64 0, .int .i64 0, .str ⟨#[]⟩, .int .i64 0, .int .i64 0, .str ⟨#[]⟩, .nils, .nils] s.H) s <| .mk fun s =>
  @sOp (some 11) (xFld 8 (s.τ 4) s.H) s <| .mk fun s =>
  @sOp (some 12) (xLoad 1 false (s.τ 11) s.H) s <| .mk fun s =>
  @sOp (some 13) (xLen (s.τ 12) s.H) s <| .mk fun s =>
  @sOp (some 14) (xBin .gtr false (s.τ 13) (.int .i64 0) s.H) s <| .mk fun s =>
  @sOp (some 15) (xMov (s.τ 14) s.H) s <| .mk fun s =>
  @sGrd (guardOf (s.τ 15) true) (some 16) s ⟨fun s K => @sOp (some 16) (xMov (s.τ 3) s.H) s ⟨K⟩⟩ ⟨W33_c31 P Φ⟩
theorem W33_rs (τ : Nat → AV) (H : Heap) : resV Try.prog τ H [.cell 8 34] = rdV H 9 true (τ 8) := by kernel_rfl
theorem W33_eq (Φ : Exit → St → Prop) (s : St) : awp Try.prog (Try.f33.body.getD .skip) Φ s = W33 Try.prog Φ s := by kernel_rfl

-- 34 "penance/term.Right"
def W34_c1 (P : Program) (Φ : Exit → St → Prop) (s : St) : Prop :=
  @sOp (some 8) (xMov (s.τ 14) s.H) s <| .mk fun s =>
  Φ .ret s
def W34 (P : Program) (Φ : Exit → St → Prop) (s : St) : Prop :=
  @sOp (some 4) (xBox 4 34 (s.τ 0) s.H) s <| .mk fun s =>
  @sOp (some 8) (xMov (.bool false) s.H) s <| .mk fun s =>
  @sOp (some 9) (xMov (s.τ 1) s.H) s <| .mk fun s =>
  @sOp (some 10) (xMov (s.τ 2) s.H) s <| .mk fun s =>
  @sOp (some 11) (xMov (s.τ 3) s.H) s <| .mk fun s =>
  @sOp (some 12) (xBuild [.int .i64 0, .int .i64 0, .int .i64 0] [(0, 1, (s.τ 9)), (1, 1, (s.τ 10)), (2, 1, (s.τ 11))] s.H) s <| .mk fun s =>
  @sOp (some 13) (xLoad 9 true (s.τ 4) s.H) s <| .mk fun s =>
  @sCall P (.func 51 []) [(s.τ 12), (s.τ 13), (.bool false)] (some 14) s ⟨W34_c1 P Φ⟩
theorem W34_rs (τ : Nat → AV) (H : Heap) : resV Try.prog τ H [.tmp 8] = some (τ 8) := by kernel_rfl
theorem W34_eq (Φ : Exit → St → Prop) (s : St) : awp Try.prog (Try.f34.body.getD .skip) Φ s = W34 Try.prog Φ s := by kernel_rfl

end Go.Proofs.Ytkagfenchknjjaa
