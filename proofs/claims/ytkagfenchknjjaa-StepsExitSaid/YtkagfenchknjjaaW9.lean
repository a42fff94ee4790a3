import Derived.Test.YtkagfenchknjjaaAmSimp
import Derived.Test.YtkagfenchknjjaaProg
import Derived.KernelRfl
set_option linter.unusedVariables false
namespace Go.Proofs.Ytkagfenchknjjaa
open Go Go.Am
-- 82 "slices.Clone[[]penance/api.Term,penance/api.Term]"
def W82_b1 (P : Program) (Φ : Exit → St → Prop) (s : St) : Prop :=
  @sOp (some 2) (xMov (.nils) s.H) s <| .mk fun s =>
  Φ .ret s
def W82_b2 (P : Program) (Φ : Exit → St → Prop) (s : St) : Prop :=
  @sOp (some 5) (xRow 5 34 9 0 [.int .i64 0, .int .i64 0, .int .i64 0, .str ⟨#[]⟩, .int .i64 0, .int .i64 0, .str ⟨#[]⟩, .nils, .nils] [] s.H) s <| .mk fun s =>
  @sOp (some 6) (xMov (s.τ 0) s.H) s <| .mk fun s =>
  @sOp (some 7) (xApp P 34 9 120 (some 7) (s.τ 5) (s.τ 6) s.H) s <| .mk fun s =>
  @sOp (some 2) (xMov (s.τ 7) s.H) s <| .mk fun s =>
  Φ .ret s
def W82_c3 (P : Program) (Φ : Exit → St → Prop) (s : St) : Prop :=
  @sIf (s.τ 4) ⟨W82_b1 P Φ s⟩ ⟨W82_b2 P Φ s⟩
def W82 (P : Program) (Φ : Exit → St → Prop) (s : St) : Prop :=
  @sOp (some 2) (xMov (.nils) s.H) s <| .mk fun s =>
  @sOp (some 3) (xMov (s.τ 0) s.H) s <| .mk fun s =>
  @sNil false (s.τ 3) (some 4) s ⟨W82_c3 P Φ⟩
theorem W82_rs (τ : Nat → AV) (H : Heap) : resV Try.prog τ H [.tmp 2] = some (τ 2) := by kernel_rfl
theorem W82_eq (Φ : Exit → St → Prop) (s : St) : awp Try.prog (Try.f82.body.getD .skip) Φ s = W82 Try.prog Φ s := by kernel_rfl

-- 83 "penance/term.ownExpr"
def W83_c1 (P : Program) (Φ : Exit → St → Prop) (s : St) : Prop :=
  @sOp (some 25) (xFld 3 (s.τ 1) s.H) s <| .mk fun s =>
  @sOp none (xStore 1 (s.τ 25) (s.τ 24) s.H) s <| .mk fun s =>
  @sOp (some 26) (xLoad 4 true (s.τ 1) s.H) s <| .mk fun s =>
  @sOp none (xStore 4 (s.τ 2) (s.τ 26) s.H) s <| .mk fun s =>
  Φ .ret s
def W83_k2 (P : Program) (Φ : Exit → St → Prop) (s : St) : Prop :=
  @sOp (some 23) (xMov (s.τ 3) s.H) s <| .mk fun s =>
  @sCall P (.func 100 []) [(s.τ 23)] (some 24) s ⟨W83_c1 P Φ⟩
def W83_c3 (P : Program) (Φ : Exit → St → Prop) (L0 : St → Prop) (s : St) : Prop :=
  @sOp (some 20) (xLit 4 1 [.int .i64 0, .int .i64 0, .str ⟨#[]⟩, .nils] [(0, (s.τ 19))] s.H) s <| .mk fun s =>
  @sOp (some 21) (xApp P 31 4 56 (some 21) (s.τ 17) (s.τ 20) s.H) s <| .mk fun s =>
  @sOp (some 3) (xMov (s.τ 21) s.H) s <| .mk fun s =>
  @sOp (some 22) (xBin .add false (s.τ 13) (.int .i64 1) s.H) s <| .mk fun s =>
  @sOp (some 13) (xMov (s.τ 22) s.H) s <| .mk fun s =>
  L0 s
def W83_b4 (P : Program) (Φ : Exit → St → Prop) (L0 : St → Prop) (s : St) : Prop :=
  @sOp (some 15) (xIx 4 (s.τ 11) (s.τ 13) s.H) s <| .mk fun s =>
  @sOp (some 16) (xLoad 4 true (s.τ 15) s.H) s <| .mk fun s =>
  @sOp (some 5) (xAlloc 5 31 [.int .i64 0, .int .i64 0, .str ⟨#[]⟩, .nils] s.H) s <| .mk fun s =>
  @sOp none (xStore 4 (s.τ 5) (s.τ 16) s.H) s <| .mk fun s =>
  @sOp (some 17) (xMov (s.τ 3) s.H) s <| .mk fun s =>
  @sOp (some 18) (xLoad 4 true (s.τ 5) s.H) s <| .mk fun s =>
  @sCall P (.func 83 []) [(s.τ 18)] (some 19) s ⟨W83_c3 P Φ L0⟩
def W83_l5 (P : Program) (Φ : Exit → St → Prop) (L0 : St → Prop) (s : St) : Prop :=
  @sOp (some 14) (xBin .lss false (s.τ 13) (s.τ 12) s.H) s <| .mk fun s =>
  @sIf (s.τ 14) ⟨W83_b4 P Φ L0 s⟩ ⟨W83_k2 P Φ s⟩
def W83 (P : Program) (Φ : Exit → St → Prop) (s : St) : Prop :=
  @sOp (some 1) (xBox 1 31 (s.τ 0) s.H) s <| .mk fun s =>
  @sOp (some 2) (xAlloc 2 31 [.int .i64 0, .int .i64 0, .str ⟨#[]⟩, .nils] s.H) s <| .mk fun s =>
  @sOp (some 6) (xFld 3 (s.τ 1) s.H) s <| .mk fun s =>
  @sOp (some 7) (xLoad 1 false (s.τ 6) s.H) s <| .mk fun s =>
  @sOp (some 8) (xLen (s.τ 7) s.H) s <| .mk fun s =>
  @sOp (some 9) (xMks 9 31 4 56 [.int .i64 0, .int .i64 0, .str ⟨#[]⟩, .nils] (.int .i64 0) (s.τ 8) s.H) s <| .mk fun s =>
  @sOp (some 3) (xMov (s.τ 9) s.H) s <| .mk fun s =>
  @sOp (some 10) (xFld 3 (s.τ 1) s.H) s <| .mk fun s =>
  @sOp (some 11) (xLoad 1 false (s.τ 10) s.H) s <| .mk fun s =>
  @sOp (some 12) (xLen (s.τ 11) s.H) s <| .mk fun s =>
  @sOp (some 13) (xMov (.int .i64 0) s.H) s <| .mk fun s =>
  @sLoop s ⟨fun L0 s => W83_l5 P Φ L0 s⟩
theorem W83_rs (τ : Nat → AV) (H : Heap) : resV Try.prog τ H [.cell 2 31] = rdV H 4 true (τ 2) := by kernel_rfl
theorem W83_eq (Φ : Exit → St → Prop) (s : St) : awp Try.prog (Try.f83.body.getD .skip) Φ s = W83 Try.prog Φ s := by kernel_rfl

-- 84 "penance/term.active$1"
def W84_c1 (P : Program) (Φ : Exit → St → Prop) (s : St) : Prop :=
  Φ .normal s
def W84 (P : Program) (Φ : Exit → St → Prop) (s : St) : Prop :=
  @sOp (some 3) (xLoad 9 true (s.τ 1) s.H) s <| .mk fun s =>
  @sOp (some 4) (xMov (s.τ 0) s.H) s <| .mk fun s =>
  @sCall P (.func 85 []) [(s.τ 3), (s.τ 4)] (some 5) s ⟨W84_c1 P Φ⟩
theorem W84_rs (τ : Nat → AV) (H : Heap) : resV Try.prog τ H [] = ob (some []) fun vs => some (.tup vs) := by kernel_rfl
theorem W84_eq (Φ : Exit → St → Prop) (s : St) : awp Try.prog (Try.f84.body.getD .skip) Φ s = W84 Try.prog Φ s := by kernel_rfl

-- 85 "penance/term.walk"
def W85_b1 (P : Program) (Φ : Exit → St → Prop) (s : St) : Prop :=
  @sOp (some 4) (xMov (.bool false) s.H) s <| .mk fun s =>
  Φ .ret s
def W85_k2 (P : Program) (Φ : Exit → St → Prop) (s : St) : Prop :=
  @sOp (some 4) (xMov (.bool true) s.H) s <| .mk fun s =>
  Φ .ret s
def W85_b3 (P : Program) (Φ : Exit → St → Prop) (L0 : St → Prop) (s : St) : Prop :=
  @sOp (some 4) (xMov (.bool false) s.H) s <| .mk fun s =>
  Φ .ret s
def W85_b4 (P : Program) (Φ : Exit → St → Prop) (L0 : St → Prop) (s : St) : Prop :=
  @sOp (some 36) (xBin .add false (s.τ 28) (.int .i64 1) s.H) s <| .mk fun s =>
  @sOp (some 28) (xMov (s.τ 36) s.H) s <| .mk fun s =>
  L0 s
def W85_c5 (P : Program) (Φ : Exit → St → Prop) (L0 : St → Prop) (s : St) : Prop :=
  @sOp (some 35) (xNot (s.τ 34) s.H) s <| .mk fun s =>
  @sIf (s.τ 35) ⟨W85_b3 P Φ L0 s⟩ ⟨W85_b4 P Φ L0 s⟩
def W85_b6 (P : Program) (Φ : Exit → St → Prop) (L0 : St → Prop) (s : St) : Prop :=
  @sOp (some 30) (xIx 9 (s.τ 26) (s.τ 28) s.H) s <| .mk fun s =>
  @sOp (some 31) (xLoad 9 true (s.τ 30) s.H) s <| .mk fun s =>
  @sOp (some 7) (xAlloc 7 34 [.int .i64 0, .int .i64 0, .int .i64 0, .str ⟨#[]⟩, .int .i64 0, .int .i64 0, .str ⟨#[]⟩, .nils, .nils] s.H) s <| .mk fun s =>
  @sOp none (xStore 9 (s.τ 7) (s.τ 31) s.H) s <| .mk fun s =>
  @sOp (some 32) (xLoad 9 true (s.τ 7) s.H) s <| .mk fun s =>
  @sOp (some 33) (xMov (s.τ 1) s.H) s <| .mk fun s =>
  @sCall P (.func 85 []) [(s.τ 32), (s.τ 33)] (some 34) s ⟨W85_c5 P Φ L0⟩
def W85_l7 (P : Program) (Φ : Exit → St → Prop) (L0 : St → Prop) (s : St) : Prop :=
  @sOp (some 29) (xBin .lss false (s.τ 28) (s.τ 27) s.H) s <| .mk fun s =>
  @sIf (s.τ 29) ⟨W85_b6 P Φ L0 s⟩ ⟨W85_k2 P Φ s⟩
def W85_k8 (P : Program) (Φ : Exit → St → Prop) (s : St) : Prop :=
  @sOp (some 26) (xMov (s.τ 5) s.H) s <| .mk fun s =>
  @sOp (some 27) (xLen (s.τ 26) s.H) s <| .mk fun s =>
  @sOp (some 28) (xMov (.int .i64 0) s.H) s <| .mk fun s =>
  @sLoop s ⟨fun L0 s => W85_l7 P Φ L0 s⟩
def W85_b9 (P : Program) (Φ : Exit → St → Prop) (s : St) : Prop :=
  @sOp (some 18) (xMov (s.τ 5) s.H) s <| .mk fun s =>
  @sOp (some 19) (xMov (s.τ 5) s.H) s <| .mk fun s =>
  @sOp (some 20) (xLen (s.τ 19) s.H) s <| .mk fun s =>
  @sOp (some 21) (xMin (s.τ 20) (.int .i64 1) s.H) s <| .mk fun s =>
  @sOp (some 22) (xSlc 9 (s.τ 18) none (some (s.τ 21)) s.H) s <| .mk fun s =>
  @sOp (some 5) (xMov (s.τ 22) s.H) s <| .mk fun s =>
  W85_k8 P Φ s
def W85_b10 (P : Program) (Φ : Exit → St → Prop) (s : St) : Prop :=
  @sOp (some 4) (xMov (.bool true) s.H) s <| .mk fun s =>
  Φ .ret s
def W85_k11 (P : Program) (Φ : Exit → St → Prop) (s : St) : Prop :=
  @sIf (s.τ 23) ⟨W85_k8 P Φ s⟩ ⟨W85_b10 P Φ s⟩
def W85_b12 (P : Program) (Φ : Exit → St → Prop) (s : St) : Prop :=
  @sOp (some 25) (xBin .eql false (s.τ 15) (.int .i64 7) s.H) s <| .mk fun s =>
  @sOp (some 23) (xMov (s.τ 25) s.H) s <| .mk fun s =>
  W85_k11 P Φ s
def W85_b13 (P : Program) (Φ : Exit → St → Prop) (s : St) : Prop :=
  @sOp (some 24) (xBin .eql false (s.τ 15) (.int .i64 11) s.H) s <| .mk fun s =>
  @sOp (some 23) (xMov (s.τ 24) s.H) s <| .mk fun s =>
  @sIf (s.τ 23) ⟨W85_k11 P Φ s⟩ ⟨W85_b12 P Φ s⟩
def W85_b14 (P : Program) (Φ : Exit → St → Prop) (s : St) : Prop :=
  @sOp (some 12) (xFld 8 (s.τ 2) s.H) s <| .mk fun s =>
  @sOp (some 13) (xLoad 1 false (s.τ 12) s.H) s <| .mk fun s =>
  @sOp (some 5) (xMov (s.τ 13) s.H) s <| .mk fun s =>
  @sOp (some 14) (xFld 0 (s.τ 2) s.H) s <| .mk fun s =>
  @sOp (some 15) (xLoad 1 false (s.τ 14) s.H) s <| .mk fun s =>
  @sOp (some 17) (xBin .eql false (s.τ 15) (.int .i64 12) s.H) s <| .mk fun s =>
  @sOp (some 16) (xMov (s.τ 17) s.H) s <| .mk fun s =>
  @sIf (s.τ 16) ⟨W85_b9 P Φ s⟩ ⟨W85_b13 P Φ s⟩
def W85_c15 (P : Program) (Φ : Exit → St → Prop) (s : St) : Prop :=
  @sOp (some 11) (xNot (s.τ 10) s.H) s <| .mk fun s =>
  @sIf (s.τ 11) ⟨W85_b1 P Φ s⟩ ⟨W85_b14 P Φ s⟩
def W85 (P : Program) (Φ : Exit → St → Prop) (s : St) : Prop :=
  @sOp (some 2) (xBox 2 34 (s.τ 0) s.H) s <| .mk fun s =>
  @sOp (some 4) (xMov (.bool false) s.H) s <| .mk fun s =>
  @sOp (some 8) (xMov (s.τ 1) s.H) s <| .mk fun s =>
  @sOp (some 9) (xLoad 9 true (s.τ 2) s.H) s <| .mk fun s =>
  @sCall P (s.τ 8) [(s.τ 9)] (some 10) s ⟨W85_c15 P Φ⟩
theorem W85_rs (τ : Nat → AV) (H : Heap) : resV Try.prog τ H [.tmp 4] = some (τ 4) := by kernel_rfl
theorem W85_eq (Φ : Exit → St → Prop) (s : St) : awp Try.prog (Try.f85.body.getD .skip) Φ s = W85 Try.prog Φ s := by kernel_rfl

-- 94 "(penance/steps.place).below"
def W94_k1 (P : Program) (Φ : Exit → St → Prop) (s : St) : Prop :=
  @sOp (some 31) (xLoad 11 true (s.τ 5) s.H) s <| .mk fun s =>
  @sOp none (xStore 11 (s.τ 4) (s.τ 31) s.H) s <| .mk fun s =>
  Φ .ret s
def W94_c2 (P : Program) (Φ : Exit → St → Prop) (s : St) : Prop :=
  @sOp (some 28) (xLen (s.τ 27) s.H) s <| .mk fun s =>
  @sOp (some 29) (xBin .gtr false (s.τ 28) (.int .i64 0) s.H) s <| .mk fun s =>
  @sOp (some 30) (xFld 10 (s.τ 5) s.H) s <| .mk fun s =>
  @sOp none (xStore 1 (s.τ 30) (s.τ 29) s.H) s <| .mk fun s =>
  W94_k1 P Φ s
def W94_b3 (P : Program) (Φ : Exit → St → Prop) (s : St) : Prop :=
  @sOp (some 25) (xFld 0 (s.τ 5) s.H) s <| .mk fun s =>
  @sOp (some 26) (xLoad 9 true (s.τ 25) s.H) s <| .mk fun s =>
  @sCall P (.func 41 []) [(s.τ 26)] (some 27) s ⟨W94_c2 P Φ⟩
def W94_c4 (P : Program) (Φ : Exit → St → Prop) (u0 : St) (u1 : St) (u2 : St) (u4 : St) (u5 : St) (u6 : St) (u7 : St) (u8 : St) (s : St) : Prop :=
  @sOp (some 15) (xMov (s.τ 1) s.H) s <| .mk fun u10 =>
  @sChk (compat (occ (u0.τ 2), []) ([16] ++ occL [(u10.τ 15)], [16] ++ occL [(u10.τ 15)])) <| .mk <|
  @sChk (compat (occ (u1.τ 6), []) ([16] ++ occL [(u10.τ 15)], [16] ++ occL [(u10.τ 15)])) <| .mk <|
  @sChk (compat (occ (u2.τ 7), []) ([16] ++ occL [(u10.τ 15)], [16] ++ occL [(u10.τ 15)])) <| .mk <|
  @sChk (compat (occ (u4.τ 8), []) ([16] ++ occL [(u10.τ 15)], [16] ++ occL [(u10.τ 15)])) <| .mk <|
  @sChk (compat (occ (u5.τ 10), []) ([16] ++ occL [(u10.τ 15)], [16] ++ occL [(u10.τ 15)])) <| .mk <|
  @sChk (compat (occ (u6.τ 2), []) ([16] ++ occL [(u10.τ 15)], [16] ++ occL [(u10.τ 15)])) <| .mk <|
  @sChk (compat (occ (u7.τ 12), []) ([16] ++ occL [(u10.τ 15)], [16] ++ occL [(u10.τ 15)])) <| .mk <|
  @sChk (compat ([14] ++ (occ (.func 49 []) ++ occL [(u8.τ 13)]), [14] ++ (occ (.func 49 []) ++ occL [(u8.τ 13)])) ([16] ++ occL [(u10.τ 15)], [16] ++ occL [(u10.τ 15)])) <| .mk <|
  @sOp (some 16) (xLit 1 1 [.int .i64 0] [(0, (u10.τ 15))] u10.H) u10 <| .mk fun u11 =>
  @sChk (compat (occ (u0.τ 2), []) ([17] ++ (occ (u11.τ 14) ++ occ (u11.τ 16)), [17] ++ occ (u11.τ 14))) <| .mk <|
  @sChk (compat (occ (u1.τ 6), []) ([17] ++ (occ (u11.τ 14) ++ occ (u11.τ 16)), [17] ++ occ (u11.τ 14))) <| .mk <|
  @sChk (compat (occ (u2.τ 7), []) ([17] ++ (occ (u11.τ 14) ++ occ (u11.τ 16)), [17] ++ occ (u11.τ 14))) <| .mk <|
  @sChk (compat (occ (u4.τ 8), []) ([17] ++ (occ (u11.τ 14) ++ occ (u11.τ 16)), [17] ++ occ (u11.τ 14))) <| .mk <|
  @sChk (compat (occ (u5.τ 10), []) ([17] ++ (occ (u11.τ 14) ++ occ (u11.τ 16)), [17] ++ occ (u11.τ 14))) <| .mk <|
  @sOp (some 17) (xApp P 3 1 8 (some 17) (u11.τ 14) (u11.τ 16) u11.H) u11 <| .mk fun u12 =>
  @sChk (compat ([14] ++ (occ (.func 49 []) ++ occL [(u8.τ 13)]), [14] ++ (occ (.func 49 []) ++ occL [(u8.τ 13)])) (occ (u12.τ 2), [])) <| .mk <|
  @sChk (compat ([16] ++ occL [(u10.τ 15)], [16] ++ occL [(u10.τ 15)]) (occ (u12.τ 2), [])) <| .mk <|
  @sChk (compat ([17] ++ (occ (u11.τ 14) ++ occ (u11.τ 16)), [17] ++ occ (u11.τ 14)) (occ (u12.τ 2), [])) <| .mk <|
  @sOp (some 18) (xFld 10 (u12.τ 2) u12.H) u12 <| .mk fun u13 =>
  @sChk (compat ([14] ++ (occ (.func 49 []) ++ occL [(u8.τ 13)]), [14] ++ (occ (.func 49 []) ++ occL [(u8.τ 13)])) (occ (u13.τ 18), [])) <| .mk <|
  @sChk (compat ([16] ++ occL [(u10.τ 15)], [16] ++ occL [(u10.τ 15)]) (occ (u13.τ 18), [])) <| .mk <|
  @sChk (compat ([17] ++ (occ (u11.τ 14) ++ occ (u11.τ 16)), [17] ++ occ (u11.τ 14)) (occ (u13.τ 18), [])) <| .mk <|
  @sOp (some 19) (xLoad 1 false (u13.τ 18) u13.H) u13 <| .mk fun u14 =>
  @sOp (some 20) (xBuild [.int .i64 0, .int .i64 0, .int .i64 0, .str ⟨#[]⟩, .int .i64 0, .int .i64 0, .str ⟨#[]⟩, .nils, .nils, .nils, .bool false] [(0, 9, (u14.τ 11)), (9, 1, (u14.τ 17)), (10, 1, (u14.τ 19))] u14.H) u14 <| .mk fun u15 =>
  @sChk (compat (occ (u0.τ 2), []) ([5], [5])) <| .mk <|
  @sChk (compat (occ (u1.τ 6), []) ([5], [5])) <| .mk <|
  @sChk (compat (occ (u2.τ 7), []) ([5], [5])) <| .mk <|
  @sChk (compat (occ (u4.τ 8), []) ([5], [5])) <| .mk <|
  @sChk (compat (occ (u5.τ 10), []) ([5], [5])) <| .mk <|
  @sChk (compat (occ (u6.τ 2), []) ([5], [5])) <| .mk <|
  @sChk (compat (occ (u7.τ 12), []) ([5], [5])) <| .mk <|
  @sChk (compat ([14] ++ (occ (.func 49 []) ++ occL [(u8.τ 13)]), [14] ++ (occ (.func 49 []) ++ occL [(u8.τ 13)])) ([5], [5])) <| .mk <|
  @sChk (compat ([16] ++ occL [(u10.τ 15)], [16] ++ occL [(u10.τ 15)]) ([5], [5])) <| .mk <|
  @sChk (compat ([17] ++ (occ (u11.τ 14) ++ occ (u11.τ 16)), [17] ++ occ (u11.τ 14)) ([5], [5])) <| .mk <|
  @sChk (compat (occ (u12.τ 2), []) ([5], [5])) <| .mk <|
  @sChk (compat (occ (u13.τ 18), []) ([5], [5])) <| .mk <|
  @sOp (some 5) (xAlloc 5 83 [.int .i64 0, .int .i64 0, .int .i64 0, .str ⟨#[]⟩, .int .i64 0, .int .i64 0, .str ⟨#[]⟩, .nils, .nils, .nils, .bool false] u15.H) u15 <| .mk fun u16 =>
  @sOp none (xStore 11 (u16.τ 5) (u16.τ 20) u16.H) u16 <| .mk fun s =>
  @sOp (some 21) (xFld 0 (s.τ 2) s.H) s <| .mk fun s =>
  @sOp (some 22) (xFld 0 (s.τ 21) s.H) s <| .mk fun s =>
  @sOp (some 23) (xLoad 1 false (s.τ 22) s.H) s <| .mk fun s =>
  @sOp (some 24) (xBin .eql false (s.τ 23) (.int .i64 7) s.H) s <| .mk fun s =>
  @sIf (s.τ 24) ⟨W94_b3 P Φ s⟩ ⟨W94_k1 P Φ s⟩
def W94 (P : Program) (Φ : Exit → St → Prop) (s : St) : Prop :=
  @sOp (some 2) (xBox 2 83 (s.τ 0) s.H) s <| .mk fun s =>
  @sOp (some 4) (xAlloc 4 83 [.int .i64 0, .int .i64 0, .int .i64 0, .str ⟨#[]⟩, .int .i64 0, .int .i64 0, .str ⟨#[]⟩, .nils, .nils, .nils, .bool false] s.H) s <| .mk fun s =>
  @sOp (some 6) (xFld 0 (s.τ 2) s.H) s <| .mk fun u1 =>
  @sOp (some 7) (xFld 8 (u1.τ 6) u1.H) u1 <| .mk fun u2 =>
  @sOp (some 8) (xLoad 1 false (u2.τ 7) u2.H) u2 <| .mk fun u3 =>
  @sOp (some 9) (xMov (u3.τ 1) u3.H) u3 <| .mk fun u4 =>
  @sOp (some 10) (xIx 9 (u4.τ 8) (u4.τ 9) u4.H) u4 <| .mk fun u5 =>
  @sOp (some 11) (xLoad 9 true (u5.τ 10) u5.H) u5 <| .mk fun u6 =>
  @sOp (some 12) (xFld 9 (u6.τ 2) u6.H) u6 <| .mk fun u7 =>
  @sOp (some 13) (xLoad 1 false (u7.τ 12) u7.H) u7 <| .mk fun u8 =>
  @sChk (compat (occ (s.τ 2), []) ([14] ++ (occ (.func 49 []) ++ occL [(u8.τ 13)]), [14] ++ (occ (.func 49 []) ++ occL [(u8.τ 13)]))) <| .mk <|
  @sChk (compat (occ (u1.τ 6), []) ([14] ++ (occ (.func 49 []) ++ occL [(u8.τ 13)]), [14] ++ (occ (.func 49 []) ++ occL [(u8.τ 13)]))) <| .mk <|
  @sChk (compat (occ (u2.τ 7), []) ([14] ++ (occ (.func 49 []) ++ occL [(u8.τ 13)]), [14] ++ (occ (.func 49 []) ++ occL [(u8.τ 13)]))) <| .mk <|
  @sChk (compat (occ (u4.τ 8), []) ([14] ++ (occ (.func 49 []) ++ occL [(u8.τ 13)]), [14] ++ (occ (.func 49 []) ++ occL [(u8.τ 13)]))) <| .mk <|
  @sChk (compat (occ (u5.τ 10), []) ([14] ++ (occ (.func 49 []) ++ occL [(u8.τ 13)]), [14] ++ (occ (.func 49 []) ++ occL [(u8.τ 13)]))) <| .mk <|
  @sCall0 P (.func 49 []) [(u8.τ 13)] (some 14) u8 ⟨W94_c4 P Φ s u1 u2 u4 u5 u6 u7 u8⟩
theorem W94_rs (τ : Nat → AV) (H : Heap) : resV Try.prog τ H [.cell 4 83] = rdV H 11 true (τ 4) := by kernel_rfl
theorem W94_eq (Φ : Exit → St → Prop) (s : St) : awp Try.prog (Try.f94.body.getD .skip) Φ s = W94 Try.prog Φ s := by kernel_rfl

-- 95 "penance/lex.Key"
def W95_c1 (P : Program) (Φ : Exit → St → Prop) (s : St) : Prop :=
  @sOp (some 2) (xMov (s.τ 5) s.H) s <| .mk fun s =>
  Φ .ret s
def W95_c2 (P : Program) (Φ : Exit → St → Prop) (s : St) : Prop :=
  @sOp (some 4) (xMov (s.τ 0) s.H) s <| .mk fun s =>
  @sCall P (.func 105 []) [(s.τ 3), (s.τ 4)] (some 5) s ⟨W95_c1 P Φ⟩
def W95 (P : Program) (Φ : Exit → St → Prop) (s : St) : Prop :=
  @sOp (some 2) (xMov (.bool false) s.H) s <| .mk fun s =>
  @sCall P (.func 106 []) [] (some 3) s ⟨W95_c2 P Φ⟩
theorem W95_rs (τ : Nat → AV) (H : Heap) : resV Try.prog τ H [.tmp 2] = some (τ 2) := by kernel_rfl
theorem W95_eq (Φ : Exit → St → Prop) (s : St) : awp Try.prog (Try.f95.body.getD .skip) Φ s = W95 Try.prog Φ s := by kernel_rfl

-- 96 "penance/lex.small"
def W96_c1 (P : Program) (Φ : Exit → St → Prop) (s : St) : Prop :=
  @sOp (some 8) (xPick (s.τ 5) (s.τ 7) (.bool false) s.H) s <| .mk fun s =>
  @sOp (some 2) (xMov (s.τ 8) s.H) s <| .mk fun s =>
  Φ .ret s
def W96_c2 (P : Program) (Φ : Exit → St → Prop) (s : St) : Prop :=
  @sGrd (guardOf (s.τ 5) true) (some 7) s ⟨fun s K => @sOp (some 7) (xBin .leq false (s.τ 6) (.int .u8 122) s.H) s ⟨K⟩⟩ ⟨W96_c1 P Φ⟩
def W96 (P : Program) (Φ : Exit → St → Prop) (s : St) : Prop :=
  @sOp (some 2) (xMov (.bool false) s.H) s <| .mk fun s =>
  @sOp (some 3) (xMov (s.τ 0) s.H) s <| .mk fun s =>
  @sOp (some 4) (xBin .geq false (s.τ 3) (.int .u8 97) s.H) s <| .mk fun s =>
  @sOp (some 5) (xMov (s.τ 4) s.H) s <| .mk fun s =>
  @sGrd (guardOf (s.τ 5) true) (some 6) s ⟨fun s K => @sOp (some 6) (xMov (s.τ 0) s.H) s ⟨K⟩⟩ ⟨W96_c2 P Φ⟩
theorem W96_rs (τ : Nat → AV) (H : Heap) : resV Try.prog τ H [.tmp 2] = some (τ 2) := by kernel_rfl
theorem W96_eq (Φ : Exit → St → Prop) (s : St) : awp Try.prog (Try.f96.body.getD .skip) Φ s = W96 Try.prog Φ s := by kernel_rfl

-- 97 "penance/lex.inner"
def W97_c1 (P : Program) (Φ : Exit → St → Prop) (s : St) : Prop :=
  @sOp (some 12) (xPick (s.τ 9) (.bool true) (s.τ 11) s.H) s <| .mk fun s =>
  @sOp (some 2) (xMov (s.τ 12) s.H) s <| .mk fun s =>
  Φ .ret s
def W97_c2 (P : Program) (Φ : Exit → St → Prop) (s : St) : Prop :=
  @sGrd (guardOf (s.τ 9) false) (some 11) s ⟨fun s K => @sOp (some 11) (xBin .eql false (s.τ 10) (.int .u8 95) s.H) s ⟨K⟩⟩ ⟨W97_c1 P Φ⟩
def W97_c3 (P : Program) (Φ : Exit → St → Prop) (s : St) : Prop :=
  @sOp (some 8) (xPick (s.τ 5) (.bool true) (s.τ 7) s.H) s <| .mk fun s =>
  @sOp (some 9) (xMov (s.τ 8) s.H) s <| .mk fun s =>
  @sGrd (guardOf (s.τ 9) false) (some 10) s ⟨fun s K => @sOp (some 10) (xMov (s.τ 0) s.H) s ⟨K⟩⟩ ⟨W97_c2 P Φ⟩
def W97_c4 (P : Program) (Φ : Exit → St → Prop) (s : St) : Prop :=
  @sGrd (guardOf (s.τ 5) false) (some 7) s ⟨fun s K => @sCall P (.func 107 []) [(s.τ 6)] (some 7) s ⟨K⟩⟩ ⟨W97_c3 P Φ⟩
def W97_c5 (P : Program) (Φ : Exit → St → Prop) (s : St) : Prop :=
  @sOp (some 5) (xMov (s.τ 4) s.H) s <| .mk fun s =>
  @sGrd (guardOf (s.τ 5) false) (some 6) s ⟨fun s K => @sOp (some 6) (xMov (s.τ 0) s.H) s ⟨K⟩⟩ ⟨W97_c4 P Φ⟩
def W97 (P : Program) (Φ : Exit → St → Prop) (s : St) : Prop :=
  @sOp (some 2) (xMov (.bool false) s.H) s <| .mk fun s =>
  @sOp (some 3) (xMov (s.τ 0) s.H) s <| .mk fun s =>
  @sCall P (.func 96 []) [(s.τ 3)] (some 4) s ⟨W97_c5 P Φ⟩
theorem W97_rs (τ : Nat → AV) (H : Heap) : resV Try.prog τ H [.tmp 2] = some (τ 2) := by kernel_rfl
theorem W97_eq (Φ : Exit → St → Prop) (s : St) : awp Try.prog (Try.f97.body.getD .skip) Φ s = W97 Try.prog Φ s := by kernel_rfl

-- 99 "penance/expr.children"
def W99_b1 (P : Program) (Φ : Exit → St → Prop) (s : St) : Prop :=
  @sOp (some 2) (xMov (.int .i64 0) s.H) s <| .mk fun s =>
  Φ .ret s
def W99_b2 (P : Program) (Φ : Exit → St → Prop) (s : St) : Prop :=
  @sOp (some 2) (xMov (.int .i64 1) s.H) s <| .mk fun s =>
  Φ .ret s
def W99_b3 (P : Program) (Φ : Exit → St → Prop) (s : St) : Prop :=
  @sOp (some 2) (xMov (.int .i64 2) s.H) s <| .mk fun s =>
  Φ .ret s
def W99_c4 (P : Program) (Φ : Exit → St → Prop) (s : St) : Prop :=
  @sOp (some 16) (xPick (s.τ 13) (.bool true) (s.τ 15) s.H) s <| .mk fun s =>
  @sOp (some 10) (xMov (s.τ 16) s.H) s <| .mk fun s =>
  @sIf (s.τ 10) ⟨W99_b2 P Φ s⟩ ⟨W99_b3 P Φ s⟩
def W99_c5 (P : Program) (Φ : Exit → St → Prop) (s : St) : Prop :=
  @sGrd (guardOf (s.τ 13) false) (some 15) s ⟨fun s K => @sOp (some 15) (xBin .eql false (s.τ 14) (.int .i64 4) s.H) s ⟨K⟩⟩ ⟨W99_c4 P Φ⟩
def W99_b6 (P : Program) (Φ : Exit → St → Prop) (s : St) : Prop :=
  @sOp (some 11) (xMov (s.τ 0) s.H) s <| .mk fun s =>
  @sOp (some 12) (xBin .eql false (s.τ 11) (.int .i64 3) s.H) s <| .mk fun s =>
  @sOp (some 13) (xMov (s.τ 12) s.H) s <| .mk fun s =>
  @sGrd (guardOf (s.τ 13) false) (some 14) s ⟨fun s K => @sOp (some 14) (xMov (s.τ 0) s.H) s ⟨K⟩⟩ ⟨W99_c5 P Φ⟩
def W99_c7 (P : Program) (Φ : Exit → St → Prop) (s : St) : Prop :=
  @sOp (some 9) (xPick (s.τ 6) (.bool true) (s.τ 8) s.H) s <| .mk fun s =>
  @sOp (some 3) (xMov (s.τ 9) s.H) s <| .mk fun s =>
  @sIf (s.τ 3) ⟨W99_b1 P Φ s⟩ ⟨W99_b6 P Φ s⟩
def W99_c8 (P : Program) (Φ : Exit → St → Prop) (s : St) : Prop :=
  @sGrd (guardOf (s.τ 6) false) (some 8) s ⟨fun s K => @sOp (some 8) (xBin .eql false (s.τ 7) (.int .i64 2) s.H) s ⟨K⟩⟩ ⟨W99_c7 P Φ⟩
def W99 (P : Program) (Φ : Exit → St → Prop) (s : St) : Prop :=
  @sOp (some 2) (xMov (.int .i64 0) s.H) s <| .mk fun s =>
  @sOp (some 4) (xMov (s.τ 0) s.H) s <| .mk fun s =>
  @sOp (some 5) (xBin .eql false (s.τ 4) (.int .i64 1) s.H) s <| .mk fun s =>
  @sOp (some 6) (xMov (s.τ 5) s.H) s <| .mk fun s =>
  @sGrd (guardOf (s.τ 6) false) (some 7) s ⟨fun s K => @sOp (some 7) (xMov (s.τ 0) s.H) s ⟨K⟩⟩ ⟨W99_c8 P Φ⟩
theorem W99_rs (τ : Nat → AV) (H : Heap) : resV Try.prog τ H [.tmp 2] = some (τ 2) := by kernel_rfl
theorem W99_eq (Φ : Exit → St → Prop) (s : St) : awp Try.prog (Try.f99.body.getD .skip) Φ s = W99 Try.prog Φ s := by kernel_rfl

-- 100 "slices.Clone[[]penance/api.Expr,penance/api.Expr]"
def W100_b1 (P : Program) (Φ : Exit → St → Prop) (s : St) : Prop :=
  @sOp (some 2) (xMov (.nils) s.H) s <| .mk fun s =>
  Φ .ret s
def W100_b2 (P : Program) (Φ : Exit → St → Prop) (s : St) : Prop :=
  @sOp (some 5) (xRow 5 31 4 0 [.int .i64 0, .int .i64 0, .str ⟨#[]⟩, .nils] [] s.H) s <| .mk fun s =>
  @sOp (some 6) (xMov (s.τ 0) s.H) s <| .mk fun s =>
  @sOp (some 7) (xApp P 31 4 56 (some 7) (s.τ 5) (s.τ 6) s.H) s <| .mk fun s =>
  @sOp (some 2) (xMov (s.τ 7) s.H) s <| .mk fun s =>
  Φ .ret s
def W100_c3 (P : Program) (Φ : Exit → St → Prop) (s : St) : Prop :=
  @sIf (s.τ 4) ⟨W100_b1 P Φ s⟩ ⟨W100_b2 P Φ s⟩
def W100 (P : Program) (Φ : Exit → St → Prop) (s : St) : Prop :=
  @sOp (some 2) (xMov (.nils) s.H) s <| .mk fun s =>
  @sOp (some 3) (xMov (s.τ 0) s.H) s <| .mk fun s =>
  @sNil false (s.τ 3) (some 4) s ⟨W100_c3 P Φ⟩
theorem W100_rs (τ : Nat → AV) (H : Heap) : resV Try.prog τ H [.tmp 2] = some (τ 2) := by kernel_rfl
theorem W100_eq (Φ : Exit → St → Prop) (s : St) : awp Try.prog (Try.f100.body.getD .skip) Φ s = W100 Try.prog Φ s := by kernel_rfl

end Go.Proofs.Ytkagfenchknjjaa
