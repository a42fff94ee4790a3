import Derived.Test.YtkagfenchknjjaaAmSimp
import Derived.Test.YtkagfenchknjjaaProg
import Derived.KernelRfl
set_option linter.unusedVariables false
namespace Go.Proofs.Ytkagfenchknjjaa
open Go Go.Am
-- 105 "slices.Contains[[]string,string]"
def W105_c1 (P : Program) (Φ : Exit → St → Prop) (s : St) : Prop :=
  @sOp (some 8) (xBin .geq false (s.τ 7) (.int .i64 0) s.H) s <| .mk fun s =>
  @sOp (some 4) (xMov (s.τ 8) s.H) s <| .mk fun s =>
  Φ .ret s
def W105 (P : Program) (Φ : Exit → St → Prop) (s : St) : Prop :=
  @sOp (some 4) (xMov (.bool false) s.H) s <| .mk fun s =>
  @sOp (some 5) (xMov (s.τ 0) s.H) s <| .mk fun s =>
  @sOp (some 6) (xMov (s.τ 1) s.H) s <| .mk fun s =>
  @sCall P (.func 114 []) [(s.τ 5), (s.τ 6)] (some 7) s ⟨W105_c1 P Φ⟩
theorem W105_rs (τ : Nat → AV) (H : Heap) : resV Try.prog τ H [.tmp 4] = some (τ 4) := by kernel_rfl
theorem W105_eq (Φ : Exit → St → Prop) (s : St) : awp Try.prog (Try.f105.body.getD .skip) Φ s = W105 Try.prog Φ s := by kernel_rfl

-- 106 "penance/lex.words"

def W106 (P : Program) (Φ : Exit → St → Prop) (s : St) : Prop :=
  @sOp (some 0) (xMov (.nils) s.H) s <| .mk fun s =>
  @sOp (some 1) (xLit 1 16 [.str ⟨#[]⟩] [(0, (.str ⟨#[118, 97, 114]⟩)), (1, (.str ⟨#[115, 116, 97, 99, 107]⟩)), (2, (.str ⟨#[112, 114, 111, 99]⟩)), (3, (.str ⟨#[115, 107, 105, 112]⟩)), (4, (.str ⟨#[100, 111]⟩)), (5, (.str ⟨#[112, 117, 115, 104]⟩)), (6, (.str ⟨#[114, 101, 118, 101, 114, 115, 101]⟩)), (7, (.str ⟨#[97, 99, 99, 101, 112, 116]⟩)), (8, (.str ⟨#[109, 101, 114, 103, 101]⟩)), (9, (.str ⟨#[98, 108, 111, 99, 107]⟩)), (10, (.str ⟨#[101, 120, 105, 116]⟩)), (11, (.str ⟨#[105, 102]⟩)), (12, (.str ⟨#[101, 108, 115, 101]⟩)), (13, (.str ⟨#[99, 104, 111, 111, 115, 101]⟩)), (14, (.str ⟨#[112, 97, 114]⟩)), (15, (.str ⟨#[99, 97, 108, 108]⟩))] s.H) s <| .mk fun s =>
  @sOp (some 0) (xMov (s.τ 1) s.H) s <| .mk fun s =>
  Φ .ret s
theorem W106_rs (τ : Nat → AV) (H : Heap) : resV Try.prog τ H [.tmp 0] = some (τ 0) := by kernel_rfl
theorem W106_eq (Φ : Exit → St → Prop) (s : St) : awp Try.prog (Try.f106.body.getD .skip) Φ s = W106 Try.prog Φ s := by kernel_rfl

-- 107 "penance/lex.digit"
def W107_c1 (P : Program) (Φ : Exit → St → Prop) (s : St) : Prop :=
  @sOp (some 8) (xPick (s.τ 5) (s.τ 7) (.bool false) s.H) s <| .mk fun s =>
  @sOp (some 2) (xMov (s.τ 8) s.H) s <| .mk fun s =>
  Φ .ret s
def W107_c2 (P : Program) (Φ : Exit → St → Prop) (s : St) : Prop :=
  @sGrd (guardOf (s.τ 5) true) (some 7) s ⟨fun s K => @sOp (some 7) (xBin .leq false (s.τ 6) (.int .u8 57) s.H) s ⟨K⟩⟩ ⟨W107_c1 P Φ⟩
def W107 (P : Program) (Φ : Exit → St → Prop) (s : St) : Prop :=
  @sOp (some 2) (xMov (.bool false) s.H) s <| .mk fun s =>
  @sOp (some 3) (xMov (s.τ 0) s.H) s <| .mk fun s =>
  @sOp (some 4) (xBin .geq false (s.τ 3) (.int .u8 48) s.H) s <| .mk fun s =>
  @sOp (some 5) (xMov (s.τ 4) s.H) s <| .mk fun s =>
  @sGrd (guardOf (s.τ 5) true) (some 6) s ⟨fun s K => @sOp (some 6) (xMov (s.τ 0) s.H) s ⟨K⟩⟩ ⟨W107_c2 P Φ⟩
theorem W107_rs (τ : Nat → AV) (H : Heap) : resV Try.prog τ H [.tmp 2] = some (τ 2) := by kernel_rfl
theorem W107_eq (Φ : Exit → St → Prop) (s : St) : awp Try.prog (Try.f107.body.getD .skip) Φ s = W107 Try.prog Φ s := by kernel_rfl

-- 114 "slices.Index[[]string,string]"
def W114_k1 (P : Program) (Φ : Exit → St → Prop) (s : St) : Prop :=
  @sOp (some 4) (xMov (.int .i64 (-1)) s.H) s <| .mk fun s =>
  Φ .ret s
def W114_b2 (P : Program) (Φ : Exit → St → Prop) (L0 : St → Prop) (s : St) : Prop :=
  @sOp (some 17) (xMov (s.τ 5) s.H) s <| .mk fun s =>
  @sOp (some 4) (xMov (s.τ 17) s.H) s <| .mk fun s =>
  Φ .ret s
def W114_b3 (P : Program) (Φ : Exit → St → Prop) (L0 : St → Prop) (s : St) : Prop :=
  @sOp (some 18) (xBin .add false (s.τ 8) (.int .i64 1) s.H) s <| .mk fun s =>
  @sOp (some 8) (xMov (s.τ 18) s.H) s <| .mk fun s =>
  L0 s
def W114_b4 (P : Program) (Φ : Exit → St → Prop) (L0 : St → Prop) (s : St) : Prop :=
  @sOp (some 10) (xMov (s.τ 8) s.H) s <| .mk fun s =>
  @sOp (some 5) (xMov (s.τ 10) s.H) s <| .mk fun s =>
  @sOp (some 11) (xMov (s.τ 1) s.H) s <| .mk fun s =>
  @sOp (some 12) (xMov (s.τ 0) s.H) s <| .mk fun s =>
  @sOp (some 13) (xMov (s.τ 5) s.H) s <| .mk fun s =>
  @sOp (some 14) (xIx 1 (s.τ 12) (s.τ 13) s.H) s <| .mk fun s =>
  @sOp (some 15) (xLoad 1 false (s.τ 14) s.H) s <| .mk fun s =>
  @sOp (some 16) (xBin .eql false (s.τ 11) (s.τ 15) s.H) s <| .mk fun s =>
  @sIf (s.τ 16) ⟨W114_b2 P Φ L0 s⟩ ⟨W114_b3 P Φ L0 s⟩
def W114_l5 (P : Program) (Φ : Exit → St → Prop) (L0 : St → Prop) (s : St) : Prop :=
  @sOp (some 9) (xBin .lss false (s.τ 8) (s.τ 7) s.H) s <| .mk fun s =>
  @sIf (s.τ 9) ⟨W114_b4 P Φ L0 s⟩ ⟨W114_k1 P Φ s⟩
def W114 (P : Program) (Φ : Exit → St → Prop) (s : St) : Prop :=
  @sOp (some 4) (xMov (.int .i64 0) s.H) s <| .mk fun s =>
  @sOp (some 6) (xMov (s.τ 0) s.H) s <| .mk fun s =>
  @sOp (some 7) (xLen (s.τ 6) s.H) s <| .mk fun s =>
  @sOp (some 8) (xMov (.int .i64 0) s.H) s <| .mk fun s =>
  @sLoop s ⟨fun L0 s => W114_l5 P Φ L0 s⟩
theorem W114_rs (τ : Nat → AV) (H : Heap) : resV Try.prog τ H [.tmp 4] = some (τ 4) := by kernel_rfl
theorem W114_eq (Φ : Exit → St → Prop) (s : St) : awp Try.prog (Try.f114.body.getD .skip) Φ s = W114 Try.prog Φ s := by kernel_rfl


end Go.Proofs.Ytkagfenchknjjaa
