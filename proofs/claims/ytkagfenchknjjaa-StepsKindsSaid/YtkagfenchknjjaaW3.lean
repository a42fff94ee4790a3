import Derived.Test.YtkagfenchknjjaaAmSimp
import Derived.Test.YtkagfenchknjjaaProg
import Derived.KernelRfl
set_option linter.unusedVariables false
namespace Go.Proofs.Ytkagfenchknjjaa
open Go Go.Am
-- 16 "penance/penancelaw5.TermSizes"
def W16_b1 (P : Program) (Φ : Exit → St → Prop) (s : St) : Prop :=
  @sOp (some 6) (xMov (.bool false) s.H) s <| .mk fun s =>
  Φ .ret s
def W16_b2 (P : Program) (Φ : Exit → St → Prop) (s : St) : Prop :=
  @sOp (some 6) (xMov (.bool true) s.H) s <| .mk fun s =>
  Φ .ret s
def W16_c3 (P : Program) (Φ : Exit → St → Prop) (s : St) : Prop :=
  @sOp (some 54) (xPick (s.τ 45) (s.τ 53) (.bool false) s.H) s <| .mk fun u28 =>
  @sOp (some 6) (xMov (u28.τ 54) u28.H) u28 <| .mk fun s =>
  Φ .ret s
def W16_c4 (P : Program) (Φ : Exit → St → Prop) (s : St) : Prop :=
  @sGrd (guardOf (s.τ 45) true) (some 53) s ⟨fun s K => @sOp (some 53) (xBin .eql false (s.τ 49) (s.τ 52) s.H) s ⟨K⟩⟩ ⟨W16_c3 P Φ⟩
def W16_c5 (P : Program) (Φ : Exit → St → Prop) (s : St) : Prop :=
  @sGrd (guardOf (s.τ 45) true) (some 52) s ⟨fun s K => @sOp (some 52) (xBin .add false (.int .i64 1) (s.τ 51) s.H) s ⟨K⟩⟩ ⟨W16_c4 P Φ⟩
def W16_c6 (P : Program) (Φ : Exit → St → Prop) (s : St) : Prop :=
  @sGrd (guardOf (s.τ 45) true) (some 51) s ⟨fun s K => @sCall0 P (.func 36 []) [(s.τ 50)] (some 51) s ⟨K⟩⟩ ⟨W16_c5 P Φ⟩
def W16_c7 (P : Program) (Φ : Exit → St → Prop) (u20 : St) (u22 : St) (s : St) : Prop :=
  @sChk (compat ([47] ++ occL [(u20.τ 46)], [47] ++ occL [(u20.τ 46)]) (occ (s.τ 7), [])) <| .mk <|
  @sChk (compat ([49] ++ (occ (.func 36 []) ++ occL [(u22.τ 48)]), [49] ++ (occ (.func 36 []) ++ occL [(u22.τ 48)])) (occ (s.τ 7), [])) <| .mk <|
  @sGrd (guardOf (s.τ 45) true) (some 50) s ⟨fun s K => @sOp (some 50) (xLoad 9 true (s.τ 7) s.H) s ⟨K⟩⟩ ⟨W16_c6 P Φ⟩
def W16_c8 (P : Program) (Φ : Exit → St → Prop) (u20 : St) (s : St) : Prop :=
  @sGrd (guardOf (s.τ 45) true) (some 49) s ⟨fun s K => @sCall0 P (.func 36 []) [(s.τ 48)] (some 49) s ⟨K⟩⟩ ⟨W16_c7 P Φ u20 s⟩
def W16_c9 (P : Program) (Φ : Exit → St → Prop) (u20 : St) (s : St) : Prop :=
  @sGrd (guardOf (s.τ 45) true) (some 48) s ⟨fun s K => @sOp (some 48) (xBuild [.int .i64 0, .int .i64 0, .int .i64 0, .str ⟨#[]⟩, .int .i64 0, .int .i64 0, .str ⟨#[]⟩, .nils, .nils] [(0, 1, (.int .i64 7)), (8, 1, (s.τ 47))] s.H) s ⟨K⟩⟩ ⟨W16_c8 P Φ u20⟩
def W16_c10 (P : Program) (Φ : Exit → St → Prop) (s : St) : Prop :=
  @sGrd (guardOf (s.τ 45) true) (some 47) s ⟨fun s K => @sOp (some 47) (xLit 9 1 [.int .i64 0, .int .i64 0, .int .i64 0, .str ⟨#[]⟩, .int .i64 0, .int .i64 0, .str ⟨#[]⟩, .nils, .nils] [(0, (s.τ 46))] s.H) s ⟨K⟩⟩ ⟨W16_c9 P Φ s⟩
def W16_c11 (P : Program) (Φ : Exit → St → Prop) (s : St) : Prop :=
  @sOp (some 44) (xPick (s.τ 30) (s.τ 43) (.bool false) s.H) s <| .mk fun u18 =>
  @sOp (some 45) (xMov (u18.τ 44) u18.H) u18 <| .mk fun u19 =>
  @sGrd (guardOf (u19.τ 45) true) (some 46) u19 ⟨fun s K => @sOp (some 46) (xLoad 9 true (s.τ 7) s.H) s ⟨K⟩⟩ ⟨W16_c10 P Φ⟩
def W16_c12 (P : Program) (Φ : Exit → St → Prop) (s : St) : Prop :=
  @sGrd (guardOf (s.τ 30) true) (some 43) s ⟨fun s K => @sOp (some 43) (xBin .eql false (s.τ 36) (s.τ 42) s.H) s ⟨K⟩⟩ ⟨W16_c11 P Φ⟩
def W16_c13 (P : Program) (Φ : Exit → St → Prop) (s : St) : Prop :=
  @sGrd (guardOf (s.τ 30) true) (some 42) s ⟨fun s K => @sOp (some 42) (xBin .add false (s.τ 39) (s.τ 41) s.H) s ⟨K⟩⟩ ⟨W16_c12 P Φ⟩
def W16_c14 (P : Program) (Φ : Exit → St → Prop) (s : St) : Prop :=
  @sGrd (guardOf (s.τ 30) true) (some 41) s ⟨fun s K => @sCall0 P (.func 36 []) [(s.τ 40)] (some 41) s ⟨K⟩⟩ ⟨W16_c13 P Φ⟩
def W16_c15 (P : Program) (Φ : Exit → St → Prop) (u7 : St) (u9 : St) (u11 : St) (s : St) : Prop :=
  @sChk (compat ([34] ++ occL [(u7.τ 32), (u7.τ 33)], [34] ++ occL [(u7.τ 32), (u7.τ 33)]) (occ (s.τ 8), [])) <| .mk <|
  @sChk (compat ([36] ++ (occ (.func 36 []) ++ occL [(u9.τ 35)]), [36] ++ (occ (.func 36 []) ++ occL [(u9.τ 35)])) (occ (s.τ 8), [])) <| .mk <|
  @sChk (compat ([38] ++ (occ (.func 36 []) ++ occL [(u11.τ 37)]), [38] ++ (occ (.func 36 []) ++ occL [(u11.τ 37)])) (occ (s.τ 8), [])) <| .mk <|
  @sGrd (guardOf (s.τ 30) true) (some 40) s ⟨fun s K => @sOp (some 40) (xLoad 9 true (s.τ 8) s.H) s ⟨K⟩⟩ ⟨W16_c14 P Φ⟩
def W16_c16 (P : Program) (Φ : Exit → St → Prop) (u7 : St) (u9 : St) (u11 : St) (s : St) : Prop :=
  @sGrd (guardOf (s.τ 30) true) (some 39) s ⟨fun s K => @sOp (some 39) (xBin .add false (.int .i64 1) (s.τ 38) s.H) s ⟨K⟩⟩ ⟨W16_c15 P Φ u7 u9 u11⟩
def W16_c17 (P : Program) (Φ : Exit → St → Prop) (u7 : St) (u9 : St) (s : St) : Prop :=
  @sGrd (guardOf (s.τ 30) true) (some 38) s ⟨fun s K => @sCall0 P (.func 36 []) [(s.τ 37)] (some 38) s ⟨K⟩⟩ ⟨W16_c16 P Φ u7 u9 s⟩
def W16_c18 (P : Program) (Φ : Exit → St → Prop) (u7 : St) (u9 : St) (s : St) : Prop :=
  @sChk (compat ([34] ++ occL [(u7.τ 32), (u7.τ 33)], [34] ++ occL [(u7.τ 32), (u7.τ 33)]) (occ (s.τ 7), [])) <| .mk <|
  @sChk (compat ([36] ++ (occ (.func 36 []) ++ occL [(u9.τ 35)]), [36] ++ (occ (.func 36 []) ++ occL [(u9.τ 35)])) (occ (s.τ 7), [])) <| .mk <|
  @sGrd (guardOf (s.τ 30) true) (some 37) s ⟨fun s K => @sOp (some 37) (xLoad 9 true (s.τ 7) s.H) s ⟨K⟩⟩ ⟨W16_c17 P Φ u7 u9⟩
def W16_c19 (P : Program) (Φ : Exit → St → Prop) (u7 : St) (s : St) : Prop :=
  @sGrd (guardOf (s.τ 30) true) (some 36) s ⟨fun s K => @sCall0 P (.func 36 []) [(s.τ 35)] (some 36) s ⟨K⟩⟩ ⟨W16_c18 P Φ u7 s⟩
def W16_c20 (P : Program) (Φ : Exit → St → Prop) (u7 : St) (s : St) : Prop :=
  @sGrd (guardOf (s.τ 30) true) (some 35) s ⟨fun s K => @sOp (some 35) (xBuild [.int .i64 0, .int .i64 0, .int .i64 0, .str ⟨#[]⟩, .int .i64 0, .int .i64 0, .str ⟨#[]⟩, .nils, .nils] [(0, 1, (s.τ 31)), (8, 1, (s.τ 34))] s.H) s ⟨K⟩⟩ ⟨W16_c19 P Φ u7⟩
def W16_c21 (P : Program) (Φ : Exit → St → Prop) (s : St) : Prop :=
  @sGrd (guardOf (s.τ 30) true) (some 34) s ⟨fun s K => @sOp (some 34) (xLit 9 2 [.int .i64 0, .int .i64 0, .int .i64 0, .str ⟨#[]⟩, .int .i64 0, .int .i64 0, .str ⟨#[]⟩, .nils, .nils] [(0, (s.τ 32)), (1, (s.τ 33))] s.H) s ⟨K⟩⟩ ⟨W16_c20 P Φ s⟩
def W16_c22 (P : Program) (Φ : Exit → St → Prop) (s : St) : Prop :=
  @sGrd (guardOf (s.τ 30) true) (some 33) s ⟨fun s K => @sOp (some 33) (xLoad 9 true (s.τ 8) s.H) s ⟨K⟩⟩ ⟨W16_c21 P Φ⟩
def W16_c23 (P : Program) (Φ : Exit → St → Prop) (s : St) : Prop :=
  @sGrd (guardOf (s.τ 30) true) (some 32) s ⟨fun s K => @sOp (some 32) (xLoad 9 true (s.τ 7) s.H) s ⟨K⟩⟩ ⟨W16_c22 P Φ⟩
def W16_c24 (P : Program) (Φ : Exit → St → Prop) (s : St) : Prop :=
  @sOp (some 29) (xBin .geq false (s.τ 28) (.int .i64 1) s.H) s <| .mk fun u3 =>
  @sOp (some 30) (xMov (u3.τ 29) u3.H) u3 <| .mk fun u4 =>
  @sGrd (guardOf (u4.τ 30) true) (some 31) u4 ⟨fun s K => @sOp (some 31) (xMov (s.τ 9) s.H) s ⟨K⟩⟩ ⟨W16_c23 P Φ⟩
def W16_c25 (P : Program) (Φ : Exit → St → Prop) (s : St) : Prop :=
  @sOp (some 25) (xIx 1 (s.τ 22) (s.τ 24) s.H) s <| .mk fun s =>
  @sOp (some 26) (xLoad 1 false (s.τ 25) s.H) s <| .mk fun s =>
  @sOp (some 9) (xMov (s.τ 26) s.H) s <| .mk fun s =>
  @sOp (some 27) (xLoad 9 true (s.τ 7) s.H) s <| .mk fun u1 =>
  @sCall0 P (.func 36 []) [(u1.τ 27)] (some 28) u1 ⟨W16_c24 P Φ⟩
def W16_c26 (P : Program) (Φ : Exit → St → Prop) (u0 : St) (u1 : St) (u2 : St) (u3 : St) (s : St) : Prop :=
  @sChk (compat (occ (u0.τ 3), []) ([7], [7])) <| .mk <|
  @sChk (compat ([19] ++ (occ (.func 23 []) ++ occL [(u1.τ 18), (.int .i64 0)]), [19] ++ (occ (.func 23 []) ++ occL [(u1.τ 18), (.int .i64 0)])) ([7], [7])) <| .mk <|
  @sChk (compat (occ (u2.τ 4), []) ([7], [7])) <| .mk <|
  @sChk (compat ([21] ++ (occ (.func 23 []) ++ occL [(u3.τ 20), (.int .i64 0)]), [21] ++ (occ (.func 23 []) ++ occL [(u3.τ 20), (.int .i64 0)])) ([7], [7])) <| .mk <|
  @sOp (some 7) (xAlloc 7 34 [.int .i64 0, .int .i64 0, .int .i64 0, .str ⟨#[]⟩, .int .i64 0, .int .i64 0, .str ⟨#[]⟩, .nils, .nils] s.H) s <| .mk fun u5 =>
  @sChk (compat (occ (u0.τ 3), []) ([8], [8])) <| .mk <|
  @sChk (compat ([19] ++ (occ (.func 23 []) ++ occL [(u1.τ 18), (.int .i64 0)]), [19] ++ (occ (.func 23 []) ++ occL [(u1.τ 18), (.int .i64 0)])) ([8], [8])) <| .mk <|
  @sChk (compat (occ (u2.τ 4), []) ([8], [8])) <| .mk <|
  @sChk (compat ([21] ++ (occ (.func 23 []) ++ occL [(u3.τ 20), (.int .i64 0)]), [21] ++ (occ (.func 23 []) ++ occL [(u3.τ 20), (.int .i64 0)])) ([8], [8])) <| .mk <|
  @sChk (compat ([7], [7]) ([8], [8])) <| .mk <|
  @sOp (some 8) (xAlloc 8 34 [.int .i64 0, .int .i64 0, .int .i64 0, .str ⟨#[]⟩, .int .i64 0, .int .i64 0, .str ⟨#[]⟩, .nils, .nils] u5.H) u5 <| .mk fun u6 =>
  @sOp none (xStore 9 (u6.τ 7) (u6.τ 19) u6.H) u6 <| .mk fun u7 =>
  @sOp none (xStore 9 (u7.τ 8) (u7.τ 21) u7.H) u7 <| .mk fun s =>
  @sOp (some 22) (xLit 1 3 [.int .i64 0] [(0, (.int .i64 12)), (1, (.int .i64 11)), (2, (.int .i64 10))] s.H) s <| .mk fun s =>
  @sOp (some 23) (xMov (s.τ 2) s.H) s <| .mk fun s =>
  @sCall P (.func 43 []) [(s.τ 23), (.int .i64 3)] (some 24) s ⟨W16_c25 P Φ⟩
def W16_c27 (P : Program) (Φ : Exit → St → Prop) (u0 : St) (u1 : St) (s : St) : Prop :=
  @sChk (compat ([19] ++ (occ (.func 23 []) ++ occL [(u1.τ 18), (.int .i64 0)]), [19] ++ (occ (.func 23 []) ++ occL [(u1.τ 18), (.int .i64 0)])) (occ (s.τ 4), [])) <| .mk <|
  @sOp (some 20) (xLoad 5 true (s.τ 4) s.H) s <| .mk fun u3 =>
  @sCall0 P (.func 23 []) [(u3.τ 20), (.int .i64 0)] (some 21) u3 ⟨W16_c26 P Φ u0 u1 s u3⟩
def W16_b28 (P : Program) (Φ : Exit → St → Prop) (s : St) : Prop :=
  @sOp (some 18) (xLoad 5 true (s.τ 3) s.H) s <| .mk fun u1 =>
  @sCall0 P (.func 23 []) [(u1.τ 18), (.int .i64 0)] (some 19) u1 ⟨W16_c27 P Φ s u1⟩
def W16_c29 (P : Program) (Φ : Exit → St → Prop) (s : St) : Prop :=
  @sOp (some 17) (xNot (s.τ 16) s.H) s <| .mk fun s =>
  @sIf (s.τ 17) ⟨W16_b2 P Φ s⟩ ⟨W16_b28 P Φ s⟩
def W16_b30 (P : Program) (Φ : Exit → St → Prop) (s : St) : Prop :=
  @sOp (some 12) (xLoad 5 true (s.τ 3) s.H) s <| .mk fun s =>
  @sOp (some 13) (xLoad 5 true (s.τ 4) s.H) s <| .mk fun s =>
  @sOp (some 14) (xLit 5 2 [.int .i64 0, .int .i64 0, .int .i64 0, .nils, .nils] [(0, (s.τ 12)), (1, (s.τ 13))] s.H) s <| .mk fun s =>
  @sOp (some 15) (xBuild [.int .i64 0, .int .i64 0, .nils] [(2, 1, (s.τ 14))] s.H) s <| .mk fun s =>
  @sCall P (.func 21 []) [(s.τ 15)] (some 16) s ⟨W16_c29 P Φ⟩
def W16_c31 (P : Program) (Φ : Exit → St → Prop) (s : St) : Prop :=
  @sOp (some 11) (xNot (s.τ 10) s.H) s <| .mk fun s =>
  @sIf (s.τ 11) ⟨W16_b1 P Φ s⟩ ⟨W16_b30 P Φ s⟩
def W16 (P : Program) (Φ : Exit → St → Prop) (s : St) : Prop :=
  @sOp (some 3) (xBox 3 25 (s.τ 0) s.H) s <| .mk fun s =>
  @sOp (some 4) (xBox 4 25 (s.τ 1) s.H) s <| .mk fun s =>
  @sOp (some 6) (xMov (.bool false) s.H) s <| .mk fun s =>
  @sCall P (.func 32 []) [] (some 10) s ⟨W16_c31 P Φ⟩
theorem W16_rs (τ : Nat → AV) (H : Heap) : resV Try.prog τ H [.tmp 6] = some (τ 6) := by kernel_rfl
theorem W16_eq (Φ : Exit → St → Prop) (s : St) : awp Try.prog (Try.f16.body.getD .skip) Φ s = W16 Try.prog Φ s := by kernel_rfl

-- 17 "penance/penancelaw5.TermSame"
def W17_b1 (P : Program) (Φ : Exit → St → Prop) (s : St) : Prop :=
  @sOp (some 10) (xMov (.bool false) s.H) s <| .mk fun s =>
  Φ .ret s
def W17_b2 (P : Program) (Φ : Exit → St → Prop) (s : St) : Prop :=
  @sOp (some 10) (xMov (.bool true) s.H) s <| .mk fun s =>
  Φ .ret s
def W17_c3 (P : Program) (Φ : Exit → St → Prop) (s : St) : Prop :=
  @sOp (some 52) (xPick (s.τ 44) (s.τ 51) (.bool false) s.H) s <| .mk fun u21 =>
  @sOp (some 10) (xMov (u21.τ 52) u21.H) u21 <| .mk fun s =>
  Φ .ret s
def W17_c4 (P : Program) (Φ : Exit → St → Prop) (s : St) : Prop :=
  @sGrd (guardOf (s.τ 44) true) (some 51) s ⟨fun s K => @sOp (some 51) (xBin .eql true (s.τ 47) (s.τ 50) s.H) s ⟨K⟩⟩ ⟨W17_c3 P Φ⟩
def W17_c5 (P : Program) (Φ : Exit → St → Prop) (s : St) : Prop :=
  @sGrd (guardOf (s.τ 44) true) (some 50) s ⟨fun s K => @sCall0 P (.func 39 []) [(s.τ 48), (s.τ 49)] (some 50) s ⟨K⟩⟩ ⟨W17_c4 P Φ⟩
def W17_c6 (P : Program) (Φ : Exit → St → Prop) (u15 : St) (s : St) : Prop :=
  @sChk (compat ([47] ++ (occ (.func 38 []) ++ occL [(u15.τ 45), (u15.τ 46)]), [47] ++ (occ (.func 38 []) ++ occL [(u15.τ 45), (u15.τ 46)])) (occ (s.τ 11), [])) <| .mk <|
  @sGrd (guardOf (s.τ 44) true) (some 49) s ⟨fun s K => @sOp (some 49) (xLoad 9 true (s.τ 11) s.H) s ⟨K⟩⟩ ⟨W17_c5 P Φ⟩
def W17_c7 (P : Program) (Φ : Exit → St → Prop) (u15 : St) (s : St) : Prop :=
  @sChk (compat ([47] ++ (occ (.func 38 []) ++ occL [(u15.τ 45), (u15.τ 46)]), [47] ++ (occ (.func 38 []) ++ occL [(u15.τ 45), (u15.τ 46)])) (occ (s.τ 13), [])) <| .mk <|
  @sGrd (guardOf (s.τ 44) true) (some 48) s ⟨fun s K => @sOp (some 48) (xLoad 9 true (s.τ 13) s.H) s ⟨K⟩⟩ ⟨W17_c6 P Φ u15⟩
def W17_c8 (P : Program) (Φ : Exit → St → Prop) (s : St) : Prop :=
  @sGrd (guardOf (s.τ 44) true) (some 47) s ⟨fun s K => @sCall0 P (.func 38 []) [(s.τ 45), (s.τ 46)] (some 47) s ⟨K⟩⟩ ⟨W17_c7 P Φ s⟩
def W17_c9 (P : Program) (Φ : Exit → St → Prop) (s : St) : Prop :=
  @sGrd (guardOf (s.τ 44) true) (some 46) s ⟨fun s K => @sOp (some 46) (xLoad 9 true (s.τ 11) s.H) s ⟨K⟩⟩ ⟨W17_c8 P Φ⟩
def W17_c10 (P : Program) (Φ : Exit → St → Prop) (s : St) : Prop :=
  @sOp (some 43) (xPick (s.τ 35) (s.τ 42) (.bool false) s.H) s <| .mk fun u12 =>
  @sOp (some 44) (xMov (u12.τ 43) u12.H) u12 <| .mk fun u13 =>
  @sGrd (guardOf (u13.τ 44) true) (some 45) u13 ⟨fun s K => @sOp (some 45) (xLoad 9 true (s.τ 13) s.H) s ⟨K⟩⟩ ⟨W17_c9 P Φ⟩
def W17_c11 (P : Program) (Φ : Exit → St → Prop) (s : St) : Prop :=
  @sGrd (guardOf (s.τ 35) true) (some 42) s ⟨fun s K => @sOp (some 42) (xBin .eql true (s.τ 38) (s.τ 41) s.H) s ⟨K⟩⟩ ⟨W17_c10 P Φ⟩
def W17_c12 (P : Program) (Φ : Exit → St → Prop) (s : St) : Prop :=
  @sGrd (guardOf (s.τ 35) true) (some 41) s ⟨fun s K => @sCall0 P (.func 39 []) [(s.τ 39), (s.τ 40)] (some 41) s ⟨K⟩⟩ ⟨W17_c11 P Φ⟩
def W17_c13 (P : Program) (Φ : Exit → St → Prop) (u6 : St) (s : St) : Prop :=
  @sChk (compat ([38] ++ (occ (.func 38 []) ++ occL [(u6.τ 36), (u6.τ 37)]), [38] ++ (occ (.func 38 []) ++ occL [(u6.τ 36), (u6.τ 37)])) (occ (s.τ 13), [])) <| .mk <|
  @sGrd (guardOf (s.τ 35) true) (some 40) s ⟨fun s K => @sOp (some 40) (xLoad 9 true (s.τ 13) s.H) s ⟨K⟩⟩ ⟨W17_c12 P Φ⟩
def W17_c14 (P : Program) (Φ : Exit → St → Prop) (u6 : St) (s : St) : Prop :=
  @sChk (compat ([38] ++ (occ (.func 38 []) ++ occL [(u6.τ 36), (u6.τ 37)]), [38] ++ (occ (.func 38 []) ++ occL [(u6.τ 36), (u6.τ 37)])) (occ (s.τ 11), [])) <| .mk <|
  @sGrd (guardOf (s.τ 35) true) (some 39) s ⟨fun s K => @sOp (some 39) (xLoad 9 true (s.τ 11) s.H) s ⟨K⟩⟩ ⟨W17_c13 P Φ u6⟩
def W17_c15 (P : Program) (Φ : Exit → St → Prop) (s : St) : Prop :=
  @sGrd (guardOf (s.τ 35) true) (some 38) s ⟨fun s K => @sCall0 P (.func 38 []) [(s.τ 36), (s.τ 37)] (some 38) s ⟨K⟩⟩ ⟨W17_c14 P Φ s⟩
def W17_c16 (P : Program) (Φ : Exit → St → Prop) (s : St) : Prop :=
  @sGrd (guardOf (s.τ 35) true) (some 37) s ⟨fun s K => @sOp (some 37) (xLoad 9 true (s.τ 13) s.H) s ⟨K⟩⟩ ⟨W17_c15 P Φ⟩
def W17_c17 (P : Program) (Φ : Exit → St → Prop) (s : St) : Prop :=
  @sOp (some 35) (xMov (s.τ 34) s.H) s <| .mk fun u4 =>
  @sGrd (guardOf (u4.τ 35) true) (some 36) u4 ⟨fun s K => @sOp (some 36) (xLoad 9 true (s.τ 11) s.H) s ⟨K⟩⟩ ⟨W17_c16 P Φ⟩
def W17_c18 (P : Program) (Φ : Exit → St → Prop) (s : St) : Prop :=
  @sOp (some 13) (xAlloc 13 34 [.int .i64 0, .int .i64 0, .int .i64 0, .str ⟨#[]⟩, .int .i64 0, .int .i64 0, .str ⟨#[]⟩, .nils, .nils] s.H) s <| .mk fun s =>
  @sOp none (xStore 9 (s.τ 13) (s.τ 31) s.H) s <| .mk fun s =>
  @sOp (some 32) (xLoad 9 true (s.τ 11) s.H) s <| .mk fun u1 =>
  @sOp (some 33) (xLoad 9 true (u1.τ 12) u1.H) u1 <| .mk fun u2 =>
  @sCall0 P (.func 38 []) [(u2.τ 32), (u2.τ 33)] (some 34) u2 ⟨W17_c17 P Φ⟩
def W17_c19 (P : Program) (Φ : Exit → St → Prop) (u0 : St) (u2 : St) (u3 : St) (u5 : St) (s : St) : Prop :=
  @sChk (compat (occ (u0.τ 5), []) ([11], [11])) <| .mk <|
  @sChk (compat ([23] ++ (occ (.func 23 []) ++ occL [(u2.τ 21), (u2.τ 22)]), [23] ++ (occ (.func 23 []) ++ occL [(u2.τ 21), (u2.τ 22)])) ([11], [11])) <| .mk <|
  @sChk (compat (occ (u3.τ 5), []) ([11], [11])) <| .mk <|
  @sChk (compat ([26] ++ (occ (.func 23 []) ++ occL [(u5.τ 24), (u5.τ 25)]), [26] ++ (occ (.func 23 []) ++ occL [(u5.τ 24), (u5.τ 25)])) ([11], [11])) <| .mk <|
  @sOp (some 11) (xAlloc 11 34 [.int .i64 0, .int .i64 0, .int .i64 0, .str ⟨#[]⟩, .int .i64 0, .int .i64 0, .str ⟨#[]⟩, .nils, .nils] s.H) s <| .mk fun u7 =>
  @sChk (compat (occ (u0.τ 5), []) ([12], [12])) <| .mk <|
  @sChk (compat ([23] ++ (occ (.func 23 []) ++ occL [(u2.τ 21), (u2.τ 22)]), [23] ++ (occ (.func 23 []) ++ occL [(u2.τ 21), (u2.τ 22)])) ([12], [12])) <| .mk <|
  @sChk (compat (occ (u3.τ 5), []) ([12], [12])) <| .mk <|
  @sChk (compat ([26] ++ (occ (.func 23 []) ++ occL [(u5.τ 24), (u5.τ 25)]), [26] ++ (occ (.func 23 []) ++ occL [(u5.τ 24), (u5.τ 25)])) ([12], [12])) <| .mk <|
  @sChk (compat ([11], [11]) ([12], [12])) <| .mk <|
  @sOp (some 12) (xAlloc 12 34 [.int .i64 0, .int .i64 0, .int .i64 0, .str ⟨#[]⟩, .int .i64 0, .int .i64 0, .str ⟨#[]⟩, .nils, .nils] u7.H) u7 <| .mk fun u8 =>
  @sOp none (xStore 9 (u8.τ 11) (u8.τ 23) u8.H) u8 <| .mk fun u9 =>
  @sOp none (xStore 9 (u9.τ 12) (u9.τ 26) u9.H) u9 <| .mk fun s =>
  @sOp (some 27) (xLoad 9 true (s.τ 12) s.H) s <| .mk fun s =>
  @sOp (some 28) (xMov (s.τ 2) s.H) s <| .mk fun s =>
  @sOp (some 29) (xMov (s.τ 3) s.H) s <| .mk fun s =>
  @sOp (some 30) (xMov (s.τ 4) s.H) s <| .mk fun s =>
  @sCall P (.func 33 []) [(s.τ 27), (s.τ 28), (s.τ 29), (s.τ 30)] (some 31) s ⟨W17_c18 P Φ⟩
def W17_c20 (P : Program) (Φ : Exit → St → Prop) (u0 : St) (u2 : St) (s : St) : Prop :=
  @sChk (compat ([23] ++ (occ (.func 23 []) ++ occL [(u2.τ 21), (u2.τ 22)]), [23] ++ (occ (.func 23 []) ++ occL [(u2.τ 21), (u2.τ 22)])) (occ (s.τ 5), [])) <| .mk <|
  @sOp (some 24) (xLoad 5 true (s.τ 5) s.H) s <| .mk fun u4 =>
  @sOp (some 25) (xMov (u4.τ 1) u4.H) u4 <| .mk fun u5 =>
  @sCall0 P (.func 23 []) [(u5.τ 24), (u5.τ 25)] (some 26) u5 ⟨W17_c19 P Φ u0 u2 s u5⟩
def W17_b21 (P : Program) (Φ : Exit → St → Prop) (s : St) : Prop :=
  @sOp (some 21) (xLoad 5 true (s.τ 5) s.H) s <| .mk fun u1 =>
  @sOp (some 22) (xMov (u1.τ 1) u1.H) u1 <| .mk fun u2 =>
  @sCall0 P (.func 23 []) [(u2.τ 21), (u2.τ 22)] (some 23) u2 ⟨W17_c20 P Φ s u2⟩
def W17_c22 (P : Program) (Φ : Exit → St → Prop) (s : St) : Prop :=
  @sOp (some 20) (xNot (s.τ 19) s.H) s <| .mk fun s =>
  @sIf (s.τ 20) ⟨W17_b2 P Φ s⟩ ⟨W17_b21 P Φ s⟩
def W17_b23 (P : Program) (Φ : Exit → St → Prop) (s : St) : Prop :=
  @sOp (some 16) (xLoad 5 true (s.τ 5) s.H) s <| .mk fun s =>
  @sOp (some 17) (xLit 5 1 [.int .i64 0, .int .i64 0, .int .i64 0, .nils, .nils] [(0, (s.τ 16))] s.H) s <| .mk fun s =>
  @sOp (some 18) (xBuild [.int .i64 0, .int .i64 0, .nils] [(2, 1, (s.τ 17))] s.H) s <| .mk fun s =>
  @sCall P (.func 21 []) [(s.τ 18)] (some 19) s ⟨W17_c22 P Φ⟩
def W17_c24 (P : Program) (Φ : Exit → St → Prop) (s : St) : Prop :=
  @sOp (some 15) (xNot (s.τ 14) s.H) s <| .mk fun s =>
  @sIf (s.τ 15) ⟨W17_b1 P Φ s⟩ ⟨W17_b23 P Φ s⟩
def W17 (P : Program) (Φ : Exit → St → Prop) (s : St) : Prop :=
  @sOp (some 5) (xBox 5 25 (s.τ 0) s.H) s <| .mk fun s =>
  @sOp (some 10) (xMov (.bool false) s.H) s <| .mk fun s =>
  @sCall P (.func 32 []) [] (some 14) s ⟨W17_c24 P Φ⟩
theorem W17_rs (τ : Nat → AV) (H : Heap) : resV Try.prog τ H [.tmp 10] = some (τ 10) := by kernel_rfl
theorem W17_eq (Φ : Exit → St → Prop) (s : St) : awp Try.prog (Try.f17.body.getD .skip) Φ s = W17 Try.prog Φ s := by kernel_rfl

-- 18 "penance/penancelaw5.TermBounds"
def W18_b1 (P : Program) (Φ : Exit → St → Prop) (s : St) : Prop :=
  @sOp (some 10) (xMov (.bool false) s.H) s <| .mk fun s =>
  Φ .ret s
def W18_b2 (P : Program) (Φ : Exit → St → Prop) (s : St) : Prop :=
  @sOp (some 10) (xMov (.bool true) s.H) s <| .mk fun s =>
  Φ .ret s
def W18_c3 (P : Program) (Φ : Exit → St → Prop) (s : St) : Prop :=
  @sOp (some 71) (xPick (s.τ 44) (s.τ 70) (.bool false) s.H) s <| .mk fun s =>
  @sOp (some 10) (xMov (s.τ 71) s.H) s <| .mk fun s =>
  Φ .ret s
def W18_c4 (P : Program) (Φ : Exit → St → Prop) (s : St) : Prop :=
  @sGrd (guardOf (s.τ 44) true) (some 70) s ⟨fun s K => @sOp (some 70) (xPick (s.τ 47) (.bool true) (s.τ 69) s.H) s ⟨K⟩⟩ ⟨W18_c3 P Φ⟩
def W18_c5 (P : Program) (Φ : Exit → St → Prop) (s : St) : Prop :=
  @sGrd (guardOf (s.τ 47) false) (some 69) s ⟨fun s K => @sOp (some 69) (xPick (s.τ 62) (s.τ 68) (.bool false) s.H) s ⟨K⟩⟩ ⟨W18_c4 P Φ⟩
def W18_c6 (P : Program) (Φ : Exit → St → Prop) (s : St) : Prop :=
  @sGrd (guardOf (s.τ 62) true) (some 68) s ⟨fun s K => @sCall P (.func 34 []) [(s.τ 63), (s.τ 64), (s.τ 65), (s.τ 67)] (some 68) s ⟨K⟩⟩ ⟨W18_c5 P Φ⟩
def W18_c7 (P : Program) (Φ : Exit → St → Prop) (s : St) : Prop :=
  @sGrd (guardOf (s.τ 62) true) (some 67) s ⟨fun s K => @sOp (some 67) (xBin .add false (s.τ 66) (.int .i64 1) s.H) s ⟨K⟩⟩ ⟨W18_c6 P Φ⟩
def W18_c8 (P : Program) (Φ : Exit → St → Prop) (s : St) : Prop :=
  @sGrd (guardOf (s.τ 62) true) (some 66) s ⟨fun s K => @sOp (some 66) (xMov (s.τ 14) s.H) s ⟨K⟩⟩ ⟨W18_c7 P Φ⟩
def W18_c9 (P : Program) (Φ : Exit → St → Prop) (s : St) : Prop :=
  @sGrd (guardOf (s.τ 62) true) (some 65) s ⟨fun s K => @sOp (some 65) (xMov (s.τ 13) s.H) s ⟨K⟩⟩ ⟨W18_c8 P Φ⟩
def W18_c10 (P : Program) (Φ : Exit → St → Prop) (s : St) : Prop :=
  @sGrd (guardOf (s.τ 62) true) (some 64) s ⟨fun s K => @sOp (some 64) (xMov (s.τ 12) s.H) s ⟨K⟩⟩ ⟨W18_c9 P Φ⟩
def W18_c11 (P : Program) (Φ : Exit → St → Prop) (s : St) : Prop :=
  @sGrd (guardOf (s.τ 62) true) (some 63) s ⟨fun s K => @sOp (some 63) (xLoad 9 true (s.τ 11) s.H) s ⟨K⟩⟩ ⟨W18_c10 P Φ⟩
def W18_c12 (P : Program) (Φ : Exit → St → Prop) (s : St) : Prop :=
  @sGrd (guardOf (s.τ 47) false) (some 62) s ⟨fun s K => @sOp (some 62) (xMov (s.τ 61) s.H) s ⟨K⟩⟩ ⟨W18_c11 P Φ⟩
def W18_c13 (P : Program) (Φ : Exit → St → Prop) (s : St) : Prop :=
  @sGrd (guardOf (s.τ 47) false) (some 61) s ⟨fun s K => @sOp (some 61) (xPick (s.τ 54) (s.τ 60) (.bool false) s.H) s ⟨K⟩⟩ ⟨W18_c12 P Φ⟩
def W18_c14 (P : Program) (Φ : Exit → St → Prop) (s : St) : Prop :=
  @sGrd (guardOf (s.τ 54) true) (some 60) s ⟨fun s K => @sCall P (.func 34 []) [(s.τ 55), (s.τ 56), (s.τ 58), (s.τ 59)] (some 60) s ⟨K⟩⟩ ⟨W18_c13 P Φ⟩
def W18_c15 (P : Program) (Φ : Exit → St → Prop) (s : St) : Prop :=
  @sGrd (guardOf (s.τ 54) true) (some 59) s ⟨fun s K => @sOp (some 59) (xMov (s.τ 14) s.H) s ⟨K⟩⟩ ⟨W18_c14 P Φ⟩
def W18_c16 (P : Program) (Φ : Exit → St → Prop) (s : St) : Prop :=
  @sGrd (guardOf (s.τ 54) true) (some 58) s ⟨fun s K => @sOp (some 58) (xBin .add false (s.τ 57) (.int .i64 1) s.H) s ⟨K⟩⟩ ⟨W18_c15 P Φ⟩
def W18_c17 (P : Program) (Φ : Exit → St → Prop) (s : St) : Prop :=
  @sGrd (guardOf (s.τ 54) true) (some 57) s ⟨fun s K => @sOp (some 57) (xMov (s.τ 13) s.H) s ⟨K⟩⟩ ⟨W18_c16 P Φ⟩
def W18_c18 (P : Program) (Φ : Exit → St → Prop) (s : St) : Prop :=
  @sGrd (guardOf (s.τ 54) true) (some 56) s ⟨fun s K => @sOp (some 56) (xMov (s.τ 12) s.H) s ⟨K⟩⟩ ⟨W18_c17 P Φ⟩
def W18_c19 (P : Program) (Φ : Exit → St → Prop) (s : St) : Prop :=
  @sGrd (guardOf (s.τ 54) true) (some 55) s ⟨fun s K => @sOp (some 55) (xLoad 9 true (s.τ 11) s.H) s ⟨K⟩⟩ ⟨W18_c18 P Φ⟩
def W18_c20 (P : Program) (Φ : Exit → St → Prop) (s : St) : Prop :=
  @sGrd (guardOf (s.τ 47) false) (some 54) s ⟨fun s K => @sOp (some 54) (xMov (s.τ 53) s.H) s ⟨K⟩⟩ ⟨W18_c19 P Φ⟩
def W18_c21 (P : Program) (Φ : Exit → St → Prop) (s : St) : Prop :=
  @sGrd (guardOf (s.τ 47) false) (some 53) s ⟨fun s K => @sCall P (.func 34 []) [(s.τ 48), (s.τ 50), (s.τ 51), (s.τ 52)] (some 53) s ⟨K⟩⟩ ⟨W18_c20 P Φ⟩
def W18_c22 (P : Program) (Φ : Exit → St → Prop) (s : St) : Prop :=
  @sGrd (guardOf (s.τ 47) false) (some 52) s ⟨fun s K => @sOp (some 52) (xMov (s.τ 14) s.H) s ⟨K⟩⟩ ⟨W18_c21 P Φ⟩
def W18_c23 (P : Program) (Φ : Exit → St → Prop) (s : St) : Prop :=
  @sGrd (guardOf (s.τ 47) false) (some 51) s ⟨fun s K => @sOp (some 51) (xMov (s.τ 13) s.H) s ⟨K⟩⟩ ⟨W18_c22 P Φ⟩
def W18_c24 (P : Program) (Φ : Exit → St → Prop) (s : St) : Prop :=
  @sGrd (guardOf (s.τ 47) false) (some 50) s ⟨fun s K => @sOp (some 50) (xBin .add false (s.τ 49) (.int .i64 1) s.H) s ⟨K⟩⟩ ⟨W18_c23 P Φ⟩
def W18_c25 (P : Program) (Φ : Exit → St → Prop) (s : St) : Prop :=
  @sGrd (guardOf (s.τ 47) false) (some 49) s ⟨fun s K => @sOp (some 49) (xMov (s.τ 12) s.H) s ⟨K⟩⟩ ⟨W18_c24 P Φ⟩
def W18_c26 (P : Program) (Φ : Exit → St → Prop) (s : St) : Prop :=
  @sGrd (guardOf (s.τ 47) false) (some 48) s ⟨fun s K => @sOp (some 48) (xLoad 9 true (s.τ 11) s.H) s ⟨K⟩⟩ ⟨W18_c25 P Φ⟩
def W18_c27 (P : Program) (Φ : Exit → St → Prop) (s : St) : Prop :=
  @sGrd (guardOf (s.τ 44) true) (some 47) s ⟨fun s K => @sOp (some 47) (xMov (s.τ 46) s.H) s ⟨K⟩⟩ ⟨W18_c26 P Φ⟩
def W18_c28 (P : Program) (Φ : Exit → St → Prop) (s : St) : Prop :=
  @sGrd (guardOf (s.τ 44) true) (some 46) s ⟨fun s K => @sOp (some 46) (xNot (s.τ 45) s.H) s ⟨K⟩⟩ ⟨W18_c27 P Φ⟩
def W18_c29 (P : Program) (Φ : Exit → St → Prop) (s : St) : Prop :=
  @sOp (some 43) (xBin .eql true (s.τ 37) (s.τ 42) s.H) s <| .mk fun s =>
  @sOp (some 44) (xMov (s.τ 43) s.H) s <| .mk fun s =>
  @sGrd (guardOf (s.τ 44) true) (some 45) s ⟨fun s K => @sOp (some 45) (xMov (s.τ 15) s.H) s ⟨K⟩⟩ ⟨W18_c28 P Φ⟩
def W18_c30 (P : Program) (Φ : Exit → St → Prop) (s : St) : Prop :=
  @sOp (some 15) (xMov (s.τ 36) s.H) s <| .mk fun s =>
  @sOp (some 37) (xMov (s.τ 15) s.H) s <| .mk fun s =>
  @sOp (some 38) (xLoad 9 true (s.τ 11) s.H) s <| .mk fun s =>
  @sOp (some 39) (xMov (s.τ 12) s.H) s <| .mk fun s =>
  @sOp (some 40) (xMov (s.τ 13) s.H) s <| .mk fun s =>
  @sOp (some 41) (xMov (s.τ 14) s.H) s <| .mk fun s =>
  @sCall P (.func 35 []) [(s.τ 38), (s.τ 39), (s.τ 40), (s.τ 41)] (some 42) s ⟨W18_c29 P Φ⟩
def W18_c31 (P : Program) (Φ : Exit → St → Prop) (s : St) : Prop :=
  @sOp (some 12) (xMov (s.τ 27) s.H) s <| .mk fun s =>
  @sOp (some 13) (xMov (s.τ 29) s.H) s <| .mk fun s =>
  @sOp (some 14) (xMov (s.τ 31) s.H) s <| .mk fun s =>
  @sOp (some 32) (xLoad 9 true (s.τ 11) s.H) s <| .mk fun s =>
  @sOp (some 33) (xMov (s.τ 12) s.H) s <| .mk fun s =>
  @sOp (some 34) (xMov (s.τ 13) s.H) s <| .mk fun s =>
  @sOp (some 35) (xMov (s.τ 14) s.H) s <| .mk fun s =>
  @sCall P (.func 34 []) [(s.τ 32), (s.τ 33), (s.τ 34), (s.τ 35)] (some 36) s ⟨W18_c30 P Φ⟩
def W18_c32 (P : Program) (Φ : Exit → St → Prop) (s : St) : Prop :=
  @sOp (some 30) (xMov (s.τ 4) s.H) s <| .mk fun s =>
  @sCall P (.func 43 []) [(s.τ 30), (.int .i64 7)] (some 31) s ⟨W18_c31 P Φ⟩
def W18_c33 (P : Program) (Φ : Exit → St → Prop) (s : St) : Prop :=
  @sOp (some 28) (xMov (s.τ 3) s.H) s <| .mk fun s =>
  @sCall P (.func 43 []) [(s.τ 28), (.int .i64 4)] (some 29) s ⟨W18_c32 P Φ⟩
def W18_c34 (P : Program) (Φ : Exit → St → Prop) (s : St) : Prop :=
  @sOp (some 11) (xAlloc 11 34 [.int .i64 0, .int .i64 0, .int .i64 0, .str ⟨#[]⟩, .int .i64 0, .int .i64 0, .str ⟨#[]⟩, .nils, .nils] s.H) s <| .mk fun s =>
  @sOp none (xStore 9 (s.τ 11) (s.τ 25) s.H) s <| .mk fun s =>
  @sOp (some 26) (xMov (s.τ 2) s.H) s <| .mk fun s =>
  @sCall P (.func 43 []) [(s.τ 26), (.int .i64 5)] (some 27) s ⟨W18_c33 P Φ⟩
def W18_b35 (P : Program) (Φ : Exit → St → Prop) (s : St) : Prop :=
  @sOp (some 23) (xLoad 5 true (s.τ 5) s.H) s <| .mk fun s =>
  @sOp (some 24) (xMov (s.τ 1) s.H) s <| .mk fun s =>
  @sCall P (.func 23 []) [(s.τ 23), (s.τ 24)] (some 25) s ⟨W18_c34 P Φ⟩
def W18_c36 (P : Program) (Φ : Exit → St → Prop) (s : St) : Prop :=
  @sOp (some 22) (xNot (s.τ 21) s.H) s <| .mk fun s =>
  @sIf (s.τ 22) ⟨W18_b2 P Φ s⟩ ⟨W18_b35 P Φ s⟩
def W18_b37 (P : Program) (Φ : Exit → St → Prop) (s : St) : Prop :=
  @sOp (some 18) (xLoad 5 true (s.τ 5) s.H) s <| .mk fun s =>
  @sOp (some 19) (xLit 5 1 [.int .i64 0, .int .i64 0, .int .i64 0, .nils, .nils] [(0, (s.τ 18))] s.H) s <| .mk fun s =>
  @sOp (some 20) (xBuild [.int .i64 0, .int .i64 0, .nils] [(2, 1, (s.τ 19))] s.H) s <| .mk fun s =>
  @sCall P (.func 21 []) [(s.τ 20)] (some 21) s ⟨W18_c36 P Φ⟩
def W18_c38 (P : Program) (Φ : Exit → St → Prop) (s : St) : Prop :=
  @sOp (some 17) (xNot (s.τ 16) s.H) s <| .mk fun s =>
  @sIf (s.τ 17) ⟨W18_b1 P Φ s⟩ ⟨W18_b37 P Φ s⟩
def W18 (P : Program) (Φ : Exit → St → Prop) (s : St) : Prop :=
  @sOp (some 5) (xBox 5 25 (s.τ 0) s.H) s <| .mk fun s =>
  @sOp (some 10) (xMov (.bool false) s.H) s <| .mk fun s =>
  @sCall P (.func 32 []) [] (some 16) s ⟨W18_c38 P Φ⟩
theorem W18_rs (τ : Nat → AV) (H : Heap) : resV Try.prog τ H [.tmp 10] = some (τ 10) := by kernel_rfl
theorem W18_eq (Φ : Exit → St → Prop) (s : St) : awp Try.prog (Try.f18.body.getD .skip) Φ s = W18 Try.prog Φ s := by kernel_rfl

-- 19 "penance/penancelaw5.TermSkips"
def W19_b1 (P : Program) (Φ : Exit → St → Prop) (s : St) : Prop :=
  @sOp (some 2) (xMov (.bool false) s.H) s <| .mk fun s =>
  Φ .ret s
def W19_c2 (P : Program) (Φ : Exit → St → Prop) (s : St) : Prop :=
  @sOp (some 68) (xPick (s.τ 63) (s.τ 67) (.bool false) s.H) s <| .mk fun u16 =>
  @sOp (some 2) (xMov (u16.τ 68) u16.H) u16 <| .mk fun s =>
  Φ .ret s
def W19_c3 (P : Program) (Φ : Exit → St → Prop) (s : St) : Prop :=
  @sGrd (guardOf (s.τ 63) true) (some 67) s ⟨fun s K => @sOp (some 67) (xBin .eql false (s.τ 66) (.int .i64 0) s.H) s ⟨K⟩⟩ ⟨W19_c2 P Φ⟩
def W19_c4 (P : Program) (Φ : Exit → St → Prop) (s : St) : Prop :=
  @sGrd (guardOf (s.τ 63) true) (some 66) s ⟨fun s K => @sOp (some 66) (xLen (s.τ 65) s.H) s ⟨K⟩⟩ ⟨W19_c3 P Φ⟩
def W19_c5 (P : Program) (Φ : Exit → St → Prop) (s : St) : Prop :=
  @sGrd (guardOf (s.τ 63) true) (some 65) s ⟨fun s K => @sCall0 P (.func 41 []) [(s.τ 64)] (some 65) s ⟨K⟩⟩ ⟨W19_c4 P Φ⟩
def W19_c6 (P : Program) (Φ : Exit → St → Prop) (s : St) : Prop :=
  @sOp (some 62) (xPick (s.τ 57) (s.τ 61) (.bool false) s.H) s <| .mk fun u10 =>
  @sOp (some 63) (xMov (u10.τ 62) u10.H) u10 <| .mk fun u11 =>
  @sGrd (guardOf (u11.τ 63) true) (some 64) u11 ⟨fun s K => @sOp (some 64) (xLoad 9 true (s.τ 3) s.H) s ⟨K⟩⟩ ⟨W19_c5 P Φ⟩
def W19_c7 (P : Program) (Φ : Exit → St → Prop) (s : St) : Prop :=
  @sGrd (guardOf (s.τ 57) true) (some 61) s ⟨fun s K => @sCall0 P (.func 38 []) [(s.τ 59), (s.τ 60)] (some 61) s ⟨K⟩⟩ ⟨W19_c6 P Φ⟩
def W19_c8 (P : Program) (Φ : Exit → St → Prop) (u6 : St) (s : St) : Prop :=
  @sChk (compat ([59] ++ (occ (.func 40 []) ++ occL [(u6.τ 58)]), [59] ++ (occ (.func 40 []) ++ occL [(u6.τ 58)])) (occ (s.τ 5), [])) <| .mk <|
  @sGrd (guardOf (s.τ 57) true) (some 60) s ⟨fun s K => @sOp (some 60) (xLoad 9 true (s.τ 5) s.H) s ⟨K⟩⟩ ⟨W19_c7 P Φ⟩
def W19_c9 (P : Program) (Φ : Exit → St → Prop) (s : St) : Prop :=
  @sGrd (guardOf (s.τ 57) true) (some 59) s ⟨fun s K => @sCall0 P (.func 40 []) [(s.τ 58)] (some 59) s ⟨K⟩⟩ ⟨W19_c8 P Φ s⟩
def W19_c10 (P : Program) (Φ : Exit → St → Prop) (s : St) : Prop :=
  @sOp (some 57) (xMov (s.τ 56) s.H) s <| .mk fun u5 =>
  @sGrd (guardOf (u5.τ 57) true) (some 58) u5 ⟨fun s K => @sOp (some 58) (xLoad 9 true (s.τ 6) s.H) s ⟨K⟩⟩ ⟨W19_c9 P Φ⟩
def W19_c11 (P : Program) (Φ : Exit → St → Prop) (s : St) : Prop :=
  @sOp (some 55) (xBuild [.int .i64 0, .int .i64 0, .int .i64 0, .str ⟨#[]⟩, .int .i64 0, .int .i64 0, .str ⟨#[]⟩, .nils, .nils] [] s.H) s <| .mk fun u3 =>
  @sCall0 P (.func 38 []) [(u3.τ 54), (u3.τ 55)] (some 56) u3 ⟨W19_c10 P Φ⟩
def W19_k12 (P : Program) (Φ : Exit → St → Prop) (s : St) : Prop :=
  @sOp (some 48) (xBuild [.int .i64 0, .int .i64 0, .int .i64 0, .str ⟨#[]⟩, .int .i64 0, .int .i64 0, .str ⟨#[]⟩, .nils, .nils] [(0, 1, (.int .i64 8))] s.H) s <| .mk fun s =>
  @sOp (some 5) (xAlloc 5 34 [.int .i64 0, .int .i64 0, .int .i64 0, .str ⟨#[]⟩, .int .i64 0, .int .i64 0, .str ⟨#[]⟩, .nils, .nils] s.H) s <| .mk fun s =>
  @sOp none (xStore 9 (s.τ 5) (s.τ 48) s.H) s <| .mk fun s =>
  @sOp (some 49) (xLoad 9 true (s.τ 3) s.H) s <| .mk fun s =>
  @sOp (some 50) (xLoad 9 true (s.τ 5) s.H) s <| .mk fun s =>
  @sOp (some 51) (xLit 9 2 [.int .i64 0, .int .i64 0, .int .i64 0, .str ⟨#[]⟩, .int .i64 0, .int .i64 0, .str ⟨#[]⟩, .nils, .nils] [(0, (s.τ 49)), (1, (s.τ 50))] s.H) s <| .mk fun s =>
  @sOp (some 52) (xBuild [.int .i64 0, .int .i64 0, .int .i64 0, .str ⟨#[]⟩, .int .i64 0, .int .i64 0, .str ⟨#[]⟩, .nils, .nils] [(0, 1, (.int .i64 12)), (8, 1, (s.τ 51))] s.H) s <| .mk fun s =>
  @sOp (some 6) (xAlloc 6 34 [.int .i64 0, .int .i64 0, .int .i64 0, .str ⟨#[]⟩, .int .i64 0, .int .i64 0, .str ⟨#[]⟩, .nils, .nils] s.H) s <| .mk fun s =>
  @sOp none (xStore 9 (s.τ 6) (s.τ 52) s.H) s <| .mk fun s =>
  @sOp (some 53) (xLoad 9 true (s.τ 3) s.H) s <| .mk fun u1 =>
  @sCall0 P (.func 40 []) [(u1.τ 53)] (some 54) u1 ⟨W19_c11 P Φ⟩
def W19_k13 (P : Program) (Φ : Exit → St → Prop) (L0 : St → Prop) (s : St) : Prop :=
  @sOp (some 18) (xMov (s.τ 4) s.H) s <| .mk fun s =>
  @sOp (some 19) (xBin .add false (s.τ 18) (.int .i64 1) s.H) s <| .mk fun s =>
  @sOp (some 4) (xMov (s.τ 19) s.H) s <| .mk fun s =>
  L0 s
def W19_b14 (P : Program) (Φ : Exit → St → Prop) (L0 : St → Prop) (s : St) : Prop :=
  @sOp (some 27) (xLoad 9 true (s.τ 3) s.H) s <| .mk fun s =>
  @sOp (some 28) (xLit 9 1 [.int .i64 0, .int .i64 0, .int .i64 0, .str ⟨#[]⟩, .int .i64 0, .int .i64 0, .str ⟨#[]⟩, .nils, .nils] [(0, (s.τ 27))] s.H) s <| .mk fun s =>
  @sOp (some 29) (xBuild [.int .i64 0, .int .i64 0, .int .i64 0, .str ⟨#[]⟩, .int .i64 0, .int .i64 0, .str ⟨#[]⟩, .nils, .nils] [(0, 1, (.int .i64 7)), (8, 1, (s.τ 28))] s.H) s <| .mk fun s =>
  @sOp none (xStore 9 (s.τ 3) (s.τ 29) s.H) s <| .mk fun s =>
  W19_k13 P Φ L0 s
def W19_b15 (P : Program) (Φ : Exit → St → Prop) (L0 : St → Prop) (s : St) : Prop :=
  @sOp (some 32) (xLoad 9 true (s.τ 3) s.H) s <| .mk fun s =>
  @sOp (some 33) (xBuild [.int .i64 0, .int .i64 0, .int .i64 0, .str ⟨#[]⟩, .int .i64 0, .int .i64 0, .str ⟨#[]⟩, .nils, .nils] [] s.H) s <| .mk fun s =>
  @sOp (some 34) (xLit 9 2 [.int .i64 0, .int .i64 0, .int .i64 0, .str ⟨#[]⟩, .int .i64 0, .int .i64 0, .str ⟨#[]⟩, .nils, .nils] [(0, (s.τ 32)), (1, (s.τ 33))] s.H) s <| .mk fun s =>
  @sOp (some 35) (xBuild [.int .i64 0, .int .i64 0, .int .i64 0, .str ⟨#[]⟩, .int .i64 0, .int .i64 0, .str ⟨#[]⟩, .nils, .nils] [(0, 1, (.int .i64 12)), (8, 1, (s.τ 34))] s.H) s <| .mk fun s =>
  @sOp none (xStore 9 (s.τ 3) (s.τ 35) s.H) s <| .mk fun s =>
  W19_k13 P Φ L0 s
def W19_b16 (P : Program) (Φ : Exit → St → Prop) (L0 : St → Prop) (s : St) : Prop :=
  @sOp (some 38) (xBuild [.int .i64 0, .int .i64 0, .int .i64 0, .str ⟨#[]⟩, .int .i64 0, .int .i64 0, .str ⟨#[]⟩, .nils, .nils] [] s.H) s <| .mk fun s =>
  @sOp (some 39) (xLoad 9 true (s.τ 3) s.H) s <| .mk fun s =>
  @sOp (some 40) (xLit 9 2 [.int .i64 0, .int .i64 0, .int .i64 0, .str ⟨#[]⟩, .int .i64 0, .int .i64 0, .str ⟨#[]⟩, .nils, .nils] [(0, (s.τ 38)), (1, (s.τ 39))] s.H) s <| .mk fun s =>
  @sOp (some 41) (xBuild [.int .i64 0, .int .i64 0, .int .i64 0, .str ⟨#[]⟩, .int .i64 0, .int .i64 0, .str ⟨#[]⟩, .nils, .nils] [(0, 1, (.int .i64 12)), (8, 1, (s.τ 40))] s.H) s <| .mk fun s =>
  @sOp none (xStore 9 (s.τ 3) (s.τ 41) s.H) s <| .mk fun s =>
  W19_k13 P Φ L0 s
def W19_b17 (P : Program) (Φ : Exit → St → Prop) (L0 : St → Prop) (s : St) : Prop :=
  @sOp (some 44) (xLoad 9 true (s.τ 3) s.H) s <| .mk fun s =>
  @sOp (some 45) (xBuild [.int .i64 0, .int .i64 0, .int .i64 0, .str ⟨#[]⟩, .int .i64 0, .int .i64 0, .str ⟨#[]⟩, .nils, .nils] [] s.H) s <| .mk fun s =>
  @sOp (some 46) (xLit 9 2 [.int .i64 0, .int .i64 0, .int .i64 0, .str ⟨#[]⟩, .int .i64 0, .int .i64 0, .str ⟨#[]⟩, .nils, .nils] [(0, (s.τ 44)), (1, (s.τ 45))] s.H) s <| .mk fun s =>
  @sOp (some 47) (xBuild [.int .i64 0, .int .i64 0, .int .i64 0, .str ⟨#[]⟩, .int .i64 0, .int .i64 0, .str ⟨#[]⟩, .nils, .nils] [(0, 1, (.int .i64 11)), (8, 1, (s.τ 46))] s.H) s <| .mk fun s =>
  @sOp none (xStore 9 (s.τ 3) (s.τ 47) s.H) s <| .mk fun s =>
  W19_k13 P Φ L0 s
def W19_b18 (P : Program) (Φ : Exit → St → Prop) (L0 : St → Prop) (s : St) : Prop :=
  @sOp (some 43) (xBin .eql false (s.τ 24) (.int .i64 3) s.H) s <| .mk fun s =>
  @sOp (some 42) (xMov (s.τ 43) s.H) s <| .mk fun s =>
  @sIf (s.τ 42) ⟨W19_b17 P Φ L0 s⟩ ⟨W19_k13 P Φ L0 s⟩
def W19_b19 (P : Program) (Φ : Exit → St → Prop) (L0 : St → Prop) (s : St) : Prop :=
  @sOp (some 37) (xBin .eql false (s.τ 24) (.int .i64 2) s.H) s <| .mk fun s =>
  @sOp (some 36) (xMov (s.τ 37) s.H) s <| .mk fun s =>
  @sIf (s.τ 36) ⟨W19_b16 P Φ L0 s⟩ ⟨W19_b18 P Φ L0 s⟩
def W19_b20 (P : Program) (Φ : Exit → St → Prop) (L0 : St → Prop) (s : St) : Prop :=
  @sOp (some 31) (xBin .eql false (s.τ 24) (.int .i64 1) s.H) s <| .mk fun s =>
  @sOp (some 30) (xMov (s.τ 31) s.H) s <| .mk fun s =>
  @sIf (s.τ 30) ⟨W19_b15 P Φ L0 s⟩ ⟨W19_b19 P Φ L0 s⟩
def W19_c21 (P : Program) (Φ : Exit → St → Prop) (L0 : St → Prop) (s : St) : Prop :=
  @sOp (some 26) (xBin .eql false (s.τ 24) (.int .i64 0) s.H) s <| .mk fun s =>
  @sOp (some 25) (xMov (s.τ 26) s.H) s <| .mk fun s =>
  @sIf (s.τ 25) ⟨W19_b14 P Φ L0 s⟩ ⟨W19_b20 P Φ L0 s⟩
def W19_b22 (P : Program) (Φ : Exit → St → Prop) (L0 : St → Prop) (s : St) : Prop :=
  @sOp (some 20) (xMov (s.τ 0) s.H) s <| .mk fun s =>
  @sOp (some 21) (xMov (s.τ 4) s.H) s <| .mk fun s =>
  @sOp (some 22) (xIx 1 (s.τ 20) (s.τ 21) s.H) s <| .mk fun s =>
  @sOp (some 23) (xLoad 1 false (s.τ 22) s.H) s <| .mk fun s =>
  @sCall P (.func 43 []) [(s.τ 23), (.int .i64 4)] (some 24) s ⟨W19_c21 P Φ L0⟩
def W19_c23 (P : Program) (Φ : Exit → St → Prop) (L0 : St → Prop) (s : St) : Prop :=
  @sOp (some 17) (xPick (s.τ 14) (s.τ 16) (.bool false) s.H) s <| .mk fun s =>
  @sIf (s.τ 17) ⟨W19_b22 P Φ L0 s⟩ ⟨W19_k12 P Φ s⟩
def W19_c24 (P : Program) (Φ : Exit → St → Prop) (L0 : St → Prop) (s : St) : Prop :=
  @sGrd (guardOf (s.τ 14) true) (some 16) s ⟨fun s K => @sOp (some 16) (xBin .lss false (s.τ 15) (.int .i64 30) s.H) s ⟨K⟩⟩ ⟨W19_c23 P Φ L0⟩
def W19_l25 (P : Program) (Φ : Exit → St → Prop) (L0 : St → Prop) (s : St) : Prop :=
  @sOp (some 10) (xMov (s.τ 4) s.H) s <| .mk fun s =>
  @sOp (some 11) (xMov (s.τ 0) s.H) s <| .mk fun s =>
  @sOp (some 12) (xLen (s.τ 11) s.H) s <| .mk fun s =>
  @sOp (some 13) (xBin .lss false (s.τ 10) (s.τ 12) s.H) s <| .mk fun s =>
  @sOp (some 14) (xMov (s.τ 13) s.H) s <| .mk fun s =>
  @sGrd (guardOf (s.τ 14) true) (some 15) s ⟨fun s K => @sOp (some 15) (xMov (s.τ 4) s.H) s ⟨K⟩⟩ ⟨W19_c24 P Φ L0⟩
def W19_b26 (P : Program) (Φ : Exit → St → Prop) (s : St) : Prop :=
  @sOp (some 9) (xBuild [.int .i64 0, .int .i64 0, .int .i64 0, .str ⟨#[]⟩, .int .i64 0, .int .i64 0, .str ⟨#[]⟩, .nils, .nils] [] s.H) s <| .mk fun s =>
  @sOp (some 3) (xAlloc 3 34 [.int .i64 0, .int .i64 0, .int .i64 0, .str ⟨#[]⟩, .int .i64 0, .int .i64 0, .str ⟨#[]⟩, .nils, .nils] s.H) s <| .mk fun s =>
  @sOp none (xStore 9 (s.τ 3) (s.τ 9) s.H) s <| .mk fun s =>
  @sOp (some 4) (xMov (.int .i64 0) s.H) s <| .mk fun s =>
  @sLoop s ⟨fun L0 s => W19_l25 P Φ L0 s⟩
def W19_c27 (P : Program) (Φ : Exit → St → Prop) (s : St) : Prop :=
  @sOp (some 8) (xNot (s.τ 7) s.H) s <| .mk fun s =>
  @sIf (s.τ 8) ⟨W19_b1 P Φ s⟩ ⟨W19_b26 P Φ s⟩
def W19 (P : Program) (Φ : Exit → St → Prop) (s : St) : Prop :=
  @sOp (some 2) (xMov (.bool false) s.H) s <| .mk fun s =>
  @sCall P (.func 32 []) [] (some 7) s ⟨W19_c27 P Φ⟩
theorem W19_rs (τ : Nat → AV) (H : Heap) : resV Try.prog τ H [.tmp 2] = some (τ 2) := by kernel_rfl
theorem W19_eq (Φ : Exit → St → Prop) (s : St) : awp Try.prog (Try.f19.body.getD .skip) Φ s = W19 Try.prog Φ s := by kernel_rfl

-- 20 "penance/penancelaw7.known"
def W20_c1 (P : Program) (Φ : Exit → St → Prop) (s : St) : Prop :=
  @sOp (some 45) (xPick (s.τ 41) (s.τ 44) (.bool false) s.H) s <| .mk fun s =>
  @sOp (some 0) (xMov (s.τ 45) s.H) s <| .mk fun s =>
  Φ .ret s
def W20_c2 (P : Program) (Φ : Exit → St → Prop) (s : St) : Prop :=
  @sGrd (guardOf (s.τ 41) true) (some 44) s ⟨fun s K => @sOp (some 44) (xBin .eql false (s.τ 43) (.int .i64 0) s.H) s ⟨K⟩⟩ ⟨W20_c1 P Φ⟩
def W20_c3 (P : Program) (Φ : Exit → St → Prop) (s : St) : Prop :=
  @sGrd (guardOf (s.τ 41) true) (some 43) s ⟨fun s K => @sCall P (.func 30 []) [(s.τ 42)] (some 43) s ⟨K⟩⟩ ⟨W20_c2 P Φ⟩
def W20_c4 (P : Program) (Φ : Exit → St → Prop) (s : St) : Prop :=
  @sOp (some 40) (xPick (s.τ 33) (s.τ 39) (.bool false) s.H) s <| .mk fun s =>
  @sOp (some 41) (xMov (s.τ 40) s.H) s <| .mk fun s =>
  @sGrd (guardOf (s.τ 41) true) (some 42) s ⟨fun s K => @sOp (some 42) (xLoad 9 true (s.τ 1) s.H) s ⟨K⟩⟩ ⟨W20_c3 P Φ⟩
def W20_c5 (P : Program) (Φ : Exit → St → Prop) (s : St) : Prop :=
  @sGrd (guardOf (s.τ 33) true) (some 39) s ⟨fun s K => @sOp (some 39) (xBin .eql false (s.τ 38) (.int .i64 1) s.H) s ⟨K⟩⟩ ⟨W20_c4 P Φ⟩
def W20_c6 (P : Program) (Φ : Exit → St → Prop) (s : St) : Prop :=
  @sGrd (guardOf (s.τ 33) true) (some 38) s ⟨fun s K => @sOp (some 38) (xLen (s.τ 37) s.H) s ⟨K⟩⟩ ⟨W20_c5 P Φ⟩
def W20_c7 (P : Program) (Φ : Exit → St → Prop) (s : St) : Prop :=
  @sGrd (guardOf (s.τ 33) true) (some 37) s ⟨fun s K => @sOp (some 37) (xLoad 1 false (s.τ 36) s.H) s ⟨K⟩⟩ ⟨W20_c6 P Φ⟩
def W20_c8 (P : Program) (Φ : Exit → St → Prop) (s : St) : Prop :=
  @sGrd (guardOf (s.τ 33) true) (some 36) s ⟨fun s K => @sOp (some 36) (xFld 1 (s.τ 35) s.H) s ⟨K⟩⟩ ⟨W20_c7 P Φ⟩
def W20_c9 (P : Program) (Φ : Exit → St → Prop) (s : St) : Prop :=
  @sGrd (guardOf (s.τ 33) true) (some 35) s ⟨fun s K => @sOp (some 35) (xIx 3 (s.τ 34) (.int .i64 0) s.H) s ⟨K⟩⟩ ⟨W20_c8 P Φ⟩
def W20_c10 (P : Program) (Φ : Exit → St → Prop) (s : St) : Prop :=
  @sOp (some 32) (xPick (s.τ 26) (s.τ 31) (.bool false) s.H) s <| .mk fun s =>
  @sOp (some 33) (xMov (s.τ 32) s.H) s <| .mk fun s =>
  @sGrd (guardOf (s.τ 33) true) (some 34) s ⟨fun s K => @sOp (some 34) (xMov (s.τ 2) s.H) s ⟨K⟩⟩ ⟨W20_c9 P Φ⟩
def W20_c11 (P : Program) (Φ : Exit → St → Prop) (s : St) : Prop :=
  @sGrd (guardOf (s.τ 26) true) (some 31) s ⟨fun s K => @sOp (some 31) (xBin .eql false (s.τ 30) (.int .i64 1) s.H) s ⟨K⟩⟩ ⟨W20_c10 P Φ⟩
def W20_c12 (P : Program) (Φ : Exit → St → Prop) (s : St) : Prop :=
  @sGrd (guardOf (s.τ 26) true) (some 30) s ⟨fun s K => @sOp (some 30) (xLoad 1 false (s.τ 29) s.H) s ⟨K⟩⟩ ⟨W20_c11 P Φ⟩
def W20_c13 (P : Program) (Φ : Exit → St → Prop) (s : St) : Prop :=
  @sGrd (guardOf (s.τ 26) true) (some 29) s ⟨fun s K => @sOp (some 29) (xFld 2 (s.τ 28) s.H) s ⟨K⟩⟩ ⟨W20_c12 P Φ⟩
def W20_c14 (P : Program) (Φ : Exit → St → Prop) (s : St) : Prop :=
  @sGrd (guardOf (s.τ 26) true) (some 28) s ⟨fun s K => @sOp (some 28) (xIx 3 (s.τ 27) (.int .i64 1) s.H) s ⟨K⟩⟩ ⟨W20_c13 P Φ⟩
def W20_c15 (P : Program) (Φ : Exit → St → Prop) (s : St) : Prop :=
  @sOp (some 25) (xPick (s.τ 21) (s.τ 24) (.bool false) s.H) s <| .mk fun s =>
  @sOp (some 26) (xMov (s.τ 25) s.H) s <| .mk fun s =>
  @sGrd (guardOf (s.τ 26) true) (some 27) s ⟨fun s K => @sOp (some 27) (xMov (s.τ 2) s.H) s ⟨K⟩⟩ ⟨W20_c14 P Φ⟩
def W20_c16 (P : Program) (Φ : Exit → St → Prop) (s : St) : Prop :=
  @sGrd (guardOf (s.τ 21) true) (some 24) s ⟨fun s K => @sOp (some 24) (xBin .eql false (s.τ 23) (.int .i64 2) s.H) s ⟨K⟩⟩ ⟨W20_c15 P Φ⟩
def W20_c17 (P : Program) (Φ : Exit → St → Prop) (s : St) : Prop :=
  @sGrd (guardOf (s.τ 21) true) (some 23) s ⟨fun s K => @sOp (some 23) (xLen (s.τ 22) s.H) s ⟨K⟩⟩ ⟨W20_c16 P Φ⟩
def W20_c18 (P : Program) (Φ : Exit → St → Prop) (s : St) : Prop :=
  @sOp (some 20) (xPick (s.τ 16) (s.τ 19) (.bool false) s.H) s <| .mk fun s =>
  @sOp (some 21) (xMov (s.τ 20) s.H) s <| .mk fun s =>
  @sGrd (guardOf (s.τ 21) true) (some 22) s ⟨fun s K => @sOp (some 22) (xMov (s.τ 2) s.H) s ⟨K⟩⟩ ⟨W20_c17 P Φ⟩
def W20_c19 (P : Program) (Φ : Exit → St → Prop) (s : St) : Prop :=
  @sGrd (guardOf (s.τ 16) true) (some 19) s ⟨fun s K => @sOp (some 19) (xBin .eql false (s.τ 18) (.int .i64 2) s.H) s ⟨K⟩⟩ ⟨W20_c18 P Φ⟩
def W20_c20 (P : Program) (Φ : Exit → St → Prop) (s : St) : Prop :=
  @sGrd (guardOf (s.τ 16) true) (some 18) s ⟨fun s K => @sCall P (.func 30 []) [(s.τ 17)] (some 18) s ⟨K⟩⟩ ⟨W20_c19 P Φ⟩
def W20_c21 (P : Program) (Φ : Exit → St → Prop) (s : St) : Prop :=
  @sOp (some 14) (xLen (s.τ 13) s.H) s <| .mk fun s =>
  @sOp (some 15) (xBin .eql false (s.τ 14) (.int .i64 0) s.H) s <| .mk fun s =>
  @sOp (some 16) (xMov (s.τ 15) s.H) s <| .mk fun s =>
  @sGrd (guardOf (s.τ 16) true) (some 17) s ⟨fun s K => @sOp (some 17) (xBuild [.int .i64 0, .int .i64 0, .int .i64 0, .str ⟨#[]⟩, .int .i64 0, .int .i64 0, .str ⟨#[]⟩, .nils, .nils] [] s.H) s ⟨K⟩⟩ ⟨W20_c20 P Φ⟩
def W20_c22 (P : Program) (Φ : Exit → St → Prop) (s : St) : Prop :=
  @sOp (some 2) (xMov (s.τ 11) s.H) s <| .mk fun s =>
  @sOp (some 12) (xBuild [.int .i64 0, .int .i64 0, .int .i64 0, .str ⟨#[]⟩, .int .i64 0, .int .i64 0, .str ⟨#[]⟩, .nils, .nils] [] s.H) s <| .mk fun s =>
  @sCall P (.func 24 []) [(s.τ 12)] (some 13) s ⟨W20_c21 P Φ⟩
def W20 (P : Program) (Φ : Exit → St → Prop) (s : St) : Prop :=
  @sOp (some 0) (xMov (.bool false) s.H) s <| .mk fun s =>
  @sOp (some 3) (xBuild [.int .i64 0, .int .i64 0, .int .i64 0, .str ⟨#[]⟩, .int .i64 0, .int .i64 0, .str ⟨#[]⟩, .nils, .nils] [] s.H) s <| .mk fun s =>
  @sOp (some 4) (xBuild [.int .i64 0, .int .i64 0, .int .i64 0, .str ⟨#[]⟩, .int .i64 0, .int .i64 0, .str ⟨#[]⟩, .nils, .nils] [] s.H) s <| .mk fun s =>
  @sOp (some 5) (xLit 9 2 [.int .i64 0, .int .i64 0, .int .i64 0, .str ⟨#[]⟩, .int .i64 0, .int .i64 0, .str ⟨#[]⟩, .nils, .nils] [(0, (s.τ 3)), (1, (s.τ 4))] s.H) s <| .mk fun s =>
  @sOp (some 6) (xBuild [.int .i64 0, .int .i64 0, .int .i64 0, .str ⟨#[]⟩, .int .i64 0, .int .i64 0, .str ⟨#[]⟩, .nils, .nils] [(0, 1, (.int .i64 10)), (8, 1, (s.τ 5))] s.H) s <| .mk fun s =>
  @sOp (some 1) (xAlloc 1 34 [.int .i64 0, .int .i64 0, .int .i64 0, .str ⟨#[]⟩, .int .i64 0, .int .i64 0, .str ⟨#[]⟩, .nils, .nils] s.H) s <| .mk fun s =>
  @sOp none (xStore 9 (s.τ 1) (s.τ 6) s.H) s <| .mk fun s =>
  @sOp (some 7) (xLoad 9 true (s.τ 1) s.H) s <| .mk fun s =>
  @sOp (some 8) (xBuild [.int .i64 0, .int .i64 0, .int .i64 0, .str ⟨#[]⟩, .int .i64 0, .int .i64 0, .str ⟨#[]⟩, .nils, .nils] [] s.H) s <| .mk fun s =>
  @sOp (some 9) (xLit 9 2 [.int .i64 0, .int .i64 0, .int .i64 0, .str ⟨#[]⟩, .int .i64 0, .int .i64 0, .str ⟨#[]⟩, .nils, .nils] [(0, (s.τ 7)), (1, (s.τ 8))] s.H) s <| .mk fun s =>
  @sOp (some 10) (xBuild [.int .i64 0, .int .i64 0, .int .i64 0, .str ⟨#[]⟩, .int .i64 0, .int .i64 0, .str ⟨#[]⟩, .nils, .nils] [(0, 1, (.int .i64 12)), (8, 1, (s.τ 9))] s.H) s <| .mk fun s =>
  @sCall P (.func 24 []) [(s.τ 10)] (some 11) s ⟨W20_c22 P Φ⟩
theorem W20_rs (τ : Nat → AV) (H : Heap) : resV Try.prog τ H [.tmp 0] = some (τ 0) := by kernel_rfl
theorem W20_eq (Φ : Exit → St → Prop) (s : St) : awp Try.prog (Try.f20.body.getD .skip) Φ s = W20 Try.prog Φ s := by kernel_rfl

-- 21 "(penance/penancelaw3.Shape).Few"
def W21_c1 (P : Program) (Φ : Exit → St → Prop) (s : St) : Prop :=
  @sOp (some 27) (xPick (s.τ 24) (s.τ 26) (.bool false) s.H) s <| .mk fun s =>
  @sOp (some 2) (xMov (s.τ 27) s.H) s <| .mk fun s =>
  Φ .ret s
def W21_c2 (P : Program) (Φ : Exit → St → Prop) (s : St) : Prop :=
  @sGrd (guardOf (s.τ 24) true) (some 26) s ⟨fun s K => @sOp (some 26) (xBin .leq false (s.τ 25) (.int .i64 40) s.H) s ⟨K⟩⟩ ⟨W21_c1 P Φ⟩
def W21_k3 (P : Program) (Φ : Exit → St → Prop) (s : St) : Prop :=
  @sOp (some 20) (xFld 2 (s.τ 1) s.H) s <| .mk fun s =>
  @sOp (some 21) (xLoad 1 false (s.τ 20) s.H) s <| .mk fun s =>
  @sOp (some 22) (xLen (s.τ 21) s.H) s <| .mk fun s =>
  @sOp (some 23) (xBin .leq false (s.τ 22) (.int .i64 5) s.H) s <| .mk fun s =>
  @sOp (some 24) (xMov (s.τ 23) s.H) s <| .mk fun s =>
  @sGrd (guardOf (s.τ 24) true) (some 25) s ⟨fun s K => @sOp (some 25) (xMov (s.τ 3) s.H) s ⟨K⟩⟩ ⟨W21_c2 P Φ⟩
def W21_c4 (P : Program) (Φ : Exit → St → Prop) (L0 : St → Prop) (s : St) : Prop :=
  @sOp (some 19) (xBin .add false (s.τ 12) (s.τ 18) s.H) s <| .mk fun s =>
  @sOp (some 3) (xMov (s.τ 19) s.H) s <| .mk fun s =>
  @sOp (some 10) (xMov (s.τ 4) s.H) s <| .mk fun s =>
  @sOp (some 11) (xBin .add false (s.τ 10) (.int .i64 1) s.H) s <| .mk fun s =>
  @sOp (some 4) (xMov (s.τ 11) s.H) s <| .mk fun s =>
  L0 s
def W21_b5 (P : Program) (Φ : Exit → St → Prop) (L0 : St → Prop) (s : St) : Prop :=
  @sOp (some 12) (xMov (s.τ 3) s.H) s <| .mk fun s =>
  @sOp (some 13) (xFld 2 (s.τ 1) s.H) s <| .mk fun s =>
  @sOp (some 14) (xLoad 1 false (s.τ 13) s.H) s <| .mk fun s =>
  @sOp (some 15) (xMov (s.τ 4) s.H) s <| .mk fun s =>
  @sOp (some 16) (xIx 5 (s.τ 14) (s.τ 15) s.H) s <| .mk fun s =>
  @sOp (some 17) (xLoad 5 true (s.τ 16) s.H) s <| .mk fun s =>
  @sCall P (.func 44 []) [(s.τ 17), (.int .i64 0)] (some 18) s ⟨W21_c4 P Φ L0⟩
def W21_l6 (P : Program) (Φ : Exit → St → Prop) (L0 : St → Prop) (s : St) : Prop :=
  @sOp (some 5) (xMov (s.τ 4) s.H) s <| .mk fun s =>
  @sOp (some 6) (xFld 2 (s.τ 1) s.H) s <| .mk fun s =>
  @sOp (some 7) (xLoad 1 false (s.τ 6) s.H) s <| .mk fun s =>
  @sOp (some 8) (xLen (s.τ 7) s.H) s <| .mk fun s =>
  @sOp (some 9) (xBin .lss false (s.τ 5) (s.τ 8) s.H) s <| .mk fun s =>
  @sIf (s.τ 9) ⟨W21_b5 P Φ L0 s⟩ ⟨W21_k3 P Φ s⟩
def W21 (P : Program) (Φ : Exit → St → Prop) (s : St) : Prop :=
  @sOp (some 1) (xBox 1 28 (s.τ 0) s.H) s <| .mk fun s =>
  @sOp (some 2) (xMov (.bool false) s.H) s <| .mk fun s =>
  @sOp (some 3) (xMov (.int .i64 0) s.H) s <| .mk fun s =>
  @sOp (some 4) (xMov (.int .i64 0) s.H) s <| .mk fun s =>
  @sLoop s ⟨fun L0 s => W21_l6 P Φ L0 s⟩
theorem W21_rs (τ : Nat → AV) (H : Heap) : resV Try.prog τ H [.tmp 2] = some (τ 2) := by kernel_rfl
theorem W21_eq (Φ : Exit → St → Prop) (s : St) : awp Try.prog (Try.f21.body.getD .skip) Φ s = W21 Try.prog Φ s := by kernel_rfl

-- 22 "penance/penanceref5.Norm"
def W22_c1 (P : Program) (Φ : Exit → St → Prop) (s : St) : Prop :=
  @sOp none (xStore 9 (s.τ 2) (s.τ 25) s.H) s <| .mk fun s =>
  Φ .ret s
def W22_b2 (P : Program) (Φ : Exit → St → Prop) (s : St) : Prop :=
  @sOp (some 21) (xFld 8 (s.τ 1) s.H) s <| .mk fun s =>
  @sOp (some 22) (xLoad 1 false (s.τ 21) s.H) s <| .mk fun s =>
  @sOp (some 23) (xIx 9 (s.τ 22) (.int .i64 1) s.H) s <| .mk fun s =>
  @sOp (some 24) (xLoad 9 true (s.τ 23) s.H) s <| .mk fun s =>
  @sCall P (.func 22 []) [(s.τ 24)] (some 25) s ⟨W22_c1 P Φ⟩
def W22_b3 (P : Program) (Φ : Exit → St → Prop) (s : St) : Prop :=
  @sOp (some 26) (xLoad 9 true (s.τ 4) s.H) s <| .mk fun s =>
  @sOp (some 27) (xFld 8 (s.τ 1) s.H) s <| .mk fun s =>
  @sOp (some 28) (xLoad 1 false (s.τ 27) s.H) s <| .mk fun s =>
  @sOp (some 29) (xIx 9 (s.τ 28) (.int .i64 1) s.H) s <| .mk fun s =>
  @sOp (some 30) (xLoad 9 true (s.τ 29) s.H) s <| .mk fun s =>
  @sOp (some 31) (xLit 9 2 [.int .i64 0, .int .i64 0, .int .i64 0, .str ⟨#[]⟩, .int .i64 0, .int .i64 0, .str ⟨#[]⟩, .nils, .nils] [(0, (s.τ 26)), (1, (s.τ 30))] s.H) s <| .mk fun s =>
  @sOp (some 32) (xBuild [.int .i64 0, .int .i64 0, .int .i64 0, .str ⟨#[]⟩, .int .i64 0, .int .i64 0, .str ⟨#[]⟩, .nils, .nils] [(0, 1, (.int .i64 12)), (8, 1, (s.τ 31))] s.H) s <| .mk fun s =>
  @sOp none (xStore 9 (s.τ 2) (s.τ 32) s.H) s <| .mk fun s =>
  Φ .ret s
def W22_c4 (P : Program) (Φ : Exit → St → Prop) (s : St) : Prop :=
  @sOp (some 4) (xAlloc 4 34 [.int .i64 0, .int .i64 0, .int .i64 0, .str ⟨#[]⟩, .int .i64 0, .int .i64 0, .str ⟨#[]⟩, .nils, .nils] s.H) s <| .mk fun s =>
  @sOp none (xStore 9 (s.τ 4) (s.τ 17) s.H) s <| .mk fun s =>
  @sOp (some 18) (xFld 0 (s.τ 4) s.H) s <| .mk fun s =>
  @sOp (some 19) (xLoad 1 false (s.τ 18) s.H) s <| .mk fun s =>
  @sOp (some 20) (xBin .eql false (s.τ 19) (.int .i64 0) s.H) s <| .mk fun s =>
  @sIf (s.τ 20) ⟨W22_b2 P Φ s⟩ ⟨W22_b3 P Φ s⟩
def W22_b5 (P : Program) (Φ : Exit → St → Prop) (s : St) : Prop :=
  @sOp (some 13) (xFld 8 (s.τ 1) s.H) s <| .mk fun s =>
  @sOp (some 14) (xLoad 1 false (s.τ 13) s.H) s <| .mk fun s =>
  @sOp (some 15) (xIx 9 (s.τ 14) (.int .i64 0) s.H) s <| .mk fun s =>
  @sOp (some 16) (xLoad 9 true (s.τ 15) s.H) s <| .mk fun s =>
  @sCall P (.func 22 []) [(s.τ 16)] (some 17) s ⟨W22_c4 P Φ⟩
def W22_b6 (P : Program) (Φ : Exit → St → Prop) (s : St) : Prop :=
  @sOp (some 53) (xLoad 9 true (s.τ 3) s.H) s <| .mk fun s =>
  @sOp none (xStore 9 (s.τ 2) (s.τ 53) s.H) s <| .mk fun s =>
  Φ .ret s
def W22_b7 (P : Program) (Φ : Exit → St → Prop) (s : St) : Prop :=
  @sOp (some 54) (xLoad 9 true (s.τ 5) s.H) s <| .mk fun s =>
  @sOp (some 55) (xLoad 9 true (s.τ 6) s.H) s <| .mk fun s =>
  @sOp (some 56) (xLit 9 2 [.int .i64 0, .int .i64 0, .int .i64 0, .str ⟨#[]⟩, .int .i64 0, .int .i64 0, .str ⟨#[]⟩, .nils, .nils] [(0, (s.τ 54)), (1, (s.τ 55))] s.H) s <| .mk fun s =>
  @sOp (some 57) (xBuild [.int .i64 0, .int .i64 0, .int .i64 0, .str ⟨#[]⟩, .int .i64 0, .int .i64 0, .str ⟨#[]⟩, .nils, .nils] [(0, 1, (.int .i64 11)), (8, 1, (s.τ 56))] s.H) s <| .mk fun s =>
  @sOp none (xStore 9 (s.τ 2) (s.τ 57) s.H) s <| .mk fun s =>
  Φ .ret s
def W22_c8 (P : Program) (Φ : Exit → St → Prop) (s : St) : Prop :=
  @sOp (some 52) (xPick (s.τ 48) (s.τ 51) (.bool false) s.H) s <| .mk fun s =>
  @sIf (s.τ 52) ⟨W22_b6 P Φ s⟩ ⟨W22_b7 P Φ s⟩
def W22_c9 (P : Program) (Φ : Exit → St → Prop) (s : St) : Prop :=
  @sGrd (guardOf (s.τ 48) true) (some 51) s ⟨fun s K => @sOp (some 51) (xBin .eql false (s.τ 50) (.int .i64 0) s.H) s ⟨K⟩⟩ ⟨W22_c8 P Φ⟩
def W22_c10 (P : Program) (Φ : Exit → St → Prop) (s : St) : Prop :=
  @sGrd (guardOf (s.τ 48) true) (some 50) s ⟨fun s K => @sOp (some 50) (xLoad 1 false (s.τ 49) s.H) s ⟨K⟩⟩ ⟨W22_c9 P Φ⟩
def W22_c11 (P : Program) (Φ : Exit → St → Prop) (u0 : St) (u1 : St) (u2 : St) (u3 : St) (u4 : St) (u5 : St) (u6 : St) (u7 : St) (u8 : St) (u9 : St) (s : St) : Prop :=
  @sChk (compat (occ (u0.τ 1), []) ([5], [5])) <| .mk <|
  @sChk (compat (occ (u1.τ 35), []) ([5], [5])) <| .mk <|
  @sChk (compat (occ (u2.τ 36), []) ([5], [5])) <| .mk <|
  @sChk (compat (occ (u3.τ 37), []) ([5], [5])) <| .mk <|
  @sChk (compat ([39] ++ (occ (.func 22 []) ++ occL [(u4.τ 38)]), [39] ++ (occ (.func 22 []) ++ occL [(u4.τ 38)])) ([5], [5])) <| .mk <|
  @sChk (compat (occ (u5.τ 1), []) ([5], [5])) <| .mk <|
  @sChk (compat (occ (u6.τ 40), []) ([5], [5])) <| .mk <|
  @sChk (compat (occ (u7.τ 41), []) ([5], [5])) <| .mk <|
  @sChk (compat (occ (u8.τ 42), []) ([5], [5])) <| .mk <|
  @sChk (compat ([44] ++ (occ (.func 22 []) ++ occL [(u9.τ 43)]), [44] ++ (occ (.func 22 []) ++ occL [(u9.τ 43)])) ([5], [5])) <| .mk <|
  @sOp (some 5) (xAlloc 5 34 [.int .i64 0, .int .i64 0, .int .i64 0, .str ⟨#[]⟩, .int .i64 0, .int .i64 0, .str ⟨#[]⟩, .nils, .nils] s.H) s <| .mk fun u11 =>
  @sChk (compat (occ (u0.τ 1), []) ([6], [6])) <| .mk <|
  @sChk (compat (occ (u1.τ 35), []) ([6], [6])) <| .mk <|
  @sChk (compat (occ (u2.τ 36), []) ([6], [6])) <| .mk <|
  @sChk (compat (occ (u3.τ 37), []) ([6], [6])) <| .mk <|
  @sChk (compat ([39] ++ (occ (.func 22 []) ++ occL [(u4.τ 38)]), [39] ++ (occ (.func 22 []) ++ occL [(u4.τ 38)])) ([6], [6])) <| .mk <|
  @sChk (compat (occ (u5.τ 1), []) ([6], [6])) <| .mk <|
  @sChk (compat (occ (u6.τ 40), []) ([6], [6])) <| .mk <|
  @sChk (compat (occ (u7.τ 41), []) ([6], [6])) <| .mk <|
  @sChk (compat (occ (u8.τ 42), []) ([6], [6])) <| .mk <|
  @sChk (compat ([44] ++ (occ (.func 22 []) ++ occL [(u9.τ 43)]), [44] ++ (occ (.func 22 []) ++ occL [(u9.τ 43)])) ([6], [6])) <| .mk <|
  @sChk (compat ([5], [5]) ([6], [6])) <| .mk <|
  @sOp (some 6) (xAlloc 6 34 [.int .i64 0, .int .i64 0, .int .i64 0, .str ⟨#[]⟩, .int .i64 0, .int .i64 0, .str ⟨#[]⟩, .nils, .nils] u11.H) u11 <| .mk fun u12 =>
  @sOp none (xStore 9 (u12.τ 5) (u12.τ 39) u12.H) u12 <| .mk fun u13 =>
  @sOp none (xStore 9 (u13.τ 6) (u13.τ 44) u13.H) u13 <| .mk fun s =>
  @sOp (some 45) (xFld 0 (s.τ 5) s.H) s <| .mk fun s =>
  @sOp (some 46) (xLoad 1 false (s.τ 45) s.H) s <| .mk fun s =>
  @sOp (some 47) (xBin .eql false (s.τ 46) (.int .i64 0) s.H) s <| .mk fun s =>
  @sOp (some 48) (xMov (s.τ 47) s.H) s <| .mk fun s =>
  @sGrd (guardOf (s.τ 48) true) (some 49) s ⟨fun s K => @sOp (some 49) (xFld 0 (s.τ 6) s.H) s ⟨K⟩⟩ ⟨W22_c10 P Φ⟩
def W22_c12 (P : Program) (Φ : Exit → St → Prop) (u0 : St) (u1 : St) (u2 : St) (u3 : St) (u4 : St) (s : St) : Prop :=
  @sChk (compat ([39] ++ (occ (.func 22 []) ++ occL [(u4.τ 38)]), [39] ++ (occ (.func 22 []) ++ occL [(u4.τ 38)])) (occ (s.τ 1), [])) <| .mk <|
  @sOp (some 40) (xFld 8 (s.τ 1) s.H) s <| .mk fun u6 =>
  @sChk (compat ([39] ++ (occ (.func 22 []) ++ occL [(u4.τ 38)]), [39] ++ (occ (.func 22 []) ++ occL [(u4.τ 38)])) (occ (u6.τ 40), [])) <| .mk <|
  @sOp (some 41) (xLoad 1 false (u6.τ 40) u6.H) u6 <| .mk fun u7 =>
  @sChk (compat ([39] ++ (occ (.func 22 []) ++ occL [(u4.τ 38)]), [39] ++ (occ (.func 22 []) ++ occL [(u4.τ 38)])) (occ (u7.τ 41), [])) <| .mk <|
  @sOp (some 42) (xIx 9 (u7.τ 41) (.int .i64 1) u7.H) u7 <| .mk fun u8 =>
  @sChk (compat ([39] ++ (occ (.func 22 []) ++ occL [(u4.τ 38)]), [39] ++ (occ (.func 22 []) ++ occL [(u4.τ 38)])) (occ (u8.τ 42), [])) <| .mk <|
  @sOp (some 43) (xLoad 9 true (u8.τ 42) u8.H) u8 <| .mk fun u9 =>
  @sCall0 P (.func 22 []) [(u9.τ 43)] (some 44) u9 ⟨W22_c11 P Φ u0 u1 u2 u3 u4 s u6 u7 u8 u9⟩
def W22_b13 (P : Program) (Φ : Exit → St → Prop) (s : St) : Prop :=
  @sOp (some 35) (xFld 8 (s.τ 1) s.H) s <| .mk fun u1 =>
  @sOp (some 36) (xLoad 1 false (u1.τ 35) u1.H) u1 <| .mk fun u2 =>
  @sOp (some 37) (xIx 9 (u2.τ 36) (.int .i64 0) u2.H) u2 <| .mk fun u3 =>
  @sOp (some 38) (xLoad 9 true (u3.τ 37) u3.H) u3 <| .mk fun u4 =>
  @sCall0 P (.func 22 []) [(u4.τ 38)] (some 39) u4 ⟨W22_c12 P Φ s u1 u2 u3 u4⟩
def W22_b14 (P : Program) (Φ : Exit → St → Prop) (s : St) : Prop :=
  @sOp (some 68) (xLoad 9 true (s.τ 3) s.H) s <| .mk fun s =>
  @sOp none (xStore 9 (s.τ 2) (s.τ 68) s.H) s <| .mk fun s =>
  Φ .ret s
def W22_b15 (P : Program) (Φ : Exit → St → Prop) (s : St) : Prop :=
  @sOp (some 69) (xLoad 9 true (s.τ 7) s.H) s <| .mk fun s =>
  @sOp (some 70) (xLit 9 1 [.int .i64 0, .int .i64 0, .int .i64 0, .str ⟨#[]⟩, .int .i64 0, .int .i64 0, .str ⟨#[]⟩, .nils, .nils] [(0, (s.τ 69))] s.H) s <| .mk fun s =>
  @sOp (some 71) (xBuild [.int .i64 0, .int .i64 0, .int .i64 0, .str ⟨#[]⟩, .int .i64 0, .int .i64 0, .str ⟨#[]⟩, .nils, .nils] [(0, 1, (.int .i64 7)), (8, 1, (s.τ 70))] s.H) s <| .mk fun s =>
  @sOp none (xStore 9 (s.τ 2) (s.τ 71) s.H) s <| .mk fun s =>
  Φ .ret s
def W22_c16 (P : Program) (Φ : Exit → St → Prop) (s : St) : Prop :=
  @sOp (some 7) (xAlloc 7 34 [.int .i64 0, .int .i64 0, .int .i64 0, .str ⟨#[]⟩, .int .i64 0, .int .i64 0, .str ⟨#[]⟩, .nils, .nils] s.H) s <| .mk fun s =>
  @sOp none (xStore 9 (s.τ 7) (s.τ 64) s.H) s <| .mk fun s =>
  @sOp (some 65) (xFld 0 (s.τ 7) s.H) s <| .mk fun s =>
  @sOp (some 66) (xLoad 1 false (s.τ 65) s.H) s <| .mk fun s =>
  @sOp (some 67) (xBin .eql false (s.τ 66) (.int .i64 0) s.H) s <| .mk fun s =>
  @sIf (s.τ 67) ⟨W22_b14 P Φ s⟩ ⟨W22_b15 P Φ s⟩
def W22_b17 (P : Program) (Φ : Exit → St → Prop) (s : St) : Prop :=
  @sOp (some 60) (xFld 8 (s.τ 1) s.H) s <| .mk fun s =>
  @sOp (some 61) (xLoad 1 false (s.τ 60) s.H) s <| .mk fun s =>
  @sOp (some 62) (xIx 9 (s.τ 61) (.int .i64 0) s.H) s <| .mk fun s =>
  @sOp (some 63) (xLoad 9 true (s.τ 62) s.H) s <| .mk fun s =>
  @sCall P (.func 22 []) [(s.τ 63)] (some 64) s ⟨W22_c16 P Φ⟩
def W22_b18 (P : Program) (Φ : Exit → St → Prop) (s : St) : Prop :=
  @sOp (some 72) (xLoad 9 true (s.τ 1) s.H) s <| .mk fun s =>
  @sOp none (xStore 9 (s.τ 2) (s.τ 72) s.H) s <| .mk fun s =>
  Φ .ret s
def W22_b19 (P : Program) (Φ : Exit → St → Prop) (s : St) : Prop :=
  @sOp (some 59) (xBin .eql false (s.τ 10) (.int .i64 7) s.H) s <| .mk fun s =>
  @sOp (some 58) (xMov (s.τ 59) s.H) s <| .mk fun s =>
  @sIf (s.τ 58) ⟨W22_b17 P Φ s⟩ ⟨W22_b18 P Φ s⟩
def W22_b20 (P : Program) (Φ : Exit → St → Prop) (s : St) : Prop :=
  @sOp (some 34) (xBin .eql false (s.τ 10) (.int .i64 11) s.H) s <| .mk fun s =>
  @sOp (some 33) (xMov (s.τ 34) s.H) s <| .mk fun s =>
  @sIf (s.τ 33) ⟨W22_b13 P Φ s⟩ ⟨W22_b19 P Φ s⟩
def W22 (P : Program) (Φ : Exit → St → Prop) (s : St) : Prop :=
  @sOp (some 1) (xBox 1 34 (s.τ 0) s.H) s <| .mk fun s =>
  @sOp (some 2) (xAlloc 2 34 [.int .i64 0, .int .i64 0, .int .i64 0, .str ⟨#[]⟩, .int .i64 0, .int .i64 0, .str ⟨#[]⟩, .nils, .nils] s.H) s <| .mk fun s =>
  @sOp (some 8) (xBuild [.int .i64 0, .int .i64 0, .int .i64 0, .str ⟨#[]⟩, .int .i64 0, .int .i64 0, .str ⟨#[]⟩, .nils, .nils] [] s.H) s <| .mk fun s =>
  @sOp (some 3) (xAlloc 3 34 [.int .i64 0, .int .i64 0, .int .i64 0, .str ⟨#[]⟩, .int .i64 0, .int .i64 0, .str ⟨#[]⟩, .nils, .nils] s.H) s <| .mk fun s =>
  @sOp none (xStore 9 (s.τ 3) (s.τ 8) s.H) s <| .mk fun s =>
  @sOp (some 9) (xFld 0 (s.τ 1) s.H) s <| .mk fun s =>
  @sOp (some 10) (xLoad 1 false (s.τ 9) s.H) s <| .mk fun s =>
  @sOp (some 12) (xBin .eql false (s.τ 10) (.int .i64 12) s.H) s <| .mk fun s =>
  @sOp (some 11) (xMov (s.τ 12) s.H) s <| .mk fun s =>
  @sIf (s.τ 11) ⟨W22_b5 P Φ s⟩ ⟨W22_b20 P Φ s⟩
theorem W22_rs (τ : Nat → AV) (H : Heap) : resV Try.prog τ H [.cell 2 34] = rdV H 9 true (τ 2) := by kernel_rfl
theorem W22_eq (Φ : Exit → St → Prop) (s : St) : awp Try.prog (Try.f22.body.getD .skip) Φ s = W22 Try.prog Φ s := by kernel_rfl

-- 23 "penance/penancelaw5.Make"
def W23_b1 (P : Program) (Φ : Exit → St → Prop) (s : St) : Prop :=
  @sOp (some 34) (xBuild [.int .i64 0, .int .i64 0, .int .i64 0, .str ⟨#[]⟩, .int .i64 0, .int .i64 0, .str ⟨#[]⟩, .nils, .nils] [(0, 1, (.int .i64 1)), (1, 1, (.int .i64 (-1))), (3, 1, (.str ⟨#[97, 115, 107]⟩))] s.H) s <| .mk fun s =>
  @sOp none (xStore 9 (s.τ 4) (s.τ 34) s.H) s <| .mk fun s =>
  Φ .ret s
def W23_c2 (P : Program) (Φ : Exit → St → Prop) (s : St) : Prop :=
  @sOp none (xStore 9 (s.τ 4) (s.τ 37) s.H) s <| .mk fun s =>
  Φ .ret s
def W23_b3 (P : Program) (Φ : Exit → St → Prop) (s : St) : Prop :=
  @sOp (some 9) (xAlloc 9 3 [.int .i64 0] s.H) s <| .mk fun s =>
  @sOp none (xStore 1 (s.τ 9) (.int .i64 0) s.H) s <| .mk fun s =>
  @sOp (some 35) (xLoad 9 true (s.τ 7) s.H) s <| .mk fun s =>
  @sOp (some 36) (xMov (s.τ 1) s.H) s <| .mk fun s =>
  @sCall P (.func 47 []) [(s.τ 35), (s.τ 36), (s.τ 9), (.bool false)] (some 37) s ⟨W23_c2 P Φ⟩
def W23_c4 (P : Program) (Φ : Exit → St → Prop) (s : St) : Prop :=
  @sOp (some 27) (xMov (s.τ 29) s.H) s <| .mk fun s =>
  @sOp (some 30) (xExt (s.τ 27) 0 s.H) s <| .mk fun s =>
  @sOp (some 31) (xExt (s.τ 27) 1 s.H) s <| .mk fun s =>
  @sOp (some 7) (xAlloc 7 34 [.int .i64 0, .int .i64 0, .int .i64 0, .str ⟨#[]⟩, .int .i64 0, .int .i64 0, .str ⟨#[]⟩, .nils, .nils] s.H) s <| .mk fun s =>
  @sOp none (xStore 9 (s.τ 7) (s.τ 30) s.H) s <| .mk fun s =>
  @sOp (some 8) (xMov (s.τ 31) s.H) s <| .mk fun s =>
  @sOp (some 32) (xMov (s.τ 8) s.H) s <| .mk fun s =>
  @sOp (some 33) (xNot (s.τ 32) s.H) s <| .mk fun s =>
  @sIf (s.τ 33) ⟨W23_b1 P Φ s⟩ ⟨W23_b3 P Φ s⟩
def W23_k5 (P : Program) (Φ : Exit → St → Prop) (s : St) : Prop :=
  @sOp (some 28) (xLoad 3 true (s.τ 5) s.H) s <| .mk fun s =>
  @sCall P (.func 46 []) [(s.τ 28)] (some 29) s ⟨W23_c4 P Φ⟩
def W23_b6 (P : Program) (Φ : Exit → St → Prop) (L0 : St → Prop) (s : St) : Prop :=
  @sOp (some 21) (xFld 2 (s.τ 5) s.H) s <| .mk fun s =>
  @sOp (some 22) (xLoad 1 false (s.τ 21) s.H) s <| .mk fun s =>
  @sOp (some 23) (xMov (s.τ 6) s.H) s <| .mk fun s =>
  @sOp (some 24) (xBuild [.int .i64 0, .str ⟨#[]⟩, .str ⟨#[]⟩, .int .i64 0, .int .i64 0, .str ⟨#[]⟩, .nils, .nils] [(0, 1, (.int .i64 1)), (1, 1, (.str ⟨#[112, 97, 121]⟩))] s.H) s <| .mk fun s =>
  @sOp (some 25) (xIx 9 (s.τ 22) (s.τ 23) s.H) s <| .mk fun s =>
  @sOp (some 26) (xFld 1 (s.τ 25) s.H) s <| .mk fun s =>
  @sOp none (xStore 8 (s.τ 26) (s.τ 24) s.H) s <| .mk fun s =>
  @sOp (some 19) (xMov (s.τ 6) s.H) s <| .mk fun s =>
  @sOp (some 20) (xBin .add false (s.τ 19) (.int .i64 1) s.H) s <| .mk fun s =>
  @sOp (some 6) (xMov (s.τ 20) s.H) s <| .mk fun s =>
  L0 s
def W23_l7 (P : Program) (Φ : Exit → St → Prop) (L0 : St → Prop) (s : St) : Prop :=
  @sOp (some 14) (xMov (s.τ 6) s.H) s <| .mk fun s =>
  @sOp (some 15) (xFld 2 (s.τ 5) s.H) s <| .mk fun s =>
  @sOp (some 16) (xLoad 1 false (s.τ 15) s.H) s <| .mk fun s =>
  @sOp (some 17) (xLen (s.τ 16) s.H) s <| .mk fun s =>
  @sOp (some 18) (xBin .lss false (s.τ 14) (s.τ 17) s.H) s <| .mk fun s =>
  @sIf (s.τ 18) ⟨W23_b6 P Φ L0 s⟩ ⟨W23_k5 P Φ s⟩
def W23_c8 (P : Program) (Φ : Exit → St → Prop) (s : St) : Prop :=
  @sOp (some 5) (xAlloc 5 69 [.nils, .nils, .nils] s.H) s <| .mk fun s =>
  @sOp none (xStore 3 (s.τ 5) (s.τ 13) s.H) s <| .mk fun s =>
  @sOp (some 6) (xMov (.int .i64 1) s.H) s <| .mk fun s =>
  @sLoop s ⟨fun L0 s => W23_l7 P Φ L0 s⟩
def W23 (P : Program) (Φ : Exit → St → Prop) (s : St) : Prop :=
  @sOp (some 2) (xBox 2 25 (s.τ 0) s.H) s <| .mk fun s =>
  @sOp (some 4) (xAlloc 4 34 [.int .i64 0, .int .i64 0, .int .i64 0, .str ⟨#[]⟩, .int .i64 0, .int .i64 0, .str ⟨#[]⟩, .nils, .nils] s.H) s <| .mk fun s =>
  @sOp (some 10) (xLoad 5 true (s.τ 2) s.H) s <| .mk fun s =>
  @sOp (some 11) (xLit 5 1 [.int .i64 0, .int .i64 0, .int .i64 0, .nils, .nils] [(0, (s.τ 10))] s.H) s <| .mk fun s =>
  @sOp (some 12) (xBuild [.int .i64 0, .int .i64 0, .nils] [(2, 1, (s.τ 11))] s.H) s <| .mk fun s =>
  @sCall P (.func 45 []) [(s.τ 12)] (some 13) s ⟨W23_c8 P Φ⟩
theorem W23_rs (τ : Nat → AV) (H : Heap) : resV Try.prog τ H [.cell 4 34] = rdV H 9 true (τ 4) := by kernel_rfl
theorem W23_eq (Φ : Exit → St → Prop) (s : St) : awp Try.prog (Try.f23.body.getD .skip) Φ s = W23 Try.prog Φ s := by kernel_rfl

end Go.Proofs.Ytkagfenchknjjaa
