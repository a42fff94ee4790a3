import Derived.Test.YtahchfkmpcfefaaGA7
import Derived.Test.YtahchfkmpcfefaaProg
import Derived.KernelRfl
set_option linter.unusedVariables false
set_option maxRecDepth 100000
namespace Go.Proofs.Ytahchfkmpcfefaa
open Go Go.Am
-- 6 "penance/penancelaw12.WireLost"
def W6_b1 (Φ:EP) (s:St):Prop:=
 V 6 false s fun s=>
 Φ .ret s
def W6_b2 (Φ:EP) (s:St):Prop:=
 V 6 false s fun s=>
 Φ .ret s
def W6_b3 (Φ:EP) (s:St):Prop:=
 V 6 false s fun s=>
 Φ .ret s
def W6_k14 (Φ:EP) (s:St):Prop:=
 M 98 12 s fun s=>
 J 99 .eql false 98 1 s fun s=>
 M 100 99 s fun s=>
 gm 101 7 100 true s fun s=>
 @sGrd (guardOf (s.τ 100) true) (some 102) s ⟨fun s K=>@sCall Try.prog (.func 18 []) [(s.τ 101)] (some 102) s ⟨K⟩⟩<|.mk fun s=>
 go 103 100 true s (fun s=>(xLen (s.τ 102) s.H)) fun s=>
 go 104 100 true s (fun s=>(xBin .eql false (s.τ 103) (.int .i64 0) s.H)) fun s=>
 A 105 100 104 s fun s=>
 M 106 105 s fun s=>
 gm 107 7 106 true s fun s=>
 @sGrd (guardOf (s.τ 106) true) (some 108) s ⟨fun s K=>@sCall Try.prog (.func 22 []) [(s.τ 107),(.int .i64 0)] (some 108) s ⟨K⟩⟩<|.mk fun s=>
 go 109 106 true s (fun s=>(xNot (s.τ 108) s.H)) fun s=>
 A 110 106 109 s fun s=>
 M 111 110 s fun s=>
 gm 112 7 111 true s fun s=>
 @sGrd (guardOf (s.τ 111) true) (some 113) s ⟨fun s K=>@sCall Try.prog (.func 23 []) [(s.τ 112),(.int .i64 0)] (some 113) s ⟨K⟩⟩<|.mk fun s=>
 go 114 111 true s (fun s=>(xNot (s.τ 113) s.H)) fun s=>
 A 115 111 114 s fun s=>
 M 6 115 s fun s=>
 Φ .ret s
def W6_k15 (Φ:EP) (L0:SP) (s:St):Prop:=
 M 72 13 s fun s=>
 J 73 .add false 72 1 s fun s=>
 M 13 73 s fun s=>
 L0 s
def W6_b16 (Φ:EP) (L0:SP) (s:St):Prop:=
 V 6 false s fun s=>
 Φ .ret s
def W6_b17 (Φ:EP) (L0:SP) (s:St):Prop:=
 M 96 12 s fun s=>
 J 97 .add false 96 1 s fun s=>
 M 12 97 s fun s=>
 W6_k15 Φ L0 s
def W6_b19 (Φ:EP) (L0:SP) (s:St):Prop:=
 M 91 7 s fun s=>
 Ca Try.prog 19 [(s.τ 91),(.int .i64 0)] 92 s fun s=>
 M 90 92 s fun s=>
 E 93 90 0 s fun s=>
 E 94 90 1 s fun s=>
 Z 14 30 z3 s fun s=>
 U 3 14 93 s fun s=>
 M 15 94 s fun s=>
 M 95 15 s fun s=>
 If 95 s (W6_b17 Φ L0 s) (W6_k15 Φ L0 s)
def W6_b28 (Φ:EP) (L0:SP) (s:St):Prop:=
 M 74 11 s fun s=>
 M 75 13 s fun s=>
 X 76 4 74 75 s fun s=>
 F 77 0 76 s fun s=>
 L 78 1 77 false s fun s=>
 Q 79 78 s fun s=>
 M 80 79 s fun s=>
 gm 81 11 80 false s fun s=>
 gm 82 13 80 false s fun s=>
 go 83 80 false s (fun s=>(xIx 4 (s.τ 81) (s.τ 82) s.H)) fun s=>
 gf 84 1 83 80 false s fun s=>
 gf 85 2 84 80 false s fun s=>
 gl 86 1 85 80 false false s fun s=>
 gm 87 1 80 false s fun s=>
 go 88 80 false s (fun s=>(xBin .neq false (s.τ 86) (s.τ 87) s.H)) fun s=>
 O 89 80 88 s fun s=>
 If 89 s (W6_b16 Φ L0 s) (W6_b19 Φ L0 s)
def W6_l29 (Φ:EP) (L0:SP) (s:St):Prop:=
 M 69 13 s fun s=>
 M 70 9 s fun s=>
 B 71 .lss false 69 70 s fun s=>
 If 71 s (W6_b28 Φ L0 s) (W6_k14 Φ s)
def W6_b30 (Φ:EP) (s:St):Prop:=
 I 12 0 s fun s=>
 I 13 0 s fun s=>
 @sLoop s ⟨fun L0 s=>W6_l29 Φ L0 s⟩
def W6_k43 (Φ:EP) (s:St):Prop:=
 M 48 7 s fun s=>
 Ca Try.prog 18 [(s.τ 48)] 49 s fun s=>
 M 11 49 s fun s=>
 M 50 11 s fun s=>
 N 51 50 s fun s=>
 M 52 9 s fun s=>
 B 53 .neq false 51 52 s fun s=>
 M 54 53 s fun s=>
 gm 55 7 54 false s fun s=>
 @sGrd (guardOf (s.τ 54) false) (some 56) s ⟨fun s K=>@sCall Try.prog (.func 20 []) [(s.τ 55)] (some 56) s ⟨K⟩⟩<|.mk fun s=>
 go 57 54 false s (fun s=>(xLen (s.τ 56) s.H)) fun s=>
 go 58 54 false s (fun s=>(xBin .neq false (s.τ 57) (.int .i64 1) s.H)) fun s=>
 O 59 54 58 s fun s=>
 M 60 59 s fun s=>
 gm 61 7 60 false s fun s=>
 @sGrd (guardOf (s.τ 60) false) (some 62) s ⟨fun s K=>@sCall Try.prog (.func 20 []) [(s.τ 61)] (some 62) s ⟨K⟩⟩<|.mk fun s=>
 go 63 60 false s (fun s=>(xIx 3 (s.τ 62) (.int .i64 0) s.H)) fun s=>
 gf 64 2 63 60 false s fun s=>
 gl 65 1 64 60 false false s fun s=>
 gm 66 1 60 false s fun s=>
 go 67 60 false s (fun s=>(xBin .neq false (s.τ 65) (s.τ 66) s.H)) fun s=>
 O 68 60 67 s fun s=>
 If 68 s (W6_b3 Φ s) (W6_b30 Φ s)
def W6_b45 (Φ:EP) (L0:SP) (s:St):Prop:=
 M 46 7 s fun s=>
 Ca Try.prog 19 [(s.τ 46),(.int .i64 0)] 47 s fun s=>
 M 44 10 s fun s=>
 J 45 .add false 44 1 s fun s=>
 M 10 45 s fun s=>
 L0 s
def W6_l46 (Φ:EP) (L0:SP) (s:St):Prop:=
 M 41 10 s fun s=>
 M 42 9 s fun s=>
 B 43 .lss false 41 42 s fun s=>
 If 43 s (W6_b45 Φ L0 s) (W6_k43 Φ s)
def W6_k48 (Φ:EP) (s:St):Prop:=
 M 38 2 s fun s=>
 Ca Try.prog 15 [(s.τ 38),(.int .i64 6)] 39 s fun s=>
 J 40 .add false 39 1 s fun s=>
 M 9 40 s fun s=>
 I 10 0 s fun s=>
 @sLoop s ⟨fun L0 s=>W6_l46 Φ L0 s⟩
def W6_b49 (Φ:EP) (L0:SP) (s:St):Prop:=
 V 6 false s fun s=>
 Φ .ret s
def W6_b50 (Φ:EP) (L0:SP) (s:St):Prop:=
 M 33 8 s fun s=>
 J 34 .add false 33 1 s fun s=>
 M 8 34 s fun s=>
 L0 s
def W6_b52 (Φ:EP) (L0:SP) (s:St):Prop:=
 M 35 7 s fun s=>
 Ca Try.prog 23 [(s.τ 35),(.int .i64 0)] 36 s fun s=>
 Q 37 36 s fun s=>
 If 37 s (W6_b49 Φ L0 s) (W6_b50 Φ L0 s)
def W6_l54 (Φ:EP) (L0:SP) (s:St):Prop:=
 M 29 8 s fun s=>
 M 30 2 s fun s=>
 Ca Try.prog 15 [(s.τ 30),(.int .i64 6)] 31 s fun s=>
 B 32 .lss false 29 31 s fun s=>
 If 32 s (W6_b52 Φ L0 s) (W6_k48 Φ s)
def W6_b56 (Φ:EP) (s:St):Prop:=
 M 25 7 s fun s=>
 M 26 0 s fun s=>
 Bd 27 z3 [(0,1,(.str ⟨#[112,97,121]⟩)),(1,1,(s.τ 26))] s fun s=>
 Ca Try.prog 17 [(s.τ 25),(s.τ 27)] 28 s fun s=>
 I 8 0 s fun s=>
 @sLoop s ⟨fun L0 s=>W6_l54 Φ L0 s⟩
def W6_b59 (Φ:EP) (s:St):Prop:=
 M 18 1 s fun s=>
 M 19 1 s fun s=>
 J 20 .add false 19 1 s fun s=>
 Lt 21 1 2 [.int .i64 0] [(0,(s.τ 18)),(1,(s.τ 20))] s fun s=>
 Ca Try.prog 14 [(s.τ 21)] 22 s fun s=>
 M 7 22 s fun s=>
 M 23 7 s fun s=>
 @sNilp false (s.τ 23) (some 24) s<|.mk fun s=>
 If 24 s (W6_b2 Φ s) (W6_b56 Φ s)
def W6 (Φ:EP) (s:St):Prop:=
 V 6 false s fun s=>
 Ca Try.prog 13 [] 16 s fun s=>
 Q 17 16 s fun s=>
 If 17 s (W6_b1 Φ s) (W6_b59 Φ s)
theorem W6_rs (τ:Nat → AV) (H:Heap):resV Try.prog τ H [.tmp 6] = some (τ 6):=by kernel_rfl
theorem W6_eq:EqW Try.prog Try.f6 W6:=fun _ _=>by kernel_rfl
theorem W6_S:SpW Try.prog 6 116 [.tmp 6] W6:=spW Try.func6 Try.ntmps6 W6_eq
-- 13 "penance/penancelaw12.known"
def W13_b1 (Φ:EP) (s:St):Prop:=
 V 0 false s fun s=>
 Φ .ret s
def W13_b20 (Φ:EP) (s:St):Prop:=
 M 16 1 s fun s=>
 Bd 17 z3 [(0,1,(.str ⟨#[112,97,121]⟩)),(1,1,(.int .i64 3))] s fun s=>
 Ca Try.prog 17 [(s.τ 16),(s.τ 17)] 18 s fun s=>
 M 20 1 s fun s=>
 Ca Try.prog 19 [(s.τ 20),(.int .i64 0)] 21 s fun s=>
 M 19 21 s fun s=>
 E 22 19 0 s fun s=>
 E 23 19 1 s fun s=>
 Z 2 30 z3 s fun s=>
 U 3 2 22 s fun s=>
 M 3 23 s fun s=>
 M 25 1 s fun s=>
 Ca Try.prog 19 [(s.τ 25),(.int .i64 0)] 26 s fun s=>
 M 24 26 s fun s=>
 E 27 24 0 s fun s=>
 E 28 24 1 s fun s=>
 Z 4 30 z3 s fun s=>
 U 3 4 27 s fun s=>
 M 5 28 s fun s=>
 M 29 3 s fun s=>
 Q 30 29 s fun s=>
 M 31 30 s fun s=>
 gm 32 5 31 true s fun s=>
 A 33 31 32 s fun s=>
 M 34 33 s fun s=>
 gf 35 2 4 34 true s fun s=>
 gl 36 1 35 34 false true s fun s=>
 go 37 34 true s (fun s=>(xBin .eql false (s.τ 36) (.int .i64 7) s.H)) fun s=>
 A 38 34 37 s fun s=>
 M 39 38 s fun s=>
 gf 40 1 4 39 true s fun s=>
 gl 41 1 40 39 false true s fun s=>
 go 42 39 true s (fun s=>(xBin .eql false (s.τ 41) (.int .i64 3) s.H)) fun s=>
 A 43 39 42 s fun s=>
 M 44 43 s fun s=>
 gm 45 1 44 true s fun s=>
 @sGrd (guardOf (s.τ 44) true) (some 46) s ⟨fun s K=>@sCall Try.prog (.func 20 []) [(s.τ 45)] (some 46) s ⟨K⟩⟩<|.mk fun s=>
 go 47 44 true s (fun s=>(xLen (s.τ 46) s.H)) fun s=>
 go 48 44 true s (fun s=>(xBin .eql false (s.τ 47) (.int .i64 1) s.H)) fun s=>
 A 49 44 48 s fun s=>
 M 50 49 s fun s=>
 gm 51 1 50 true s fun s=>
 @sGrd (guardOf (s.τ 50) true) (some 52) s ⟨fun s K=>@sCall Try.prog (.func 16 []) [(s.τ 51)] (some 52) s ⟨K⟩⟩<|.mk fun s=>
 go 53 50 true s (fun s=>(xLen (s.τ 52) s.H)) fun s=>
 go 54 50 true s (fun s=>(xBin .eql false (s.τ 53) (.int .i64 0) s.H)) fun s=>
 A 55 50 54 s fun s=>
 M 0 55 s fun s=>
 Φ .ret s
def W13 (Φ:EP) (s:St):Prop:=
 V 0 false s fun s=>
 Lt 6 1 1 [.int .i64 0] [(0,(.int .i64 7))] s fun s=>
 Ca Try.prog 14 [(s.τ 6)] 7 s fun s=>
 M 1 7 s fun s=>
 M 8 1 s fun s=>
 @sNilp false (s.τ 8) (some 9) s<|.mk fun s=>
 M 10 9 s fun s=>
 gm 11 1 10 false s fun s=>
 @sGrd (guardOf (s.τ 10) false) (some 12) s ⟨fun s K=>@sCall Try.prog (.func 18 []) [(s.τ 11)] (some 12) s ⟨K⟩⟩<|.mk fun s=>
 go 13 10 false s (fun s=>(xLen (s.τ 12) s.H)) fun s=>
 go 14 10 false s (fun s=>(xBin .neq false (s.τ 13) (.int .i64 0) s.H)) fun s=>
 O 15 10 14 s fun s=>
 If 15 s (W13_b1 Φ s) (W13_b20 Φ s)
theorem W13_rs (τ:Nat → AV) (H:Heap):resV Try.prog τ H [.tmp 0] = some (τ 0):=by kernel_rfl
theorem W13_eq:EqW Try.prog Try.f13 W13:=fun _ _=>by kernel_rfl
theorem W13_S:SpW Try.prog 13 56 [.tmp 0] W13:=spW Try.func13 Try.ntmps13 W13_eq
-- 14 "penance/wire.New"
def W14 (Φ:EP) (s:St):Prop:=
 @sOp (some 2) (xMov (.nilp) s.H) s<|.mk fun s=>
 M 3 0 s fun s=>
 Ca Try.prog 34 [(s.τ 3)] 4 s fun s=>
 @sOp (some 5) (xMkm 5 .i s.H) s<|.mk fun s=>
 Bd 6 [.nils,.int .i64 0,.nilp,.nils,.nils] [(0,1,(s.τ 4)),(2,1,(s.τ 5))] s fun s=>
 Y 7 57 6 s fun s=>
 M 2 7 s fun s=>
 Φ .ret s
theorem W14_rs (τ:Nat → AV) (H:Heap):resV Try.prog τ H [.tmp 2] = some (τ 2):=by kernel_rfl
theorem W14_eq:EqW Try.prog Try.f14 W14:=fun _ _=>by kernel_rfl
theorem W14_S:SpW Try.prog 14 8 [.tmp 2] W14:=spW Try.func14 Try.ntmps14 W14_eq
-- 15 "penance/penancelaw12.within"
def W15_k1 (Φ:EP) (s:St):Prop:=
 M 14 5 s fun s=>
 M 4 14 s fun s=>
 Φ .ret s
def W15_b2 (Φ:EP) (s:St):Prop:=
 M 11 5 s fun s=>
 M 12 1 s fun s=>
 B 13 .add false 11 12 s fun s=>
 M 5 13 s fun s=>
 W15_k1 Φ s
def W15 (Φ:EP) (s:St):Prop:=
 I 4 0 s fun s=>
 M 6 0 s fun s=>
 M 7 1 s fun s=>
 B 8 .rem false 6 7 s fun s=>
 M 5 8 s fun s=>
 M 9 5 s fun s=>
 J 10 .lss false 9 0 s fun s=>
 If 10 s (W15_b2 Φ s) (W15_k1 Φ s)
theorem W15_rs (τ:Nat → AV) (H:Heap):resV Try.prog τ H [.tmp 4] = some (τ 4):=by kernel_rfl
theorem W15_eq:EqW Try.prog Try.f15 W15:=fun _ _=>by kernel_rfl
theorem W15_S:SpW Try.prog 15 15 [.tmp 4] W15:=spW Try.func15 Try.ntmps15 W15_eq
-- 16 "(*penance/wire.Wire).Open"
def W16 (Φ:EP) (s:St):Prop:=
 @sOp (some 2) (xMov (.nils) s.H) s<|.mk fun s=>
 M 3 0 s fun s=>
 @sOp (some 4) (xNil (s.τ 3) s.H) s<|.mk fun s=>
 F 5 2 4 s fun s=>
 L 6 1 5 false s fun s=>
 Ca Try.prog 36 [(s.τ 6)] 7 s fun s=>
 Ca Try.prog 35 [(s.τ 7)] 8 s fun s=>
 Ca Try.prog 34 [(s.τ 8)] 9 s fun s=>
 M 2 9 s fun s=>
 Φ .ret s
theorem W16_rs (τ:Nat → AV) (H:Heap):resV Try.prog τ H [.tmp 2] = some (τ 2):=by kernel_rfl
theorem W16_eq:EqW Try.prog Try.f16 W16:=fun _ _=>by kernel_rfl
theorem W16_S:SpW Try.prog 16 10 [.tmp 2] W16:=spW Try.func16 Try.ntmps16 W16_eq
-- 17 "(*penance/wire.Wire).Ask"
def W17_b2 (Φ:EP) (s:St):Prop:=
 M 17 0 s fun s=>
 @sOp (some 18) (xNil (s.τ 17) s.H) s<|.mk fun s=>
 F 19 2 18 s fun s=>
 L 20 1 19 false s fun s=>
 F 21 1 3 s fun s=>
 L 22 1 21 false s fun s=>
 F 23 0 3 s fun s=>
 L 24 1 23 false s fun s=>
 M 25 0 s fun s=>
 @sOp (some 26) (xNil (s.τ 25) s.H) s<|.mk fun s=>
 F 27 1 26 s fun s=>
 L 28 1 27 false s fun s=>
 J 29 .add false 28 1 s fun s=>
 Bd 30 z3 [(0,1,(s.τ 24)),(1,1,(s.τ 29)),(2,1,(.int .i64 1))] s fun s=>
 @sOp none (xMup .i (s.τ 20) (s.τ 22) (s.τ 30) s.H) s<|.mk fun s=>
 M 31 0 s fun s=>
 F 32 0 3 s fun s=>
 L 33 1 32 false s fun s=>
 F 34 1 3 s fun s=>
 L 35 1 34 false s fun s=>
 Bd 36 z3 [(0,1,(s.τ 33)),(1,1,(s.τ 35))] s fun s=>
 Ca Try.prog 37 [(s.τ 31),(.bool false),(s.τ 36)] 37 s fun s=>
 Φ .normal s
def W17 (Φ:EP) (s:St):Prop:=
 Y 3 30 1 s fun s=>
 M 7 0 s fun u1=>
 @sOp (some 8) (xNil (u1.τ 7) u1.H) u1<|.mk fun u2=>
 F 9 2 8 u2 fun u3=>
 L 10 1 9 false u3 fun u4=>
 F 11 1 3 u4 fun u5=>
 L 12 1 11 false u5 fun u6=>
 @sOp (some 13) (xLk .i (.agg z3) true (u6.τ 10) (u6.τ 12) u6.H) u6<|.mk fun u7=>
 M 6 13 u7 fun u8=>
 E 14 6 0 u8 fun u9=>
 E 15 6 1 u9 fun u10=>
 k1 (u1.τ 7) 4 <|
 k1 (u2.τ 8) 4 <|
 k1 (u3.τ 9) 4 <|
 k1 (u4.τ 3) 4 <|
 k1 (u5.τ 11) 4 <|
 k1 (u6.τ 10) 4 <|
 Z 4 63 z3 u10 fun u11=>
 U 3 4 14 u11 fun u12=>
 M 5 15 u12 fun s=>
 M 16 5 s fun s=>
 @sIf (s.τ 16) ⟨Φ .ret s⟩ ⟨W17_b2 Φ s⟩
theorem W17_rs (τ:Nat → AV) (H:Heap):resV Try.prog τ H [] = ob (some []) fun vs=>some (.tup vs):=by kernel_rfl
theorem W17_eq:EqW Try.prog Try.f17 W17:=fun _ _=>by kernel_rfl
theorem W17_S:SpW Try.prog 17 38 [] W17:=spW Try.func17 Try.ntmps17 W17_eq
-- 18 "(*penance/wire.Wire).Flight"
def W18 (Φ:EP) (s:St):Prop:=
 @sOp (some 2) (xMov (.nils) s.H) s<|.mk fun s=>
 M 3 0 s fun s=>
 @sOp (some 4) (xNil (s.τ 3) s.H) s<|.mk fun s=>
 F 5 3 4 s fun s=>
 L 6 1 5 false s fun s=>
 Ca Try.prog 38 [(s.τ 6)] 7 s fun s=>
 M 2 7 s fun s=>
 Φ .ret s
theorem W18_rs (τ:Nat → AV) (H:Heap):resV Try.prog τ H [.tmp 2] = some (τ 2):=by kernel_rfl
theorem W18_eq:EqW Try.prog Try.f18 W18:=fun _ _=>by kernel_rfl
theorem W18_S:SpW Try.prog 18 8 [.tmp 2] W18:=spW Try.func18 Try.ntmps18 W18_eq
-- 19 "(*penance/wire.Wire).Deliver"
def W19_b1 (Φ:EP) (s:St):Prop:=
 Bd 13 z3 [] s fun s=>
 U 3 4 13 s fun s=>
 V 5 false s fun s=>
 Φ .ret s
def W19_b4 (Φ:EP) (s:St):Prop:=
 M 27 0 s fun u1=>
 F 28 1 6 u1 fun u2=>
 F 29 0 28 u2 fun u3=>
 L 30 1 29 false u3 fun u4=>
 F 31 1 6 u4 fun u5=>
 F 32 1 31 u5 fun u6=>
 L 33 1 32 false u6 fun u7=>
 M 34 0 u7 fun u8=>
 F 35 1 6 u8 fun u9=>
 L 36 3 35 true u9 fun u10=>
 k3 (u1.τ 6) (cfp 37 40 [(u10.τ 34),(u10.τ 36)]) <|
 k3 (u2.τ 28) (cfp 37 40 [(u10.τ 34),(u10.τ 36)]) <|
 k3 (u3.τ 29) (cfp 37 40 [(u10.τ 34),(u10.τ 36)]) <|
 k3 (u4.τ 6) (cfp 37 40 [(u10.τ 34),(u10.τ 36)]) <|
 k3 (u5.τ 31) (cfp 37 40 [(u10.τ 34),(u10.τ 36)]) <|
 k3 (u6.τ 32) (cfp 37 40 [(u10.τ 34),(u10.τ 36)]) <|
 C0 Try.prog 40 [(u10.τ 34),(u10.τ 36)] 37 u10 fun u11=>
 Bd 38 z3 [(0,1,(u11.τ 30)),(1,1,(u11.τ 33)),(2,1,(u11.τ 37))] u11 fun u12=>
 Ca Try.prog 37 [(u12.τ 27),(.bool true),(u12.τ 38)] 39 u12 fun s=>
 Bd 40 z3 [] s fun s=>
 U 3 4 40 s fun s=>
 V 5 false s fun s=>
 Φ .ret s
def W19_b5 (Φ:EP) (s:St):Prop:=
 Bd 54 z3 [] s fun s=>
 U 3 4 54 s fun s=>
 V 5 false s fun s=>
 Φ .ret s
def W19_b7 (Φ:EP) (s:St):Prop:=
 M 55 0 s fun s=>
 F 56 1 6 s fun s=>
 F 57 1 56 s fun s=>
 L 58 1 57 false s fun s=>
 Ca Try.prog 24 [(s.τ 55),(s.τ 58)] 59 s fun s=>
 F 60 1 6 s fun s=>
 L 61 3 60 true s fun s=>
 U 3 4 61 s fun s=>
 V 5 true s fun s=>
 Φ .ret s
def W19_b8 (Φ:EP) (s:St):Prop:=
 M 42 0 s fun u1=>
 @sOp (some 43) (xNil (u1.τ 42) u1.H) u1<|.mk fun u2=>
 F 44 2 43 u2 fun u3=>
 L 45 1 44 false u3 fun u4=>
 F 46 1 6 u4 fun u5=>
 F 47 1 46 u5 fun u6=>
 L 48 1 47 false u6 fun u7=>
 @sOp (some 49) (xLk .i (.agg z3) true (u7.τ 45) (u7.τ 48) u7.H) u7<|.mk fun u8=>
 M 41 49 u8 fun u9=>
 E 50 41 0 u9 fun u10=>
 E 51 41 1 u10 fun u11=>
 k1 (u1.τ 42) 7 <|
 k1 (u2.τ 43) 7 <|
 k1 (u3.τ 44) 7 <|
 k1 (u4.τ 6) 7 <|
 k1 (u5.τ 46) 7 <|
 k1 (u6.τ 47) 7 <|
 k1 (u7.τ 45) 7 <|
 Z 7 63 z3 u11 fun u12=>
 U 3 7 50 u12 fun u13=>
 M 8 51 u13 fun s=>
 M 52 8 s fun s=>
 Q 53 52 s fun s=>
 If 53 s (W19_b5 Φ s) (W19_b7 Φ s)
def W19_b10 (Φ:EP) (s:St):Prop:=
 M 14 0 s fun s=>
 @sOp (some 15) (xNil (s.τ 14) s.H) s<|.mk fun s=>
 F 16 3 15 s fun s=>
 L 17 1 16 false s fun s=>
 M 18 1 s fun s=>
 X 19 4 17 18 s fun s=>
 L 20 4 19 true s fun s=>
 Z 6 42 [.bool false,.str ⟨#[]⟩,.int .i64 0,.int .i64 0] s fun s=>
 U 4 6 20 s fun s=>
 M 21 0 s fun s=>
 M 22 1 s fun s=>
 Ca Try.prog 22 [(s.τ 21),(s.τ 22)] 23 s fun s=>
 F 24 0 6 s fun s=>
 L 25 1 24 false s fun s=>
 Q 26 25 s fun s=>
 If 26 s (W19_b4 Φ s) (W19_b8 Φ s)
def W19 (Φ:EP) (s:St):Prop:=
 Z 4 30 z3 s fun s=>
 V 5 false s fun s=>
 M 9 0 s fun s=>
 M 10 1 s fun s=>
 Ca Try.prog 39 [(s.τ 9),(s.τ 10)] 11 s fun s=>
 Q 12 11 s fun s=>
 If 12 s (W19_b1 Φ s) (W19_b10 Φ s)
theorem W19_rs (τ:Nat → AV) (H:Heap):resV Try.prog τ H [.cell 4 30,.tmp 5] = ob (ob (rdV H 3 true (τ 4)) fun v=>ob (ob (some (τ 5)) fun v=>ob (some []) fun vs=>some (v :: vs)) fun vs=>some (v :: vs)) fun vs=>some (.tup vs):=by kernel_rfl
theorem W19_eq:EqW Try.prog Try.f19 W19:=fun _ _=>by kernel_rfl
theorem W19_S:SpW Try.prog 19 62 [.cell 4 30,.tmp 5] W19:=spW Try.func19 Try.ntmps19 W19_eq
-- 20 "(*penance/wire.Wire).Applied"
def W20 (Φ:EP) (s:St):Prop:=
 @sOp (some 2) (xMov (.nils) s.H) s<|.mk fun s=>
 M 3 0 s fun s=>
 @sOp (some 4) (xNil (s.τ 3) s.H) s<|.mk fun s=>
 F 5 4 4 s fun s=>
 L 6 1 5 false s fun s=>
 Ca Try.prog 41 [(s.τ 6)] 7 s fun s=>
 M 2 7 s fun s=>
 Φ .ret s
theorem W20_rs (τ:Nat → AV) (H:Heap):resV Try.prog τ H [.tmp 2] = some (τ 2):=by kernel_rfl
theorem W20_eq:EqW Try.prog Try.f20 W20:=fun _ _=>by kernel_rfl
theorem W20_S:SpW Try.prog 20 8 [.tmp 2] W20:=spW Try.func20 Try.ntmps20 W20_eq
-- 22 "(*penance/wire.Wire).Drop"
def W22_b1 (Φ:EP) (s:St):Prop:=
 V 4 false s fun s=>
 Φ .ret s
def W22_b4 (Φ:EP) (s:St):Prop:=
 M 9 0 s fun s=>
 M 10 0 s fun s=>
 @sOp (some 11) (xNil (s.τ 10) s.H) s<|.mk fun s=>
 F 12 3 11 s fun s=>
 L 13 1 12 false s fun s=>
 Ca Try.prog 38 [(s.τ 13)] 14 s fun s=>
 M 15 1 s fun s=>
 M 16 1 s fun s=>
 J 17 .add false 16 1 s fun s=>
 Ca Try.prog 42 [(s.τ 14),(s.τ 15),(s.τ 17)] 18 s fun s=>
 @sOp (some 19) (xNil (s.τ 9) s.H) s<|.mk fun s=>
 F 20 3 19 s fun s=>
 U 1 20 18 s fun s=>
 V 4 true s fun s=>
 Φ .ret s
def W22 (Φ:EP) (s:St):Prop:=
 V 4 false s fun s=>
 M 5 0 s fun s=>
 M 6 1 s fun s=>
 Ca Try.prog 39 [(s.τ 5),(s.τ 6)] 7 s fun s=>
 Q 8 7 s fun s=>
 If 8 s (W22_b1 Φ s) (W22_b4 Φ s)
theorem W22_rs (τ:Nat → AV) (H:Heap):resV Try.prog τ H [.tmp 4] = some (τ 4):=by kernel_rfl
theorem W22_eq:EqW Try.prog Try.f22 W22:=fun _ _=>by kernel_rfl
theorem W22_S:SpW Try.prog 22 21 [.tmp 4] W22:=spW Try.func22 Try.ntmps22 W22_eq
-- 23 "(*penance/wire.Wire).Twice"
def W23_b1 (Φ:EP) (s:St):Prop:=
 V 4 false s fun s=>
 Φ .ret s
def W23_b3 (Φ:EP) (s:St):Prop:=
 M 9 0 s fun s=>
 M 10 0 s fun s=>
 @sOp (some 11) (xNil (s.τ 10) s.H) s<|.mk fun s=>
 F 12 3 11 s fun s=>
 L 13 1 12 false s fun s=>
 M 14 1 s fun s=>
 X 15 4 13 14 s fun s=>
 F 16 0 15 s fun s=>
 L 17 1 16 false s fun s=>
 M 18 0 s fun s=>
 @sOp (some 19) (xNil (s.τ 18) s.H) s<|.mk fun s=>
 F 20 3 19 s fun s=>
 L 21 1 20 false s fun s=>
 M 22 1 s fun s=>
 X 23 4 21 22 s fun s=>
 F 24 1 23 s fun s=>
 L 25 3 24 true s fun s=>
 Ca Try.prog 37 [(s.τ 9),(s.τ 17),(s.τ 25)] 26 s fun s=>
 V 4 true s fun s=>
 Φ .ret s
def W23 (Φ:EP) (s:St):Prop:=
 V 4 false s fun s=>
 M 5 0 s fun s=>
 M 6 1 s fun s=>
 Ca Try.prog 39 [(s.τ 5),(s.τ 6)] 7 s fun s=>
 Q 8 7 s fun s=>
 If 8 s (W23_b1 Φ s) (W23_b3 Φ s)
theorem W23_rs (τ:Nat → AV) (H:Heap):resV Try.prog τ H [.tmp 4] = some (τ 4):=by kernel_rfl
theorem W23_eq:EqW Try.prog Try.f23 W23:=fun _ _=>by kernel_rfl
theorem W23_S:SpW Try.prog 23 27 [.tmp 4] W23:=spW Try.func23 Try.ntmps23 W23_eq
-- 24 "(*penance/wire.Wire).Forget"
def W24 (Φ:EP) (s:St):Prop:=
 M 4 0 s fun s=>
 @sOp (some 5) (xNil (s.τ 4) s.H) s<|.mk fun s=>
 F 6 2 5 s fun s=>
 L 7 1 6 false s fun s=>
 M 8 1 s fun s=>
 @sOp none (xMdl .i (s.τ 7) (s.τ 8) s.H) s<|.mk fun s=>
 Φ .normal s
theorem W24_rs (τ:Nat → AV) (H:Heap):resV Try.prog τ H [] = ob (some []) fun vs=>some (.tup vs):=by kernel_rfl
theorem W24_eq:EqW Try.prog Try.f24 W24:=fun _ _=>by kernel_rfl
theorem W24_S:SpW Try.prog 24 9 [] W24:=spW Try.func24 Try.ntmps24 W24_eq
end Go.Proofs.Ytahchfkmpcfefaa
set_option maxRecDepth 100000
namespace Go.Proofs.Ytahchfkmpcfefaa
open Go Go.Am
-- 34 "slices.Clone[[]int,int]"
def W34_b1 (Φ:EP) (s:St):Prop:=
 @sOp (some 2) (xMov (.nils) s.H) s<|.mk fun s=>
 Φ .ret s
def W34_b2 (Φ:EP) (s:St):Prop:=
 @sOp (some 5) (xRow 5 3 1 0 [.int .i64 0] [] s.H) s<|.mk fun s=>
 M 6 0 s fun s=>
 @sOp (some 7) (xApp Try.prog 3 1 8 (some 7) (s.τ 5) (s.τ 6) s.H) s<|.mk fun s=>
 M 2 7 s fun s=>
 Φ .ret s
def W34 (Φ:EP) (s:St):Prop:=
 @sOp (some 2) (xMov (.nils) s.H) s<|.mk fun s=>
 M 3 0 s fun s=>
 @sNil false (s.τ 3) (some 4) s<|.mk fun s=>
 If 4 s (W34_b1 Φ s) (W34_b2 Φ s)
theorem W34_rs (τ:Nat → AV) (H:Heap):resV Try.prog τ H [.tmp 2] = some (τ 2):=by kernel_rfl
theorem W34_eq:EqW Try.prog Try.f34 W34:=fun _ _=>by kernel_rfl
theorem W34_S:SpW Try.prog 34 8 [.tmp 2] W34:=spW Try.func34 Try.ntmps34 W34_eq
-- 36 "maps.Keys[map[int]penance/wire.asking,int,penance/wire.asking]"
def W36 (Φ:EP) (s:St):Prop:=
 Y 1 55 0 s fun s=>
 @sOp (some 2) (xMov (.nilf) s.H) s<|.mk fun s=>
 @sOp (some 3) (xMkf 54 [(s.τ 1)] s.H) s<|.mk fun s=>
 M 2 3 s fun s=>
 Φ .ret s
theorem W36_rs (τ:Nat → AV) (H:Heap):resV Try.prog τ H [.tmp 2] = some (τ 2):=by kernel_rfl
theorem W36_eq:EqW Try.prog Try.f36 W36:=fun _ _=>by kernel_rfl
theorem W36_S:SpW Try.prog 36 4 [.tmp 2] W36:=spW Try.func36 Try.ntmps36 W36_eq
-- 37 "(*penance/wire.Wire).fly"
def W37 (Φ:EP) (s:St):Prop:=
 Y 5 30 2 s fun s=>
 M 6 0 s fun u1=>
 M 7 0 u1 fun u2=>
 @sOp (some 8) (xNil (u2.τ 7) u2.H) u2<|.mk fun u3=>
 F 9 3 8 u3 fun u4=>
 L 10 1 9 false u4 fun u5=>
 C0 Try.prog 38 [(u5.τ 10)] 11 u5 fun u6=>
 M 12 1 u6 fun u7=>
 @sChk (compat (cfp 11 38 [(u5.τ 10)]) (occ (u7.τ 5),[])) <| .mk <|
 L 13 3 5 true u7 fun u8=>
 Bd 14 [.bool false,.str ⟨#[]⟩,.int .i64 0,.int .i64 0] [(0,1,(u8.τ 12)),(1,3,(u8.τ 13))] u8 fun u9=>
 k3 (u2.τ 7) ([15] ++ occL [(u9.τ 14)],[15] ++ occL [(u9.τ 14)]) <|
 k3 (u3.τ 8) ([15] ++ occL [(u9.τ 14)],[15] ++ occL [(u9.τ 14)]) <|
 k3 (u4.τ 9) ([15] ++ occL [(u9.τ 14)],[15] ++ occL [(u9.τ 14)]) <|
 @sChk (compat (cfp 11 38 [(u5.τ 10)]) ([15] ++ occL [(u9.τ 14)],[15] ++ occL [(u9.τ 14)])) <| .mk <|
 Lt 15 4 1 [.bool false,.str ⟨#[]⟩,.int .i64 0,.int .i64 0] [(0,(u9.τ 14))] u9 fun u10=>
 @sOp (some 16) (xApp Try.prog 42 4 40 (some 16) (u10.τ 11) (u10.τ 15) u10.H) u10<|.mk fun u11=>
 @sOp (some 17) (xNil (u11.τ 6) u11.H) u11<|.mk fun u12=>
 F 18 3 17 u12 fun u13=>
 U 1 18 16 u13 fun s=>
 Φ .normal s
theorem W37_rs (τ:Nat → AV) (H:Heap):resV Try.prog τ H [] = ob (some []) fun vs=>some (.tup vs):=by kernel_rfl
theorem W37_eq:EqW Try.prog Try.f37 W37:=fun _ _=>by kernel_rfl
theorem W37_S:SpW Try.prog 37 19 [] W37:=spW Try.func37 Try.ntmps37 W37_eq
-- 38 "slices.Clone[[]penance/wire.Message,penance/wire.Message]"
def W38_b1 (Φ:EP) (s:St):Prop:=
 @sOp (some 2) (xMov (.nils) s.H) s<|.mk fun s=>
 Φ .ret s
def W38_b2 (Φ:EP) (s:St):Prop:=
 @sOp (some 5) (xRow 5 42 4 0 [.bool false,.str ⟨#[]⟩,.int .i64 0,.int .i64 0] [] s.H) s<|.mk fun s=>
 M 6 0 s fun s=>
 @sOp (some 7) (xApp Try.prog 42 4 40 (some 7) (s.τ 5) (s.τ 6) s.H) s<|.mk fun s=>
 M 2 7 s fun s=>
 Φ .ret s
def W38 (Φ:EP) (s:St):Prop:=
 @sOp (some 2) (xMov (.nils) s.H) s<|.mk fun s=>
 M 3 0 s fun s=>
 @sNil false (s.τ 3) (some 4) s<|.mk fun s=>
 If 4 s (W38_b1 Φ s) (W38_b2 Φ s)
theorem W38_rs (τ:Nat → AV) (H:Heap):resV Try.prog τ H [.tmp 2] = some (τ 2):=by kernel_rfl
theorem W38_eq:EqW Try.prog Try.f38 W38:=fun _ _=>by kernel_rfl
theorem W38_S:SpW Try.prog 38 8 [.tmp 2] W38:=spW Try.func38 Try.ntmps38 W38_eq
-- 39 "(*penance/wire.Wire).is"
def W39 (Φ:EP) (s:St):Prop:=
 V 4 false s fun s=>
 M 5 1 s fun s=>
 J 6 .geq false 5 0 s fun s=>
 M 7 6 s fun s=>
 gm 8 1 7 true s fun s=>
 gm 9 0 7 true s fun s=>
 go 10 7 true s (fun s=>(xNil (s.τ 9) s.H)) fun s=>
 gf 11 3 10 7 true s fun s=>
 gl 12 1 11 7 false true s fun s=>
 go 13 7 true s (fun s=>(xLen (s.τ 12) s.H)) fun s=>
 go 14 7 true s (fun s=>(xBin .lss false (s.τ 8) (s.τ 13) s.H)) fun s=>
 A 15 7 14 s fun s=>
 M 4 15 s fun s=>
 Φ .ret s
theorem W39_rs (τ:Nat → AV) (H:Heap):resV Try.prog τ H [.tmp 4] = some (τ 4):=by kernel_rfl
theorem W39_eq:EqW Try.prog Try.f39 W39:=fun _ _=>by kernel_rfl
theorem W39_S:SpW Try.prog 39 16 [.tmp 4] W39:=spW Try.func39 Try.ntmps39 W39_eq
-- 40 "(*penance/wire.Wire).value"
def W40_k1 (Φ:EP) (s:St):Prop:=
 M 45 0 s fun u1=>
 M 46 0 u1 fun u2=>
 @sOp (some 47) (xNil (u2.τ 46) u2.H) u2<|.mk fun u3=>
 F 48 4 47 u3 fun u4=>
 L 49 1 48 false u4 fun u5=>
 F 50 0 3 u5 fun u6=>
 L 51 1 50 false u6 fun u7=>
 F 52 1 3 u7 fun u8=>
 L 53 1 52 false u8 fun u9=>
 M 54 7 u9 fun u10=>
 Bd 55 z3 [(0,1,(u10.τ 51)),(1,1,(u10.τ 53)),(2,1,(u10.τ 54))] u10 fun u11=>
 k3 (u2.τ 46) ([56] ++ occL [(u11.τ 55)],[56] ++ occL [(u11.τ 55)]) <|
 k3 (u3.τ 47) ([56] ++ occL [(u11.τ 55)],[56] ++ occL [(u11.τ 55)]) <|
 k3 (u4.τ 48) ([56] ++ occL [(u11.τ 55)],[56] ++ occL [(u11.τ 55)]) <|
 Lt 56 3 1 z3 [(0,(u11.τ 55))] u11 fun u12=>
 @sOp (some 57) (xApp Try.prog 30 3 32 (some 57) (u12.τ 49) (u12.τ 56) u12.H) u12<|.mk fun u13=>
 @sOp (some 58) (xNil (u13.τ 45) u13.H) u13<|.mk fun u14=>
 F 59 4 58 u14 fun u15=>
 U 1 59 57 u15 fun s=>
 M 60 7 s fun s=>
 M 4 60 s fun s=>
 Φ .ret s
def W40_b2 (Φ:EP) (s:St):Prop:=
 M 38 0 s fun s=>
 @sOp (some 39) (xNil (s.τ 38) s.H) s<|.mk fun s=>
 F 40 0 39 s fun s=>
 L 41 1 40 false s fun s=>
 M 42 8 s fun s=>
 X 43 1 41 42 s fun s=>
 L 44 1 43 false s fun s=>
 M 7 44 s fun s=>
 W40_k1 Φ s
def W40_k3 (Φ:EP) (s:St):Prop:=
 I 7 0 s fun s=>
 M 26 0 s fun s=>
 @sOp (some 27) (xNil (s.τ 26) s.H) s<|.mk fun s=>
 F 28 4 27 s fun s=>
 L 29 1 28 false s fun s=>
 N 30 29 s fun s=>
 M 8 30 s fun s=>
 M 31 8 s fun s=>
 M 32 0 s fun s=>
 @sOp (some 33) (xNil (s.τ 32) s.H) s<|.mk fun s=>
 F 34 0 33 s fun s=>
 L 35 1 34 false s fun s=>
 N 36 35 s fun s=>
 B 37 .lss false 31 36 s fun s=>
 If 37 s (W40_b2 Φ s) (W40_k1 Φ s)
def W40_b4 (Φ:EP) (L0:SP) (s:St):Prop:=
 F 23 2 6 s fun s=>
 L 24 1 23 false s fun s=>
 M 4 24 s fun s=>
 Φ .ret s
def W40_b5 (Φ:EP) (L0:SP) (s:St):Prop:=
 J 25 .add false 14 1 s fun s=>
 M 14 25 s fun s=>
 L0 s
def W40_b6 (Φ:EP) (L0:SP) (s:St):Prop:=
 X 16 3 12 14 s fun s=>
 L 17 3 16 true s fun s=>
 Z 6 30 z3 s fun s=>
 U 3 6 17 s fun s=>
 F 18 1 6 s fun s=>
 L 19 1 18 false s fun s=>
 F 20 1 3 s fun s=>
 L 21 1 20 false s fun s=>
 B 22 .eql false 19 21 s fun s=>
 If 22 s (W40_b4 Φ L0 s) (W40_b5 Φ L0 s)
def W40_l7 (Φ:EP) (L0:SP) (s:St):Prop:=
 B 15 .lss false 14 13 s fun s=>
 If 15 s (W40_b6 Φ L0 s) (W40_k3 Φ s)
def W40 (Φ:EP) (s:St):Prop:=
 Y 3 30 1 s fun s=>
 I 4 0 s fun s=>
 M 9 0 s fun s=>
 @sOp (some 10) (xNil (s.τ 9) s.H) s<|.mk fun s=>
 F 11 4 10 s fun s=>
 L 12 1 11 false s fun s=>
 N 13 12 s fun s=>
 I 14 0 s fun s=>
 @sLoop s ⟨fun L0 s=>W40_l7 Φ L0 s⟩
theorem W40_rs (τ:Nat → AV) (H:Heap):resV Try.prog τ H [.tmp 4] = some (τ 4):=by kernel_rfl
theorem W40_eq:EqW Try.prog Try.f40 W40:=fun _ _=>by kernel_rfl
theorem W40_S:SpW Try.prog 40 61 [.tmp 4] W40:=spW Try.func40 Try.ntmps40 W40_eq
-- 41 "slices.Clone[[]penance/api.Event,penance/api.Event]"
def W41_b1 (Φ:EP) (s:St):Prop:=
 @sOp (some 2) (xMov (.nils) s.H) s<|.mk fun s=>
 Φ .ret s
def W41_b2 (Φ:EP) (s:St):Prop:=
 @sOp (some 5) (xRow 5 30 3 0 z3 [] s.H) s<|.mk fun s=>
 M 6 0 s fun s=>
 @sOp (some 7) (xApp Try.prog 30 3 32 (some 7) (s.τ 5) (s.τ 6) s.H) s<|.mk fun s=>
 M 2 7 s fun s=>
 Φ .ret s
def W41 (Φ:EP) (s:St):Prop:=
 @sOp (some 2) (xMov (.nils) s.H) s<|.mk fun s=>
 M 3 0 s fun s=>
 @sNil false (s.τ 3) (some 4) s<|.mk fun s=>
 If 4 s (W41_b1 Φ s) (W41_b2 Φ s)
theorem W41_rs (τ:Nat → AV) (H:Heap):resV Try.prog τ H [.tmp 2] = some (τ 2):=by kernel_rfl
theorem W41_eq:EqW Try.prog Try.f41 W41:=fun _ _=>by kernel_rfl
theorem W41_S:SpW Try.prog 41 8 [.tmp 2] W41:=spW Try.func41 Try.ntmps41 W41_eq
end Go.Proofs.Ytahchfkmpcfefaa
set_option maxRecDepth 100000
namespace Go.Proofs.Ytahchfkmpcfefaa
open Go Go.Am
end Go.Proofs.Ytahchfkmpcfefaa
