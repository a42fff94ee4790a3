import Derived.Test.YtnngddgaobhkiaaGreatGA5
import Derived.Test.YtnngddgaobhkiaaGreatProg
import Derived.KernelRfl
set_option linter.unusedVariables false
set_option maxRecDepth 100000
namespace Go.Proofs.YtnngddgaobhkiaaGreat
open Go Go.Am
-- 4 "penance/penancelaw8.RunChecks"
def W4_b1 (Φ:EP) (s:St):Prop:=
 V 10 false s fun s=>
 Φ .ret s
def W4_b2 (Φ:EP) (s:St):Prop:=
 V 10 true s fun s=>
 Φ .ret s
def W4_b3 (Φ:EP) (s:St):Prop:=
 V 10 false s fun s=>
 Φ .ret s
def W4_k6 (Φ:EP) (s:St):Prop:=
 L 150 4 12 true s fun u1=>
 C0 Tryz.prog 17 [(u1.τ 150)] 151 u1 fun u2=>
 @sChk (compat (cfp 151 17 [(u1.τ 150)]) (occ (u2.τ 12),[])) <| .mk <|
 L 152 4 12 true u2 fun u3=>
 C0 Tryz.prog 23 [(u3.τ 152)] 153 u3 fun u4=>
 B 154 .eql true 151 153 u4 fun u5=>
 M 10 154 u5 fun s=>
 Φ .ret s
def W4_b8 (Φ:EP) (s:St):Prop:=
 F 77 2 12 s fun u1=>
 L 78 1 77 false u1 fun u2=>
 N 79 78 u2 fun u3=>
 M 80 4 u3 fun u4=>
 Lt 81 1 4 [.int .i64 0] [(0,(.int .i64 (-1))),(1,(.int .i64 0)),(2,(u4.τ 79)),(3,(u4.τ 80))] u4 fun u5=>
 M 82 4 u5 fun u6=>
 k3 (s.τ 12) (cfp 83 18 [(u6.τ 82),(.int .i64 4)]) <|
 k3 (u1.τ 77) (cfp 83 18 [(u6.τ 82),(.int .i64 4)]) <|
 k3 (u2.τ 78) (cfp 83 18 [(u6.τ 82),(.int .i64 4)]) <|
 @sChk (compat ([81] ++ occL [(.int .i64 (-1)),(.int .i64 0),(u4.τ 79),(u4.τ 80)],[81] ++ occL [(.int .i64 (-1)),(.int .i64 0),(u4.τ 79),(u4.τ 80)]) (cfp 83 18 [(u6.τ 82),(.int .i64 4)])) <| .mk <|
 C0 Tryz.prog 18 [(u6.τ 82),(.int .i64 4)] 83 u6 fun u7=>
 X 84 1 81 83 u7 fun u8=>
 L 85 1 84 false u8 fun u9=>
 F 86 3 12 u9 fun u10=>
 U 1 86 85 u10 fun s=>
 W4_k6 Φ s
def W4_b10 (Φ:EP) (s:St):Prop:=
 M 89 4 s fun s=>
 Lt 90 1 6 [.int .i64 0] [(0,(.int .i64 (-1))),(1,(.int .i64 0)),(2,(.int .i64 1)),(3,(.int .i64 10)),(4,(.int .i64 11)),(5,(s.τ 89))] s fun s=>
 M 91 4 s fun s=>
 Ca Tryz.prog 18 [(s.τ 91),(.int .i64 6)] 92 s fun s=>
 X 93 1 90 92 s fun s=>
 L 94 1 93 false s fun s=>
 F 95 1 12 s fun s=>
 U 1 95 94 s fun s=>
 W4_k6 Φ s
def W4_b12 (Φ:EP) (s:St):Prop:=
 M 98 4 s fun s=>
 Ca Tryz.prog 18 [(s.τ 98),(.int .i64 23)] 99 s fun s=>
 @sOp (some 100) (xMks 100 3 1 8 [.int .i64 0] (s.τ 99) (s.τ 99) s.H) s<|.mk fun s=>
 F 101 0 12 s fun s=>
 U 1 101 100 s fun s=>
 W4_k6 Φ s
def W4_b16 (Φ:EP) (s:St):Prop:=
 F 104 2 12 s fun u1=>
 L 105 1 104 false u1 fun u2=>
 M 106 3 u2 fun u3=>
 F 107 2 12 u3 fun u4=>
 L 108 1 107 false u4 fun u5=>
 N 109 108 u5 fun u6=>
 k3 (s.τ 12) (cfp 110 18 [(u6.τ 106),(u6.τ 109)]) <|
 k3 (u1.τ 104) (cfp 110 18 [(u6.τ 106),(u6.τ 109)]) <|
 C0 Tryz.prog 18 [(u6.τ 106),(u6.τ 109)] 110 u6 fun u7=>
 @sChk (compat (cfp 110 18 [(u6.τ 106),(u6.τ 109)]) (occ (u7.τ 12),[])) <| .mk <|
 F 111 2 12 u7 fun u8=>
 @sChk (compat (cfp 110 18 [(u6.τ 106),(u6.τ 109)]) (occ (u8.τ 111),[])) <| .mk <|
 L 112 1 111 false u8 fun u9=>
 M 113 3 u9 fun u10=>
 @sChk (compat (cfp 110 18 [(u6.τ 106),(u6.τ 109)]) (occ (u10.τ 12),[])) <| .mk <|
 F 114 2 12 u10 fun u11=>
 @sChk (compat (cfp 110 18 [(u6.τ 106),(u6.τ 109)]) (occ (u11.τ 114),[])) <| .mk <|
 L 115 1 114 false u11 fun u12=>
 @sChk (compat (cfp 110 18 [(u6.τ 106),(u6.τ 109)]) (occ (u12.τ 115),[])) <| .mk <|
 N 116 115 u12 fun u13=>
 k3 (s.τ 12) (cfp 117 18 [(u13.τ 113),(u13.τ 116)]) <|
 k3 (u1.τ 104) (cfp 117 18 [(u13.τ 113),(u13.τ 116)]) <|
 k3 (u7.τ 12) (cfp 117 18 [(u13.τ 113),(u13.τ 116)]) <|
 k3 (u8.τ 111) (cfp 117 18 [(u13.τ 113),(u13.τ 116)]) <|
 C0 Tryz.prog 18 [(u13.τ 113),(u13.τ 116)] 117 u13 fun u14=>
 X 118 9 112 117 u14 fun u15=>
 L 119 9 118 true u15 fun u16=>
 M 120 4 u16 fun u17=>
 M 121 3 u17 fun u18=>
 M 122 4 u18 fun u19=>
 J 123 .quo false 122 8 u19 fun u20=>
 k3 (s.τ 12) (cfp 124 24 [(u20.τ 119),(u20.τ 120),(u20.τ 121),(u20.τ 123)]) <|
 k3 (u1.τ 104) (cfp 124 24 [(u20.τ 119),(u20.τ 120),(u20.τ 121),(u20.τ 123)]) <|
 C0 Tryz.prog 24 [(u20.τ 119),(u20.τ 120),(u20.τ 121),(u20.τ 123)] 124 u20 fun u21=>
 X 125 9 105 110 u21 fun u22=>
 U 9 125 124 u22 fun s=>
 W4_k6 Φ s
def W4_b17 (Φ:EP) (s:St):Prop:=
 F 128 2 12 s fun s=>
 L 129 1 128 false s fun s=>
 Bd 130 z9 [(0,1,(.int .i64 14)),(2,1,(.int .i64 (-1))),(3,1,(.str ⟨#[112,97,121]⟩))] s fun s=>
 @sOp (some 131) (xIx 9 (s.τ 129) (.int .i64 0) s.H) s<|.mk fun s=>
 U 9 131 130 s fun s=>
 W4_k6 Φ s
def W4_b18 (Φ:EP) (L0:SP) (s:St):Prop:=
 F 141 2 12 s fun s=>
 L 142 1 141 false s fun s=>
 Bd 143 z9 [] s fun s=>
 Lt 144 9 1 z9 [(0,(s.τ 143))] s fun s=>
 @sOp (some 145) (xApp Tryz.prog 35 9 120 (some 145) (s.τ 142) (s.τ 144) s.H) s<|.mk fun s=>
 F 146 2 12 s fun s=>
 U 1 146 145 s fun s=>
 L0 s
def W4_l20 (Φ:EP) (L0:SP) (s:St):Prop:=
 F 134 2 12 s fun u1=>
 L 135 1 134 false u1 fun u2=>
 N 136 135 u2 fun u3=>
 M 137 4 u3 fun u4=>
 k3 (s.τ 12) (cfp 138 18 [(u4.τ 137),(.int .i64 3)]) <|
 k3 (u1.τ 134) (cfp 138 18 [(u4.τ 137),(.int .i64 3)]) <|
 k3 (u2.τ 135) (cfp 138 18 [(u4.τ 137),(.int .i64 3)]) <|
 C0 Tryz.prog 18 [(u4.τ 137),(.int .i64 3)] 138 u4 fun u5=>
 @sOp (some 139) (xBin .add false (.int .i64 19) (u5.τ 138) u5.H) u5<|.mk fun u6=>
 B 140 .lss false 136 139 u6 fun s=>
 If 140 s (W4_b18 Φ L0 s) (W4_k6 Φ s)
def W4_b21 (Φ:EP) (s:St):Prop:=
 F 149 2 12 s fun s=>
 @sOp none (xStore 1 (s.τ 149) (.nils) s.H) s<|.mk fun s=>
 W4_k6 Φ s
def W4_b22 (Φ:EP) (s:St):Prop:=
 J 148 .eql false 74 6 s fun s=>
 M 147 148 s fun s=>
 If 147 s (W4_b21 Φ s) (W4_k6 Φ s)
def W4_b23 (Φ:EP) (s:St):Prop:=
 J 133 .eql false 74 5 s fun s=>
 M 132 133 s fun s=>
 @sIf (s.τ 132) ⟨@sLoop s ⟨fun L0 s=>W4_l20 Φ L0 s⟩⟩ ⟨W4_b22 Φ s⟩
def W4_b24 (Φ:EP) (s:St):Prop:=
 J 127 .eql false 74 4 s fun s=>
 M 126 127 s fun s=>
 If 126 s (W4_b17 Φ s) (W4_b23 Φ s)
def W4_b25 (Φ:EP) (s:St):Prop:=
 J 103 .eql false 74 3 s fun s=>
 M 102 103 s fun s=>
 If 102 s (W4_b16 Φ s) (W4_b24 Φ s)
def W4_b26 (Φ:EP) (s:St):Prop:=
 J 97 .eql false 74 2 s fun s=>
 M 96 97 s fun s=>
 If 96 s (W4_b12 Φ s) (W4_b25 Φ s)
def W4_b27 (Φ:EP) (s:St):Prop:=
 J 88 .eql false 74 1 s fun s=>
 M 87 88 s fun s=>
 If 87 s (W4_b10 Φ s) (W4_b26 Φ s)
def W4_b29 (Φ:EP) (s:St):Prop:=
 @sOp (some 68) (xRow 68 35 9 0 z9 [] s.H) s<|.mk fun s=>
 F 69 2 12 s fun s=>
 L 70 1 69 false s fun s=>
 @sOp (some 71) (xApp Tryz.prog 35 9 120 (some 71) (s.τ 68) (s.τ 70) s.H) s<|.mk fun s=>
 F 72 2 12 s fun s=>
 U 1 72 71 s fun s=>
 M 73 2 s fun s=>
 Ca Tryz.prog 18 [(s.τ 73),(.int .i64 7)] 74 s fun s=>
 J 76 .eql false 74 0 s fun s=>
 M 75 76 s fun s=>
 If 75 s (W4_b8 Φ s) (W4_b27 Φ s)
def W4_k37 (Φ:EP) (s:St):Prop:=
 L 56 3 5 true s fun s=>
 Ca Tryz.prog 13 [(s.τ 56)] 57 s fun s=>
 Z 12 29 [.nils,.int .i64 0,.nils,.int .i64 0] s fun s=>
 U 4 12 57 s fun s=>
 L 58 4 12 true s fun u1=>
 C0 Tryz.prog 17 [(u1.τ 58)] 59 u1 fun u2=>
 Q 60 59 u2 fun u3=>
 M 61 60 u3 fun u4=>
 gl 62 4 6 61 true false u4 fun u5=>
 @sGrd (guardOf (u5.τ 61) false) (some 63) u5 ⟨fun s K=>@sCall0 Tryz.prog (.func 17 []) [(s.τ 62)] (some 63) s ⟨K⟩⟩<|.mk fun u6=>
 @sChk (compat (cfp 63 17 [(u5.τ 62)]) (occ (u6.τ 6),[])) <| .mk <|
 gl 64 4 6 61 true false u6 fun u7=>
 @sGrd (guardOf (u7.τ 61) false) (some 65) u7 ⟨fun s K=>@sCall0 Tryz.prog (.func 23 []) [(s.τ 64)] (some 65) s ⟨K⟩⟩<|.mk fun u8=>
 go 66 61 false u8 (fun s=>(xBin .neq true (s.τ 63) (s.τ 65) s.H)) fun u9=>
 O 67 61 66 u9 fun s=>
 If 67 s (W4_b3 Φ s) (W4_b29 Φ s)
def W4_b38 (Φ:EP) (L0:SP) (s:St):Prop:=
 V 10 true s fun s=>
 Φ .ret s
def W4_b39 (Φ:EP) (L0:SP) (s:St):Prop:=
 M 35 11 s fun s=>
 J 36 .add false 35 1 s fun s=>
 M 11 36 s fun s=>
 L0 s
def W4_b49 (Φ:EP) (L0:SP) (s:St):Prop:=
 F 37 2 6 s fun s=>
 L 38 1 37 false s fun s=>
 M 39 11 s fun s=>
 X 40 9 38 39 s fun s=>
 F 41 8 40 s fun s=>
 L 42 1 41 false s fun s=>
 N 43 42 s fun s=>
 J 44 .gtr false 43 0 s fun s=>
 M 45 44 s fun s=>
 gf 46 2 6 45 false s fun s=>
 gl 47 1 46 45 false false s fun s=>
 gm 48 11 45 false s fun s=>
 go 49 45 false s (fun s=>(xIx 9 (s.τ 47) (s.τ 48) s.H)) fun s=>
 gf 50 4 49 45 false s fun s=>
 gf 51 3 50 45 false s fun s=>
 gl 52 1 51 45 false false s fun s=>
 go 53 45 false s (fun s=>(xLen (s.τ 52) s.H)) fun s=>
 go 54 45 false s (fun s=>(xBin .gtr false (s.τ 53) (.int .i64 0) s.H)) fun s=>
 O 55 45 54 s fun s=>
 If 55 s (W4_b38 Φ L0 s) (W4_b39 Φ L0 s)
def W4_l50 (Φ:EP) (L0:SP) (s:St):Prop:=
 M 30 11 s fun s=>
 F 31 2 6 s fun s=>
 L 32 1 31 false s fun s=>
 N 33 32 s fun s=>
 B 34 .lss false 30 33 s fun s=>
 If 34 s (W4_b49 Φ L0 s) (W4_k37 Φ s)
def W4_b51 (Φ:EP) (s:St):Prop:=
 I 11 0 s fun s=>
 @sLoop s ⟨fun L0 s=>W4_l50 Φ L0 s⟩
def W4_b61 (Φ:EP) (s:St):Prop:=
 L 15 3 5 true s fun s=>
 Ca Tryz.prog 12 [(s.τ 15)] 16 s fun s=>
 Q 17 16 s fun s=>
 M 18 17 s fun s=>
 gf 19 0 6 18 false s fun s=>
 gl 20 1 19 18 false false s fun s=>
 go 21 18 false s (fun s=>(xLen (s.τ 20) s.H)) fun s=>
 go 22 18 false s (fun s=>(xBin .gtr false (s.τ 21) (.int .i64 60) s.H)) fun s=>
 O 23 18 22 s fun s=>
 M 24 23 s fun s=>
 gf 25 2 6 24 false s fun s=>
 gl 26 1 25 24 false false s fun s=>
 go 27 24 false s (fun s=>(xLen (s.τ 26) s.H)) fun s=>
 go 28 24 false s (fun s=>(xBin .gtr false (s.τ 27) (.int .i64 30) s.H)) fun s=>
 O 29 24 28 s fun s=>
 If 29 s (W4_b2 Φ s) (W4_b51 Φ s)
def W4 (Φ:EP) (s:St):Prop:=
 Y 5 24 0 s fun s=>
 Y 6 29 1 s fun s=>
 V 10 false s fun s=>
 Ca Tryz.prog 11 [] 13 s fun s=>
 Q 14 13 s fun s=>
 If 14 s (W4_b1 Φ s) (W4_b61 Φ s)
theorem W4_rs (τ:Nat → AV) (H:Heap):resV Tryz.prog τ H [.tmp 10] = some (τ 10):=by kernel_rfl
theorem W4_eq:EqW Tryz.prog Tryz.f4 W4:=fun _ _=>by kernel_rfl
theorem W4_S:SpW Tryz.prog 4 155 [.tmp 10] W4:=spW Tryz.func4 Tryz.ntmps4 W4_eq
end Go.Proofs.YtnngddgaobhkiaaGreat
set_option maxRecDepth 100000
namespace Go.Proofs.YtnngddgaobhkiaaGreat
open Go Go.Am
-- 11 "penance/penancelaw8.known"
def W11 (Φ:EP) (s:St):Prop:=
 V 0 false s fun s=>
 Bd 14 z9 [(0,1,(.int .i64 1)),(1,1,(.int .i64 (-1))),(3,1,(.str ⟨#[112,97,121]⟩))] s fun s=>
 Lt 15 9 1 z9 [(0,(s.τ 14))] s fun s=>
 Bd 16 [.nils,.int .i64 0,.nils,.int .i64 0] [(2,1,(s.τ 15))] s fun s=>
 Z 1 29 [.nils,.int .i64 0,.nils,.int .i64 0] s fun s=>
 U 4 1 16 s fun s=>
 L 17 4 1 true s fun s=>
 Ca Tryz.prog 14 [(s.τ 17)] 18 s fun s=>
 Z 2 38 z13 s fun s=>
 U 13 2 18 s fun s=>
 L 20 4 1 true s fun s=>
 L 21 13 2 true s fun s=>
 Ca Tryz.prog 21 [(s.τ 20),(s.τ 21),(.int .i64 0)] 22 s fun s=>
 M 19 22 s fun s=>
 E 23 19 0 s fun s=>
 E 24 19 1 s fun s=>
 E 25 19 2 s fun s=>
 E 26 19 3 s fun s=>
 Z 3 38 z13 s fun s=>
 Z 4 44 z3 s fun s=>
 U 13 3 23 s fun s=>
 U 3 4 24 s fun s=>
 M 5 25 s fun s=>
 M 6 26 s fun s=>
 L 28 4 1 true s fun s=>
 L 29 13 2 true s fun s=>
 Ca Tryz.prog 21 [(s.τ 28),(s.τ 29),(.int .i64 1)] 30 s fun s=>
 M 27 30 s fun s=>
 E 31 27 0 s fun s=>
 E 32 27 1 s fun s=>
 E 33 27 2 s fun s=>
 E 34 27 3 s fun s=>
 Z 7 38 z13 s fun s=>
 Z 8 44 z3 s fun s=>
 U 13 7 31 s fun s=>
 U 3 8 32 s fun s=>
 M 9 33 s fun s=>
 M 10 34 s fun s=>
 L 36 4 1 true s fun s=>
 L 37 13 3 true s fun s=>
 Ca Tryz.prog 19 [(s.τ 36),(s.τ 37),(.int .i64 0),(.int .i64 7)] 38 s fun s=>
 M 35 38 s fun s=>
 E 39 35 0 s fun s=>
 E 40 35 1 s fun s=>
 E 41 35 2 s fun s=>
 Z 11 38 z13 s fun s=>
 Z 12 44 z3 s fun s=>
 U 13 11 39 s fun s=>
 U 3 12 40 s fun s=>
 M 13 41 s fun s=>
 L 42 4 1 true s fun s=>
 Ca Tryz.prog 17 [(s.τ 42)] 43 s fun s=>
 M 44 43 s fun s=>
 gm 45 6 44 true s fun s=>
 go 46 44 true s (fun s=>(xBin .eql false (s.τ 45) (.int .i64 0) s.H)) fun s=>
 A 47 44 46 s fun s=>
 M 48 47 s fun s=>
 gm 49 5 48 true s fun s=>
 A 50 48 49 s fun s=>
 M 51 50 s fun s=>
 gf 52 0 4 51 true s fun s=>
 gl 53 1 52 51 false true s fun s=>
 go 54 51 true s (fun s=>(xBin .eql false (s.τ 53) (.str ⟨#[112,97,121]⟩) s.H)) fun s=>
 A 55 51 54 s fun s=>
 M 56 55 s fun s=>
 gf 57 12 3 56 true s fun s=>
 gl 58 1 57 56 false true s fun s=>
 go 59 56 true s (fun s=>(xBin .eql false (s.τ 58) (.int .i64 1) s.H)) fun s=>
 A 60 56 59 s fun s=>
 M 61 60 s fun s=>
 gm 62 10 61 true s fun s=>
 go 63 61 true s (fun s=>(xBin .eql false (s.τ 62) (.int .i64 12) s.H)) fun s=>
 A 64 61 63 s fun s=>
 M 65 64 s fun s=>
 gm 66 13 65 true s fun s=>
 A 67 65 66 s fun s=>
 M 68 67 s fun s=>
 gf 69 2 12 68 true s fun s=>
 gl 70 1 69 68 false true s fun s=>
 go 71 68 true s (fun s=>(xBin .eql false (s.τ 70) (.int .i64 7) s.H)) fun s=>
 A 72 68 71 s fun s=>
 M 73 72 s fun s=>
 gf 74 0 11 73 true s fun s=>
 gf 75 0 74 73 true s fun s=>
 gl 76 1 75 73 false true s fun s=>
 go 77 73 true s (fun s=>(xBin .eql false (s.τ 76) (.int .i64 0) s.H)) fun s=>
 A 78 73 77 s fun s=>
 M 0 78 s fun s=>
 Φ .ret s
theorem W11_rs (τ:Nat → AV) (H:Heap):resV Tryz.prog τ H [.tmp 0] = some (τ 0):=by kernel_rfl
theorem W11_eq:EqW Tryz.prog Tryz.f11 W11:=fun _ _=>by kernel_rfl
theorem W11_S:SpW Tryz.prog 11 79 [.tmp 0] W11:=spW Tryz.func11 Tryz.ntmps11 W11_eq
-- 12 "(penance/penancelaw3.Shape).Few"
def W12_k3 (Φ:EP) (s:St):Prop:=
 F 20 2 1 s fun s=>
 L 21 1 20 false s fun s=>
 N 22 21 s fun s=>
 J 23 .leq false 22 5 s fun s=>
 M 24 23 s fun s=>
 gm 25 3 24 true s fun s=>
 go 26 24 true s (fun s=>(xBin .leq false (s.τ 25) (.int .i64 40) s.H)) fun s=>
 A 27 24 26 s fun s=>
 M 2 27 s fun s=>
 Φ .ret s
def W12_b5 (Φ:EP) (L0:SP) (s:St):Prop:=
 M 12 3 s fun s=>
 F 13 2 1 s fun s=>
 L 14 1 13 false s fun s=>
 M 15 4 s fun s=>
 X 16 5 14 15 s fun s=>
 L 17 5 16 true s fun s=>
 Ca Tryz.prog 29 [(s.τ 17),(.int .i64 0)] 18 s fun s=>
 B 19 .add false 12 18 s fun s=>
 M 3 19 s fun s=>
 M 10 4 s fun s=>
 J 11 .add false 10 1 s fun s=>
 M 4 11 s fun s=>
 L0 s
def W12_l6 (Φ:EP) (L0:SP) (s:St):Prop:=
 M 5 4 s fun s=>
 F 6 2 1 s fun s=>
 L 7 1 6 false s fun s=>
 N 8 7 s fun s=>
 B 9 .lss false 5 8 s fun s=>
 If 9 s (W12_b5 Φ L0 s) (W12_k3 Φ s)
def W12 (Φ:EP) (s:St):Prop:=
 Y 1 24 0 s fun s=>
 V 2 false s fun s=>
 I 3 0 s fun s=>
 I 4 0 s fun s=>
 @sLoop s ⟨fun L0 s=>W12_l6 Φ L0 s⟩
theorem W12_rs (τ:Nat → AV) (H:Heap):resV Tryz.prog τ H [.tmp 2] = some (τ 2):=by kernel_rfl
theorem W12_eq:EqW Tryz.prog Tryz.f12 W12:=fun _ _=>by kernel_rfl
theorem W12_S:SpW Tryz.prog 12 28 [.tmp 2] W12:=spW Tryz.func12 Tryz.ntmps12 W12_eq
-- 13 "penance/penancelaw8.Core"
def W13_b1 (Φ:EP) (s:St):Prop:=
 Lt 45 1 3 [.int .i64 0] [(0,(.int .i64 0)),(1,(.int .i64 0)),(2,(.int .i64 0))] s fun s=>
 Bd 46 z9 [(0,1,(.int .i64 1)),(1,1,(.int .i64 0)),(3,1,(.str ⟨#[112,97,121]⟩))] s fun s=>
 Lt 47 9 1 z9 [(0,(s.τ 46))] s fun s=>
 Bd 48 [.nils,.int .i64 0,.nils,.int .i64 0] [(0,1,(s.τ 45)),(1,1,(.int .i64 2)),(2,1,(s.τ 47))] s fun s=>
 U 4 2 48 s fun s=>
 Φ .ret s
def W13_b2 (Φ:EP) (s:St):Prop:=
 L 49 4 3 true s fun s=>
 U 4 2 49 s fun s=>
 Φ .ret s
def W13_k3 (Φ:EP) (s:St):Prop:=
 M 43 4 s fun s=>
 J 44 .neq false 43 0 s fun s=>
 If 44 s (W13_b1 Φ s) (W13_b2 Φ s)
def W13_k5 (Φ:EP) (s:St):Prop:=
 L 39 3 5 true s fun s=>
 Ca Tryz.prog 30 [(s.τ 39)] 40 s fun s=>
 M 38 40 s fun s=>
 E 41 38 0 s fun s=>
 E 42 38 1 s fun s=>
 U 4 3 41 s fun s=>
 M 4 42 s fun s=>
 W13_k3 Φ s
def W13_b6 (Φ:EP) (L0:SP) (s:St):Prop:=
 F 24 2 5 s fun u1=>
 L 25 1 24 false u1 fun u2=>
 M 26 6 u2 fun u3=>
 Bd 27 [.int .i64 0,.str ⟨#[]⟩,.str ⟨#[]⟩,.int .i64 0,.int .i64 0,.str ⟨#[]⟩,.nils,.nils] [(0,1,(.int .i64 1)),(1,1,(.str ⟨#[112,97,121]⟩)),(2,1,(.str ⟨#[120]⟩))] u3 fun u4=>
 F 28 2 5 u4 fun u5=>
 L 29 1 28 false u5 fun u6=>
 M 30 6 u6 fun u7=>
 X 31 9 29 30 u7 fun u8=>
 F 32 1 31 u8 fun u9=>
 L 33 8 32 true u9 fun u10=>
 k3 (s.τ 5) ([34] ++ occL [(u10.τ 27),(u10.τ 33)],[34] ++ occL [(u10.τ 27),(u10.τ 33)]) <|
 k3 (u1.τ 24) ([34] ++ occL [(u10.τ 27),(u10.τ 33)],[34] ++ occL [(u10.τ 27),(u10.τ 33)]) <|
 Lt 34 8 2 [.int .i64 0,.str ⟨#[]⟩,.str ⟨#[]⟩,.int .i64 0,.int .i64 0,.str ⟨#[]⟩,.nils,.nils] [(0,(u10.τ 27)),(1,(u10.τ 33))] u10 fun u11=>
 Bd 35 [.int .i64 0,.str ⟨#[]⟩,.str ⟨#[]⟩,.int .i64 0,.int .i64 0,.str ⟨#[]⟩,.nils,.nils] [(0,1,(.int .i64 12)),(7,1,(u11.τ 34))] u11 fun u12=>
 X 36 9 25 26 u12 fun u13=>
 F 37 1 36 u13 fun u14=>
 U 8 37 35 u14 fun s=>
 M 22 6 s fun s=>
 J 23 .add false 22 1 s fun s=>
 M 6 23 s fun s=>
 L0 s
def W13_l7 (Φ:EP) (L0:SP) (s:St):Prop:=
 M 17 6 s fun s=>
 F 18 2 5 s fun s=>
 L 19 1 18 false s fun s=>
 N 20 19 s fun s=>
 B 21 .lss false 17 20 s fun s=>
 If 21 s (W13_b6 Φ L0 s) (W13_k5 Φ s)
def W13_b9 (Φ:EP) (s:St):Prop:=
 L 15 3 1 true s fun s=>
 Ca Tryz.prog 31 [(s.τ 15)] 16 s fun s=>
 Z 5 76 [.nils,.nils,.nils] s fun s=>
 U 3 5 16 s fun s=>
 I 6 0 s fun s=>
 @sLoop s ⟨fun L0 s=>W13_l7 Φ L0 s⟩
def W13 (Φ:EP) (s:St):Prop:=
 Y 1 24 0 s fun s=>
 Z 2 29 [.nils,.int .i64 0,.nils,.int .i64 0] s fun s=>
 L 8 3 1 true s fun s=>
 Ca Tryz.prog 31 [(s.τ 8)] 9 s fun s=>
 Ca Tryz.prog 30 [(s.τ 9)] 10 s fun s=>
 M 7 10 s fun s=>
 E 11 7 0 s fun s=>
 E 12 7 1 s fun s=>
 Z 3 29 [.nils,.int .i64 0,.nils,.int .i64 0] s fun s=>
 U 4 3 11 s fun s=>
 M 4 12 s fun s=>
 M 13 4 s fun s=>
 J 14 .neq false 13 0 s fun s=>
 If 14 s (W13_b9 Φ s) (W13_k3 Φ s)
theorem W13_rs (τ:Nat → AV) (H:Heap):resV Tryz.prog τ H [.cell 2 29] = rdV H 4 true (τ 2):=by kernel_rfl
theorem W13_eq:EqW Tryz.prog Tryz.f13 W13:=fun _ _=>by kernel_rfl
theorem W13_S:SpW Tryz.prog 13 50 [.cell 2 29] W13:=spW Tryz.func13 Tryz.ntmps13 W13_eq
-- 14 "penance/run.Begin"
def W14 (Φ:EP) (s:St):Prop:=
 Y 1 29 0 s fun s=>
 Z 2 38 z13 s fun s=>
 F 3 2 1 s fun u1=>
 L 4 1 3 false u1 fun u2=>
 F 5 3 1 u2 fun u3=>
 L 6 1 5 false u3 fun u4=>
 X 7 9 4 6 u4 fun u5=>
 L 8 9 7 true u5 fun u6=>
 C0 Tryz.prog 32 [(u6.τ 8)] 9 u6 fun u7=>
 @sChk (compat (cfp 9 32 [(u6.τ 8)]) (occ (u7.τ 1),[])) <| .mk <|
 F 10 0 1 u7 fun u8=>
 @sChk (compat (cfp 9 32 [(u6.τ 8)]) (occ (u8.τ 10),[])) <| .mk <|
 L 11 1 10 false u8 fun u9=>
 C0 Tryz.prog 33 [(u9.τ 11)] 12 u9 fun u10=>
 @sChk (compat (cfp 9 32 [(u6.τ 8)]) (occ (u10.τ 1),[])) <| .mk <|
 @sChk (compat (cfp 12 33 [(u9.τ 11)]) (occ (u10.τ 1),[])) <| .mk <|
 F 13 1 1 u10 fun u11=>
 @sChk (compat (cfp 9 32 [(u6.τ 8)]) (occ (u11.τ 13),[])) <| .mk <|
 @sChk (compat (cfp 12 33 [(u9.τ 11)]) (occ (u11.τ 13),[])) <| .mk <|
 L 14 1 13 false u11 fun u12=>
 k1 (s.τ 1) 15 <|
 k1 (u1.τ 3) 15 <|
 k1 (u2.τ 1) 15 <|
 k1 (u3.τ 5) 15 <|
 k1 (u4.τ 4) 15 <|
 k1 (u5.τ 7) 15 <|
 k2 (cfp 9 32 [(u6.τ 8)]) 15 <|
 k1 (u7.τ 1) 15 <|
 k1 (u8.τ 10) 15 <|
 k2 (cfp 12 33 [(u9.τ 11)]) 15 <|
 @sOp (some 15) (xMks 15 27 1 24 [.nils] (u12.τ 14) (u12.τ 14) u12.H) u12<|.mk fun u13=>
 C0 Tryz.prog 34 [(u13.τ 15),(.int .i64 0),(.int .i64 0)] 16 u13 fun u14=>
 Bd 17 z13 [(0,9,(u14.τ 9)),(9,1,(u14.τ 12)),(10,1,(u14.τ 16))] u14 fun u15=>
 U 13 2 17 u15 fun s=>
 Φ .ret s
theorem W14_rs (τ:Nat → AV) (H:Heap):resV Tryz.prog τ H [.cell 2 38] = rdV H 13 true (τ 2):=by kernel_rfl
theorem W14_eq:EqW Tryz.prog Tryz.f14 W14:=fun _ _=>by kernel_rfl
theorem W14_S:SpW Tryz.prog 14 18 [.cell 2 38] W14:=spW Tryz.func14 Tryz.ntmps14 W14_eq
-- 17 "penance/run.Check"
def W17_b1 (Φ:EP) (s:St):Prop:=
 V 2 false s fun s=>
 Φ .ret s
def W17_k2 (Φ:EP) (s:St):Prop:=
 V 2 true s fun s=>
 Φ .ret s
def W17_b3 (Φ:EP) (L0:SP) (s:St):Prop:=
 V 2 false s fun s=>
 Φ .ret s
def W17_b4 (Φ:EP) (L0:SP) (s:St):Prop:=
 J 71 .add false 47 1 s fun s=>
 M 47 71 s fun s=>
 L0 s
def W17_b19 (Φ:EP) (L0:SP) (s:St):Prop:=
 X 49 9 45 47 s fun s=>
 L 50 9 49 true s fun s=>
 Z 4 35 z9 s fun s=>
 U 9 4 50 s fun s=>
 L 51 9 4 true s fun s=>
 Ca Tryz.prog 38 [(s.τ 51)] 52 s fun s=>
 J 53 .gtr false 52 2000 s fun s=>
 M 54 53 s fun s=>
 gl 55 9 4 54 true false s fun s=>
 @sGrd (guardOf (s.τ 54) false) (some 56) s ⟨fun s K=>@sCall Tryz.prog (.func 39 []) [(s.τ 55)] (some 56) s ⟨K⟩⟩<|.mk fun s=>
 O 57 54 56 s fun s=>
 M 58 57 s fun s=>
 gl 59 9 4 58 true false s fun s=>
 gf 60 0 1 58 false s fun s=>
 gl 61 1 60 58 false false s fun s=>
 go 62 58 false s (fun s=>(xLen (s.τ 61) s.H)) fun s=>
 gf 63 1 1 58 false s fun s=>
 gl 64 1 63 58 false false s fun s=>
 gf 65 2 1 58 false s fun s=>
 gl 66 1 65 58 false false s fun s=>
 go 67 58 false s (fun s=>(xLen (s.τ 66) s.H)) fun s=>
 @sGrd (guardOf (s.τ 58) false) (some 68) s ⟨fun s K=>@sCall Tryz.prog (.func 40 []) [(s.τ 59),(s.τ 62),(s.τ 64),(s.τ 67)] (some 68) s ⟨K⟩⟩<|.mk fun s=>
 go 69 58 false s (fun s=>(xNot (s.τ 68) s.H)) fun s=>
 O 70 58 69 s fun s=>
 If 70 s (W17_b3 Φ L0 s) (W17_b4 Φ L0 s)
def W17_l20 (Φ:EP) (L0:SP) (s:St):Prop:=
 B 48 .lss false 47 46 s fun s=>
 If 48 s (W17_b19 Φ L0 s) (W17_k2 Φ s)
def W17_b21 (Φ:EP) (s:St):Prop:=
 F 44 2 1 s fun s=>
 L 45 1 44 false s fun s=>
 N 46 45 s fun s=>
 I 47 0 s fun s=>
 @sLoop s ⟨fun L0 s=>W17_l20 Φ L0 s⟩
def W17 (Φ:EP) (s:St):Prop:=
 Y 1 29 0 s fun s=>
 V 2 false s fun s=>
 F 5 0 1 s fun s=>
 L 6 1 5 false s fun s=>
 N 7 6 s fun s=>
 J 8 .gtr false 7 20 s fun s=>
 M 9 8 s fun s=>
 gf 10 1 1 9 false s fun s=>
 gl 11 1 10 9 false false s fun s=>
 go 12 9 false s (fun s=>(xBin .lss false (s.τ 11) (.int .i64 0) s.H)) fun s=>
 O 13 9 12 s fun s=>
 M 14 13 s fun s=>
 gf 15 1 1 14 false s fun s=>
 gl 16 1 15 14 false false s fun s=>
 go 17 14 false s (fun s=>(xBin .gtr false (s.τ 16) (.int .i64 10) s.H)) fun s=>
 O 18 14 17 s fun s=>
 M 19 18 s fun s=>
 gf 20 2 1 19 false s fun s=>
 gl 21 1 20 19 false false s fun s=>
 go 22 19 false s (fun s=>(xLen (s.τ 21) s.H)) fun s=>
 go 23 19 false s (fun s=>(xBin .lss false (s.τ 22) (.int .i64 1) s.H)) fun s=>
 O 24 19 23 s fun s=>
 M 25 24 s fun s=>
 gf 26 2 1 25 false s fun s=>
 gl 27 1 26 25 false false s fun s=>
 go 28 25 false s (fun s=>(xLen (s.τ 27) s.H)) fun s=>
 go 29 25 false s (fun s=>(xBin .gtr false (s.τ 28) (.int .i64 20) s.H)) fun s=>
 O 30 25 29 s fun s=>
 M 31 30 s fun s=>
 gf 32 3 1 31 false s fun s=>
 gl 33 1 32 31 false false s fun s=>
 go 34 31 false s (fun s=>(xBin .lss false (s.τ 33) (.int .i64 0) s.H)) fun s=>
 O 35 31 34 s fun s=>
 M 36 35 s fun s=>
 gf 37 3 1 36 false s fun s=>
 gl 38 1 37 36 false false s fun s=>
 gf 39 2 1 36 false s fun s=>
 gl 40 1 39 36 false false s fun s=>
 go 41 36 false s (fun s=>(xLen (s.τ 40) s.H)) fun s=>
 go 42 36 false s (fun s=>(xBin .geq false (s.τ 38) (s.τ 41) s.H)) fun s=>
 O 43 36 42 s fun s=>
 If 43 s (W17_b1 Φ s) (W17_b21 Φ s)
theorem W17_rs (τ:Nat → AV) (H:Heap):resV Tryz.prog τ H [.tmp 2] = some (τ 2):=by kernel_rfl
theorem W17_eq:EqW Tryz.prog Tryz.f17 W17:=fun _ _=>by kernel_rfl
theorem W17_S:SpW Tryz.prog 17 72 [.tmp 2] W17:=spW Tryz.func17 Tryz.ntmps17 W17_eq
-- 18 "penance/penancelaw8.within"
def W18_k1 (Φ:EP) (s:St):Prop:=
 M 14 5 s fun s=>
 M 4 14 s fun s=>
 Φ .ret s
def W18_b2 (Φ:EP) (s:St):Prop:=
 M 11 5 s fun s=>
 M 12 1 s fun s=>
 B 13 .add false 11 12 s fun s=>
 M 5 13 s fun s=>
 W18_k1 Φ s
def W18 (Φ:EP) (s:St):Prop:=
 I 4 0 s fun s=>
 M 6 0 s fun s=>
 M 7 1 s fun s=>
 B 8 .rem false 6 7 s fun s=>
 M 5 8 s fun s=>
 M 9 5 s fun s=>
 J 10 .lss false 9 0 s fun s=>
 If 10 s (W18_b2 Φ s) (W18_k1 Φ s)
theorem W18_rs (τ:Nat → AV) (H:Heap):resV Tryz.prog τ H [.tmp 4] = some (τ 4):=by kernel_rfl
theorem W18_eq:EqW Tryz.prog Tryz.f18 W18:=fun _ _=>by kernel_rfl
theorem W18_S:SpW Tryz.prog 18 15 [.tmp 4] W18:=spW Tryz.func18 Tryz.ntmps18 W18_eq
-- 19 "penance/run.Tell"
def W19_b1 (Φ:EP) (s:St):Prop:=
 Bd 24 z13 [] s fun s=>
 Bd 25 z3 [] s fun s=>
 U 13 8 24 s fun s=>
 U 3 9 25 s fun s=>
 V 10 false s fun s=>
 Φ .ret s
def W19_k4 (Φ:EP) (s:St):Prop:=
 F 47 0 8 s fun s=>
 L 48 9 47 true s fun s=>
 M 49 11 s fun s=>
 Bd 50 z9 [] s fun s=>
 Ca Tryz.prog 44 [(s.τ 48),(s.τ 49),(s.τ 50)] 51 s fun s=>
 Ca Tryz.prog 32 [(s.τ 51)] 52 s fun s=>
 F 53 0 8 s fun s=>
 U 9 53 52 s fun s=>
 L 54 13 8 true s fun u1=>
 F 55 3 12 u1 fun u2=>
 L 56 1 55 false u2 fun u3=>
 M 57 2 u3 fun u4=>
 M 58 3 u4 fun u5=>
 Bd 59 z3 [(0,1,(u5.τ 56)),(1,1,(u5.τ 57)),(2,1,(u5.τ 58))] u5 fun u6=>
 k3 (u1.τ 12) (occ (u6.τ 8),occ (u6.τ 8)) <|
 k3 (u2.τ 55) (occ (u6.τ 8),occ (u6.τ 8)) <|
 U 13 8 54 u6 fun u7=>
 U 3 9 59 u7 fun u8=>
 V 10 true u8 fun s=>
 Φ .ret s
def W19_b5 (Φ:EP) (s:St):Prop:=
 F 41 9 8 s fun s=>
 L 42 1 41 false s fun s=>
 F 43 2 12 s fun s=>
 L 44 1 43 false s fun s=>
 M 45 3 s fun s=>
 X 46 1 42 44 s fun s=>
 U 1 46 45 s fun s=>
 W19_k4 Φ s
def W19_b13 (Φ:EP) (s:St):Prop:=
 F 26 0 8 s fun s=>
 L 27 9 26 true s fun s=>
 M 28 11 s fun s=>
 Ca Tryz.prog 43 [(s.τ 27),(s.τ 28)] 29 s fun s=>
 Z 12 35 z9 s fun s=>
 U 9 12 29 s fun s=>
 F 30 2 12 s fun s=>
 L 31 1 30 false s fun s=>
 J 32 .geq false 31 0 s fun s=>
 M 33 32 s fun s=>
 gf 34 2 12 33 true s fun s=>
 gl 35 1 34 33 false true s fun s=>
 gf 36 9 8 33 true s fun s=>
 gl 37 1 36 33 false true s fun s=>
 go 38 33 true s (fun s=>(xLen (s.τ 37) s.H)) fun s=>
 go 39 33 true s (fun s=>(xBin .lss false (s.τ 35) (s.τ 38) s.H)) fun s=>
 A 40 33 39 s fun s=>
 If 40 s (W19_b5 Φ s) (W19_k4 Φ s)
def W19 (Φ:EP) (s:St):Prop:=
 Y 4 29 0 s fun s=>
 Y 5 38 1 s fun s=>
 Z 8 38 z13 s fun s=>
 Z 9 44 z3 s fun s=>
 V 10 false s fun s=>
 L 13 13 5 true s fun s=>
 Ca Tryz.prog 41 [(s.τ 13)] 14 s fun s=>
 U 13 8 14 s fun s=>
 F 16 0 8 s fun s=>
 L 17 9 16 true s fun s=>
 M 18 2 s fun s=>
 Ca Tryz.prog 42 [(s.τ 17),(s.τ 18)] 19 s fun s=>
 M 15 19 s fun s=>
 E 20 15 0 s fun s=>
 E 21 15 1 s fun s=>
 M 11 20 s fun s=>
 M 10 21 s fun s=>
 M 22 10 s fun s=>
 Q 23 22 s fun s=>
 If 23 s (W19_b1 Φ s) (W19_b13 Φ s)
theorem W19_rs (τ:Nat → AV) (H:Heap):resV Tryz.prog τ H [.cell 8 38,.cell 9 44,.tmp 10] = ob (ob (rdV H 13 true (τ 8)) fun v=>ob (ob (rdV H 3 true (τ 9)) fun v=>ob (ob (some (τ 10)) fun v=>ob (some []) fun vs=>some (v :: vs)) fun vs=>some (v :: vs)) fun vs=>some (v :: vs)) fun vs=>some (.tup vs):=by kernel_rfl
theorem W19_eq:EqW Tryz.prog Tryz.f19 W19:=fun _ _=>by kernel_rfl
theorem W19_S:SpW Tryz.prog 19 60 [.cell 8 38,.cell 9 44,.tmp 10] W19:=spW Tryz.func19 Tryz.ntmps19 W19_eq
-- 21 "penance/run.Do"
def W21_b1 (Φ:EP) (J0:Nat → SP) (s:St):Prop:=
 Bd 28 z13 [] s fun s=>
 Bd 29 z3 [] s fun s=>
 U 13 6 28 s fun s=>
 U 3 7 29 s fun s=>
 V 8 false s fun s=>
 I 9 12 s fun s=>
 Φ .ret s
def W21_b2 (Φ:EP) (J0:Nat → SP) (s:St):Prop:=
 Bd 34 z13 [] s fun s=>
 Bd 35 z3 [] s fun s=>
 U 13 6 34 s fun s=>
 U 3 7 35 s fun s=>
 V 8 false s fun s=>
 I 9 10 s fun s=>
 Φ .ret s
def W21_b3 (Φ:EP) (J0:Nat → SP) (s:St):Prop:=
 I 9 11 s fun s=>
 J0 0 s
def W21_b4 (Φ:EP) (J0:Nat → SP) (s:St):Prop:=
 L 190 13 6 true s fun u1=>
 L 191 3 7 true u1 fun u2=>
 M 192 8 u2 fun u3=>
 k3 (u1.τ 7) (occ (u3.τ 6),occ (u3.τ 6)) <|
 U 13 6 190 u3 fun u4=>
 U 3 7 191 u4 fun u5=>
 M 8 192 u5 fun u6=>
 I 9 0 u6 fun s=>
 Φ .ret s
def W21_k9 (Φ:EP) (J0:Nat → SP) (s:St):Prop:=
 F 171 0 6 s fun s=>
 L 172 9 171 true s fun s=>
 M 173 13 s fun s=>
 L 174 9 14 true s fun s=>
 Ca Tryz.prog 44 [(s.τ 172),(s.τ 173),(s.τ 174)] 175 s fun s=>
 Ca Tryz.prog 32 [(s.τ 175)] 176 s fun s=>
 F 177 0 6 s fun s=>
 U 9 177 176 s fun s=>
 F 178 11 6 s fun s=>
 L 179 1 178 false s fun s=>
 J 180 .add false 179 1 s fun s=>
 F 181 11 6 s fun s=>
 U 1 181 180 s fun s=>
 F 182 0 6 s fun u1=>
 L 183 9 182 true u1 fun u2=>
 C0 Tryz.prog 38 [(u2.τ 183)] 184 u2 fun u3=>
 @sChk (compat (cfp 184 38 [(u2.τ 183)]) (occ (u3.τ 6),[])) <| .mk <|
 F 185 10 6 u3 fun u4=>
 @sChk (compat (cfp 184 38 [(u2.τ 183)]) (occ (u4.τ 185),[])) <| .mk <|
 L 186 1 185 false u4 fun u5=>
 C0 Tryz.prog 52 [(u5.τ 186)] 187 u5 fun u6=>
 B 188 .add false 184 187 u6 fun u7=>
 J 189 .gtr false 188 2000 u7 fun s=>
 If 189 s (W21_b3 Φ J0 s) (W21_b4 Φ J0 s)
def W21_b10 (Φ:EP) (J0:Nat → SP) (s:St):Prop:=
 F 72 12 6 s fun s=>
 L 73 1 72 false s fun s=>
 F 74 1 12 s fun s=>
 L 75 1 74 false s fun s=>
 F 76 3 12 s fun s=>
 L 77 1 76 false s fun s=>
 Bd 78 z9 [(0,1,(.int .i64 14)),(1,1,(s.τ 73)),(2,1,(s.τ 75)),(3,1,(s.τ 77))] s fun s=>
 U 9 14 78 s fun s=>
 F 79 3 12 s fun s=>
 L 80 1 79 false s fun s=>
 F 81 12 6 s fun s=>
 L 82 1 81 false s fun s=>
 Bd 83 z3 [(0,1,(s.τ 80)),(1,1,(s.τ 82))] s fun s=>
 U 3 7 83 s fun s=>
 V 8 true s fun s=>
 F 84 12 6 s fun s=>
 L 85 1 84 false s fun s=>
 J 86 .add false 85 1 s fun s=>
 F 87 12 6 s fun s=>
 U 1 87 86 s fun s=>
 W21_k9 Φ J0 s
def W21_b11 (Φ:EP) (J0:Nat → SP) (s:St):Prop:=
 F 90 9 6 s fun s=>
 L 91 1 90 false s fun s=>
 F 92 1 12 s fun s=>
 L 93 1 92 false s fun s=>
 M 94 15 s fun s=>
 X 95 1 91 93 s fun s=>
 U 1 95 94 s fun s=>
 W21_k9 Φ J0 s
def W21_b13 (Φ:EP) (J0:Nat → SP) (s:St):Prop:=
 F 98 10 6 s fun s=>
 L 99 1 98 false s fun s=>
 F 100 1 12 s fun s=>
 L 101 1 100 false s fun s=>
 F 102 8 12 s fun s=>
 L 103 1 102 false s fun s=>
 @sOp (some 104) (xIx 9 (s.τ 103) (.int .i64 0) s.H) s<|.mk fun s=>
 L 105 9 104 true s fun s=>
 C0 Tryz.prog 48 [(s.τ 99),(s.τ 101),(s.τ 105)] 106 s fun s=>
 F 107 10 6 s fun s=>
 U 1 107 106 s fun s=>
 W21_k9 Φ J0 s
def W21_b15 (Φ:EP) (J0:Nat → SP) (s:St):Prop:=
 F 111 10 6 s fun s=>
 L 112 1 111 false s fun s=>
 F 113 1 12 s fun s=>
 L 114 1 113 false s fun s=>
 Ca Tryz.prog 49 [(s.τ 112),(s.τ 114)] 115 s fun s=>
 M 110 115 s fun s=>
 E 116 110 0 s fun s=>
 E 117 110 1 s fun s=>
 U 9 14 116 s fun s=>
 F 118 10 6 s fun s=>
 U 1 118 117 s fun s=>
 W21_k9 Φ J0 s
def W21_b17 (Φ:EP) (J0:Nat → SP) (s:St):Prop:=
 F 121 10 6 s fun s=>
 L 122 1 121 false s fun s=>
 F 123 1 12 s fun s=>
 L 124 1 123 false s fun s=>
 Ca Tryz.prog 50 [(s.τ 122),(s.τ 124)] 125 s fun s=>
 F 126 10 6 s fun s=>
 U 1 126 125 s fun s=>
 W21_k9 Φ J0 s
def W21_b19 (Φ:EP) (J0:Nat → SP) (s:St):Prop:=
 F 129 10 6 s fun s=>
 L 130 1 129 false s fun s=>
 F 131 1 12 s fun s=>
 L 132 1 131 false s fun s=>
 F 133 2 12 s fun s=>
 L 134 1 133 false s fun s=>
 Ca Tryz.prog 34 [(s.τ 130),(s.τ 132),(s.τ 134)] 135 s fun s=>
 F 136 10 6 s fun s=>
 U 1 136 135 s fun s=>
 W21_k9 Φ J0 s
def W21_b20 (Φ:EP) (J0:Nat → SP) (s:St):Prop:=
 F 145 8 12 s fun s=>
 L 146 1 145 false s fun s=>
 @sOp (some 147) (xIx 9 (s.τ 146) (.int .i64 0) s.H) s<|.mk fun s=>
 L 148 9 147 true s fun s=>
 U 9 14 148 s fun s=>
 W21_k9 Φ J0 s
def W21_b21 (Φ:EP) (J0:Nat → SP) (s:St):Prop:=
 F 139 8 12 s fun s=>
 L 140 1 139 false s fun s=>
 @sOp (some 141) (xIx 9 (s.τ 140) (.int .i64 1) s.H) s<|.mk fun s=>
 L 142 9 141 true s fun s=>
 U 9 14 142 s fun s=>
 M 143 15 s fun s=>
 J 144 .neq false 143 0 s fun s=>
 If 144 s (W21_b20 Φ J0 s) (W21_k9 Φ J0 s)
def W21_b22 (Φ:EP) (J0:Nat → SP) (s:St):Prop:=
 F 151 8 12 s fun s=>
 L 152 1 151 false s fun s=>
 F 153 2 11 s fun s=>
 L 154 1 153 false s fun s=>
 X 155 9 152 154 s fun s=>
 L 156 9 155 true s fun s=>
 U 9 14 156 s fun s=>
 W21_k9 Φ J0 s
def W21_b23 (Φ:EP) (J0:Nat → SP) (s:St):Prop:=
 F 159 2 3 s fun s=>
 L 160 1 159 false s fun s=>
 F 161 1 12 s fun s=>
 L 162 1 161 false s fun s=>
 X 163 9 160 162 s fun s=>
 L 164 9 163 true s fun s=>
 U 9 14 164 s fun s=>
 W21_k9 Φ J0 s
def W21_b25 (Φ:EP) (J0:Nat → SP) (s:St):Prop:=
 F 167 0 6 s fun s=>
 L 168 9 167 true s fun s=>
 M 169 13 s fun s=>
 Ca Tryz.prog 51 [(s.τ 168),(s.τ 169)] 170 s fun s=>
 M 13 170 s fun s=>
 W21_k9 Φ J0 s
def W21_b26 (Φ:EP) (J0:Nat → SP) (s:St):Prop:=
 J 166 .eql false 69 8 s fun s=>
 M 165 166 s fun s=>
 If 165 s (W21_b25 Φ J0 s) (W21_k9 Φ J0 s)
def W21_b27 (Φ:EP) (J0:Nat → SP) (s:St):Prop:=
 J 158 .eql false 69 13 s fun s=>
 M 157 158 s fun s=>
 If 157 s (W21_b23 Φ J0 s) (W21_b26 Φ J0 s)
def W21_b28 (Φ:EP) (J0:Nat → SP) (s:St):Prop:=
 J 150 .eql false 69 10 s fun s=>
 M 149 150 s fun s=>
 If 149 s (W21_b22 Φ J0 s) (W21_b27 Φ J0 s)
def W21_b29 (Φ:EP) (J0:Nat → SP) (s:St):Prop:=
 J 138 .eql false 69 9 s fun s=>
 M 137 138 s fun s=>
 If 137 s (W21_b21 Φ J0 s) (W21_b28 Φ J0 s)
def W21_b30 (Φ:EP) (J0:Nat → SP) (s:St):Prop:=
 J 128 .eql false 69 6 s fun s=>
 M 127 128 s fun s=>
 If 127 s (W21_b19 Φ J0 s) (W21_b29 Φ J0 s)
def W21_b31 (Φ:EP) (J0:Nat → SP) (s:St):Prop:=
 J 120 .eql false 69 5 s fun s=>
 M 119 120 s fun s=>
 If 119 s (W21_b17 Φ J0 s) (W21_b30 Φ J0 s)
def W21_b32 (Φ:EP) (J0:Nat → SP) (s:St):Prop:=
 J 109 .eql false 69 4 s fun s=>
 M 108 109 s fun s=>
 If 108 s (W21_b15 Φ J0 s) (W21_b31 Φ J0 s)
def W21_b33 (Φ:EP) (J0:Nat → SP) (s:St):Prop:=
 J 97 .eql false 69 3 s fun s=>
 M 96 97 s fun s=>
 If 96 s (W21_b13 Φ J0 s) (W21_b32 Φ J0 s)
def W21_b34 (Φ:EP) (J0:Nat → SP) (s:St):Prop:=
 J 89 .eql false 69 2 s fun s=>
 M 88 89 s fun s=>
 If 88 s (W21_b11 Φ J0 s) (W21_b33 Φ J0 s)
def W21_k35 (Φ:EP) (J0:Nat → SP) (s:St):Prop:=
 F 68 0 12 s fun s=>
 L 69 1 68 false s fun s=>
 J 71 .eql false 69 1 s fun s=>
 M 70 71 s fun s=>
 If 70 s (W21_b10 Φ J0 s) (W21_b34 Φ J0 s)
def W21_b37 (Φ:EP) (J0:Nat → SP) (s:St):Prop:=
 F 59 4 12 s fun s=>
 L 60 4 59 true s fun s=>
 F 61 9 6 s fun s=>
 L 62 1 61 false s fun s=>
 Ca Tryz.prog 47 [(s.τ 60),(s.τ 62)] 63 s fun s=>
 M 58 63 s fun s=>
 E 64 58 0 s fun s=>
 E 65 58 1 s fun s=>
 M 15 64 s fun s=>
 M 9 65 s fun s=>
 M 66 9 s fun s=>
 J 67 .neq false 66 0 s fun s=>
 If 67 s (J0 0 s) (W21_k35 Φ J0 s)
def W21_b43 (Φ:EP) (J0:Nat → SP) (s:St):Prop:=
 L 36 13 4 true s fun s=>
 Ca Tryz.prog 41 [(s.τ 36)] 37 s fun s=>
 U 13 6 37 s fun s=>
 M 38 10 s fun s=>
 M 39 2 s fun s=>
 X 40 3 38 39 s fun s=>
 L 41 3 40 true s fun s=>
 Z 11 60 [.int .i64 0,.nils,.int .i64 0] s fun s=>
 U 3 11 41 s fun s=>
 F 42 0 6 s fun s=>
 L 43 9 42 true s fun s=>
 F 44 1 11 s fun s=>
 L 45 1 44 false s fun s=>
 Ca Tryz.prog 43 [(s.τ 43),(s.τ 45)] 46 s fun s=>
 Z 12 35 z9 s fun s=>
 U 9 12 46 s fun s=>
 F 47 1 11 s fun s=>
 L 48 1 47 false s fun s=>
 Bd 49 z9 [] s fun s=>
 Z 14 35 z9 s fun s=>
 M 13 48 s fun s=>
 U 9 14 49 s fun s=>
 I 15 0 s fun s=>
 F 50 0 12 s fun s=>
 L 51 1 50 false s fun s=>
 J 52 .eql false 51 2 s fun s=>
 M 53 52 s fun s=>
 gf 54 0 12 53 false s fun s=>
 gl 55 1 54 53 false false s fun s=>
 go 56 53 false s (fun s=>(xBin .eql false (s.τ 55) (.int .i64 9) s.H)) fun s=>
 O 57 53 56 s fun s=>
 If 57 s (W21_b37 Φ J0 s) (W21_k35 Φ J0 s)
def W21_b44 (Φ:EP) (J0:Nat → SP) (s:St):Prop:=
 F 31 11 4 s fun s=>
 L 32 1 31 false s fun s=>
 J 33 .geq false 32 5000 s fun s=>
 M 30 33 s fun s=>
 If 30 s (W21_b2 Φ J0 s) (W21_b43 Φ J0 s)
def W21_s50 (Φ:EP) (J0:Nat → SP) (s:St):Prop:=
 F 16 0 4 s fun s=>
 L 17 9 16 true s fun s=>
 Ca Tryz.prog 46 [(s.τ 17)] 18 s fun s=>
 M 10 18 s fun s=>
 M 20 2 s fun s=>
 J 21 .lss false 20 0 s fun s=>
 M 22 21 s fun s=>
 gm 23 2 22 false s fun s=>
 gm 24 10 22 false s fun s=>
 go 25 22 false s (fun s=>(xLen (s.τ 24) s.H)) fun s=>
 go 26 22 false s (fun s=>(xBin .geq false (s.τ 23) (s.τ 25) s.H)) fun s=>
 O 27 22 26 s fun s=>
 M 19 27 s fun s=>
 If 19 s (W21_b1 Φ J0 s) (W21_b44 Φ J0 s)
def W21_g51 (Φ:EP) (J0:Nat → SP) (s:St):Prop:=
 Bd 193 z13 [] s fun s=>
 Bd 194 z3 [] s fun s=>
 M 195 9 s fun s=>
 U 13 6 193 s fun s=>
 U 3 7 194 s fun s=>
 V 8 false s fun s=>
 M 9 195 s fun s=>
 Φ .ret s
def W21 (Φ:EP) (s:St):Prop:=
 Y 3 29 0 s fun s=>
 Y 4 38 1 s fun s=>
 Z 6 38 z13 s fun s=>
 Z 7 44 z3 s fun s=>
 V 8 false s fun s=>
 I 9 0 s fun s=>
 @sScope s ⟨fun J0 s=>W21_s50 Φ J0 s⟩ ⟨[(0,fun J0 s=>W21_g51 Φ J0 s)]⟩
theorem W21_rs (τ:Nat → AV) (H:Heap):resV Tryz.prog τ H [.cell 6 38,.cell 7 44,.tmp 8,.tmp 9] = ob (ob (rdV H 13 true (τ 6)) fun v=>ob (ob (rdV H 3 true (τ 7)) fun v=>ob (ob (some (τ 8)) fun v=>ob (ob (some (τ 9)) fun v=>ob (some []) fun vs=>some (v :: vs)) fun vs=>some (v :: vs)) fun vs=>some (v :: vs)) fun vs=>some (v :: vs)) fun vs=>some (.tup vs):=by kernel_rfl
theorem W21_eq:EqW Tryz.prog Tryz.f21 W21:=fun _ _=>by kernel_rfl
theorem W21_S:SpW Tryz.prog 21 196 [.cell 6 38,.cell 7 44,.tmp 8,.tmp 9] W21:=spW Tryz.func21 Tryz.ntmps21 W21_eq
-- 23 "penance/penanceref8.Check"
def W23_b1 (Φ:EP) (s:St):Prop:=
 V 2 false s fun s=>
 Φ .ret s
def W23_k2 (Φ:EP) (s:St):Prop:=
 V 2 true s fun s=>
 Φ .ret s
def W23_b3 (Φ:EP) (L0:SP) (s:St):Prop:=
 V 2 false s fun s=>
 Φ .ret s
def W23_b4 (Φ:EP) (L0:SP) (s:St):Prop:=
 M 48 3 s fun s=>
 J 49 .add false 48 1 s fun s=>
 M 3 49 s fun s=>
 L0 s
def W23_b19 (Φ:EP) (L0:SP) (s:St):Prop:=
 F 50 2 1 s fun s=>
 L 51 1 50 false s fun s=>
 M 52 3 s fun s=>
 X 53 9 51 52 s fun s=>
 L 54 9 53 true s fun s=>
 F 55 0 1 s fun s=>
 L 56 1 55 false s fun s=>
 N 57 56 s fun s=>
 F 58 1 1 s fun s=>
 L 59 1 58 false s fun s=>
 F 60 2 1 s fun s=>
 L 61 1 60 false s fun s=>
 N 62 61 s fun s=>
 C0 Tryz.prog 59 [(s.τ 54),(s.τ 57),(s.τ 59),(s.τ 62)] 63 s fun s=>
 Q 64 63 s fun s=>
 M 65 64 s fun s=>
 gf 66 2 1 65 false s fun s=>
 gl 67 1 66 65 false false s fun s=>
 gm 68 3 65 false s fun s=>
 go 69 65 false s (fun s=>(xIx 9 (s.τ 67) (s.τ 68) s.H)) fun s=>
 gl 70 9 69 65 true false s fun s=>
 @sGrd (guardOf (s.τ 65) false) (some 71) s ⟨fun s K=>@sCall0 Tryz.prog (.func 60 []) [(s.τ 70)] (some 71) s ⟨K⟩⟩<|.mk fun s=>
 O 72 65 71 s fun s=>
 M 73 72 s fun s=>
 gf 74 2 1 73 false s fun s=>
 gl 75 1 74 73 false false s fun s=>
 gm 76 3 73 false s fun s=>
 go 77 73 false s (fun s=>(xIx 9 (s.τ 75) (s.τ 76) s.H)) fun s=>
 gl 78 9 77 73 true false s fun s=>
 @sGrd (guardOf (s.τ 73) false) (some 79) s ⟨fun s K=>@sCall0 Tryz.prog (.func 57 []) [(s.τ 78)] (some 79) s ⟨K⟩⟩<|.mk fun s=>
 go 80 73 false s (fun s=>(xBin .gtr false (s.τ 79) (.int .i64 2000) s.H)) fun s=>
 O 81 73 80 s fun s=>
 If 81 s (W23_b3 Φ L0 s) (W23_b4 Φ L0 s)
def W23_l20 (Φ:EP) (L0:SP) (s:St):Prop:=
 M 43 3 s fun s=>
 F 44 2 1 s fun s=>
 L 45 1 44 false s fun s=>
 N 46 45 s fun s=>
 B 47 .lss false 43 46 s fun s=>
 If 47 s (W23_b19 Φ L0 s) (W23_k2 Φ s)
def W23_b21 (Φ:EP) (s:St):Prop:=
 I 3 0 s fun s=>
 @sLoop s ⟨fun L0 s=>W23_l20 Φ L0 s⟩
def W23 (Φ:EP) (s:St):Prop:=
 Y 1 29 0 s fun s=>
 V 2 false s fun s=>
 F 4 0 1 s fun s=>
 L 5 1 4 false s fun s=>
 N 6 5 s fun s=>
 J 7 .gtr false 6 20 s fun s=>
 M 8 7 s fun s=>
 gf 9 1 1 8 false s fun s=>
 gl 10 1 9 8 false false s fun s=>
 go 11 8 false s (fun s=>(xBin .lss false (s.τ 10) (.int .i64 0) s.H)) fun s=>
 O 12 8 11 s fun s=>
 M 13 12 s fun s=>
 gf 14 1 1 13 false s fun s=>
 gl 15 1 14 13 false false s fun s=>
 go 16 13 false s (fun s=>(xBin .gtr false (s.τ 15) (.int .i64 10) s.H)) fun s=>
 O 17 13 16 s fun s=>
 M 18 17 s fun s=>
 gf 19 2 1 18 false s fun s=>
 gl 20 1 19 18 false false s fun s=>
 go 21 18 false s (fun s=>(xLen (s.τ 20) s.H)) fun s=>
 go 22 18 false s (fun s=>(xBin .lss false (s.τ 21) (.int .i64 1) s.H)) fun s=>
 O 23 18 22 s fun s=>
 M 24 23 s fun s=>
 gf 25 2 1 24 false s fun s=>
 gl 26 1 25 24 false false s fun s=>
 go 27 24 false s (fun s=>(xLen (s.τ 26) s.H)) fun s=>
 go 28 24 false s (fun s=>(xBin .gtr false (s.τ 27) (.int .i64 20) s.H)) fun s=>
 O 29 24 28 s fun s=>
 M 30 29 s fun s=>
 gf 31 3 1 30 false s fun s=>
 gl 32 1 31 30 false false s fun s=>
 go 33 30 false s (fun s=>(xBin .lss false (s.τ 32) (.int .i64 0) s.H)) fun s=>
 O 34 30 33 s fun s=>
 M 35 34 s fun s=>
 gf 36 3 1 35 false s fun s=>
 gl 37 1 36 35 false false s fun s=>
 gf 38 2 1 35 false s fun s=>
 gl 39 1 38 35 false false s fun s=>
 go 40 35 false s (fun s=>(xLen (s.τ 39) s.H)) fun s=>
 go 41 35 false s (fun s=>(xBin .geq false (s.τ 37) (s.τ 40) s.H)) fun s=>
 O 42 35 41 s fun s=>
 If 42 s (W23_b1 Φ s) (W23_b21 Φ s)
theorem W23_rs (τ:Nat → AV) (H:Heap):resV Tryz.prog τ H [.tmp 2] = some (τ 2):=by kernel_rfl
theorem W23_eq:EqW Tryz.prog Tryz.f23 W23:=fun _ _=>by kernel_rfl
theorem W23_S:SpW Tryz.prog 23 82 [.tmp 2] W23:=spW Tryz.func23 Tryz.ntmps23 W23_eq
-- 24 "penance/penancelaw5.Spoilt"
def W24_b3 (Φ:EP) (s:St):Prop:=
 @sOp (some 20) (xRow 20 35 9 0 z9 [] s.H) s<|.mk fun s=>
 F 21 8 4 s fun s=>
 L 22 1 21 false s fun s=>
 @sOp (some 23) (xApp Tryz.prog 35 9 120 (some 23) (s.τ 20) (s.τ 22) s.H) s<|.mk fun s=>
 M 9 23 s fun s=>
 M 24 3 s fun s=>
 J 25 .quo false 24 4 s fun s=>
 M 26 9 s fun s=>
 N 27 26 s fun s=>
 Ca Tryz.prog 61 [(s.τ 25),(s.τ 27)] 28 s fun s=>
 M 10 28 s fun s=>
 M 29 9 s fun s=>
 M 30 10 s fun s=>
 M 31 9 s fun s=>
 M 32 10 s fun s=>
 X 33 9 31 32 s fun s=>
 L 34 9 33 true s fun s=>
 M 35 1 s fun s=>
 M 36 2 s fun s=>
 M 37 3 s fun s=>
 J 38 .quo false 37 9 s fun s=>
 Ca Tryz.prog 24 [(s.τ 34),(s.τ 35),(s.τ 36),(s.τ 38)] 39 s fun s=>
 X 40 9 29 30 s fun s=>
 U 9 40 39 s fun s=>
 M 41 9 s fun s=>
 F 42 8 4 s fun s=>
 U 1 42 41 s fun s=>
 L 43 9 4 true s fun s=>
 U 9 8 43 s fun s=>
 Φ .ret s
def W24_k4 (Φ:EP) (s:St):Prop:=
 L 112 9 4 true s fun s=>
 U 9 8 112 s fun s=>
 Φ .ret s
def W24_b6 (Φ:EP) (s:St):Prop:=
 M 48 2 s fun s=>
 Ca Tryz.prog 61 [(s.τ 48),(.int .i64 17)] 49 s fun s=>
 J 50 .sub false 49 1 s fun s=>
 F 51 0 4 s fun s=>
 U 1 51 50 s fun s=>
 W24_k4 Φ s
def W24_b8 (Φ:EP) (s:St):Prop:=
 M 54 2 s fun s=>
 Lt 55 1 6 [.int .i64 0] [(0,(.int .i64 (-2))),(1,(.int .i64 (-1))),(2,(.int .i64 0)),(3,(.int .i64 2)),(4,(.int .i64 5)),(5,(s.τ 54))] s fun s=>
 M 56 2 s fun s=>
 Ca Tryz.prog 61 [(s.τ 56),(.int .i64 6)] 57 s fun s=>
 X 58 1 55 57 s fun s=>
 L 59 1 58 false s fun s=>
 F 60 1 4 s fun s=>
 U 1 60 59 s fun s=>
 W24_k4 Φ s
def W24_b10 (Φ:EP) (s:St):Prop:=
 M 63 2 s fun s=>
 Lt 64 1 6 [.int .i64 0] [(0,(.int .i64 (-2))),(1,(.int .i64 (-1))),(2,(.int .i64 0)),(3,(.int .i64 2)),(4,(.int .i64 3)),(5,(s.τ 63))] s fun s=>
 M 65 2 s fun s=>
 Ca Tryz.prog 61 [(s.τ 65),(.int .i64 6)] 66 s fun s=>
 X 67 1 64 66 s fun s=>
 L 68 1 67 false s fun s=>
 F 69 2 4 s fun s=>
 U 1 69 68 s fun s=>
 W24_k4 Φ s
def W24_b12 (Φ:EP) (s:St):Prop:=
 Lt 72 1 5 [.str ⟨#[]⟩] [(0,(.str ⟨#[]⟩)),(1,(.str ⟨#[112,97,121]⟩)),(2,(.str ⟨#[100,111]⟩)),(3,(.str ⟨#[97,32,98]⟩)),(4,(.str ⟨#[80,97,121]⟩))] s fun s=>
 M 73 2 s fun s=>
 Ca Tryz.prog 61 [(s.τ 73),(.int .i64 5)] 74 s fun s=>
 X 75 1 72 74 s fun s=>
 L 76 1 75 false s fun s=>
 F 77 3 4 s fun s=>
 U 1 77 76 s fun s=>
 W24_k4 Φ s
def W24_b15 (Φ:EP) (s:St):Prop:=
 M 80 2 s fun s=>
 Ca Tryz.prog 61 [(s.τ 80),(.int .i64 4)] 81 s fun s=>
 M 82 2 s fun s=>
 J 83 .quo false 82 4 s fun s=>
 Ca Tryz.prog 61 [(s.τ 83),(.int .i64 5)] 84 s fun s=>
 Bd 85 z4 [(0,1,(s.τ 81)),(1,1,(s.τ 84))] s fun s=>
 F 86 4 4 s fun s=>
 U 4 86 85 s fun s=>
 W24_k4 Φ s
def W24_b16 (Φ:EP) (s:St):Prop:=
 @sOp (some 89) (xRow 89 35 9 0 z9 [] s.H) s<|.mk fun s=>
 F 90 8 4 s fun s=>
 L 91 1 90 false s fun s=>
 @sOp (some 92) (xApp Tryz.prog 35 9 120 (some 92) (s.τ 89) (s.τ 91) s.H) s<|.mk fun s=>
 Bd 93 z9 [(0,1,(.int .i64 14)),(2,1,(.int .i64 (-1))),(3,1,(.str ⟨#[112,97,121]⟩))] s fun s=>
 Lt 94 9 1 z9 [(0,(s.τ 93))] s fun s=>
 @sOp (some 95) (xApp Tryz.prog 35 9 120 (some 95) (s.τ 92) (s.τ 94) s.H) s<|.mk fun s=>
 F 96 8 4 s fun s=>
 U 1 96 95 s fun s=>
 W24_k4 Φ s
def W24_b17 (Φ:EP) (s:St):Prop:=
 F 103 8 4 s fun s=>
 L 104 1 103 false s fun s=>
 @sOp (some 105) (xSlc 9 (s.τ 104) (some (.int .i64 1)) none s.H) s<|.mk fun s=>
 F 106 8 4 s fun s=>
 U 1 106 105 s fun s=>
 W24_k4 Φ s
def W24_b18 (Φ:EP) (s:St):Prop:=
 F 99 8 4 s fun s=>
 L 100 1 99 false s fun s=>
 N 101 100 s fun s=>
 J 102 .gtr false 101 0 s fun s=>
 If 102 s (W24_b17 Φ s) (W24_k4 Φ s)
def W24_b19 (Φ:EP) (s:St):Prop:=
 L 109 9 4 true s fun s=>
 Lt 110 9 1 z9 [(0,(s.τ 109))] s fun s=>
 Bd 111 z9 [(0,1,(.int .i64 3)),(8,1,(s.τ 110))] s fun s=>
 U 9 4 111 s fun s=>
 W24_k4 Φ s
def W24_b20 (Φ:EP) (s:St):Prop:=
 J 108 .eql false 45 7 s fun s=>
 M 107 108 s fun s=>
 If 107 s (W24_b19 Φ s) (W24_k4 Φ s)
def W24_b21 (Φ:EP) (s:St):Prop:=
 J 98 .eql false 45 6 s fun s=>
 M 97 98 s fun s=>
 If 97 s (W24_b18 Φ s) (W24_b20 Φ s)
def W24_b22 (Φ:EP) (s:St):Prop:=
 J 88 .eql false 45 5 s fun s=>
 M 87 88 s fun s=>
 If 87 s (W24_b16 Φ s) (W24_b21 Φ s)
def W24_b23 (Φ:EP) (s:St):Prop:=
 J 79 .eql false 45 4 s fun s=>
 M 78 79 s fun s=>
 If 78 s (W24_b15 Φ s) (W24_b22 Φ s)
def W24_b24 (Φ:EP) (s:St):Prop:=
 J 71 .eql false 45 3 s fun s=>
 M 70 71 s fun s=>
 If 70 s (W24_b12 Φ s) (W24_b23 Φ s)
def W24_b25 (Φ:EP) (s:St):Prop:=
 J 62 .eql false 45 2 s fun s=>
 M 61 62 s fun s=>
 If 61 s (W24_b10 Φ s) (W24_b24 Φ s)
def W24_b26 (Φ:EP) (s:St):Prop:=
 J 53 .eql false 45 1 s fun s=>
 M 52 53 s fun s=>
 If 52 s (W24_b8 Φ s) (W24_b25 Φ s)
def W24_b28 (Φ:EP) (s:St):Prop:=
 M 44 1 s fun s=>
 Ca Tryz.prog 61 [(s.τ 44),(.int .i64 8)] 45 s fun s=>
 J 47 .eql false 45 0 s fun s=>
 M 46 47 s fun s=>
 If 46 s (W24_b6 Φ s) (W24_b26 Φ s)
def W24 (Φ:EP) (s:St):Prop:=
 Y 4 35 0 s fun s=>
 Z 8 35 z9 s fun s=>
 F 11 8 4 s fun s=>
 L 12 1 11 false s fun s=>
 N 13 12 s fun s=>
 J 14 .gtr false 13 0 s fun s=>
 M 15 14 s fun s=>
 gm 16 3 15 true s fun s=>
 @sGrd (guardOf (s.τ 15) true) (some 17) s ⟨fun s K=>@sCall Tryz.prog (.func 61 []) [(s.τ 16),(.int .i64 4)] (some 17) s ⟨K⟩⟩<|.mk fun s=>
 go 18 15 true s (fun s=>(xBin .gtr false (s.τ 17) (.int .i64 0) s.H)) fun s=>
 A 19 15 18 s fun s=>
 If 19 s (W24_b3 Φ s) (W24_b28 Φ s)
theorem W24_rs (τ:Nat → AV) (H:Heap):resV Tryz.prog τ H [.cell 8 35] = rdV H 9 true (τ 8):=by kernel_rfl
theorem W24_eq:EqW Tryz.prog Tryz.f24 W24:=fun _ _=>by kernel_rfl
theorem W24_S:SpW Tryz.prog 24 113 [.cell 8 35] W24:=spW Tryz.func24 Tryz.ntmps24 W24_eq
-- 29 "penance/penancelaw3.size"
def W29_b1 (Φ:EP) (s:St):Prop:=
 I 4 1000 s fun s=>
 Φ .ret s
def W29_k2 (Φ:EP) (s:St):Prop:=
 M 36 5 s fun s=>
 M 4 36 s fun s=>
 Φ .ret s
def W29_b4 (Φ:EP) (L0:SP) (s:St):Prop:=
 M 26 5 s fun s=>
 F 27 4 2 s fun s=>
 L 28 1 27 false s fun s=>
 M 29 6 s fun s=>
 X 30 5 28 29 s fun s=>
 L 31 5 30 true s fun s=>
 M 32 1 s fun s=>
 J 33 .add false 32 1 s fun s=>
 Ca Tryz.prog 29 [(s.τ 31),(s.τ 33)] 34 s fun s=>
 B 35 .add false 26 34 s fun s=>
 M 5 35 s fun s=>
 M 24 6 s fun s=>
 J 25 .add false 24 1 s fun s=>
 M 6 25 s fun s=>
 L0 s
def W29_l7 (Φ:EP) (L0:SP) (s:St):Prop:=
 M 15 6 s fun s=>
 F 16 4 2 s fun s=>
 L 17 1 16 false s fun s=>
 N 18 17 s fun s=>
 B 19 .lss false 15 18 s fun s=>
 M 20 19 s fun s=>
 gm 21 5 20 true s fun s=>
 go 22 20 true s (fun s=>(xBin .leq false (s.τ 21) (.int .i64 40) s.H)) fun s=>
 A 23 20 22 s fun s=>
 If 23 s (W29_b4 Φ L0 s) (W29_k2 Φ s)
def W29_b8 (Φ:EP) (s:St):Prop:=
 I 5 1 s fun s=>
 I 6 0 s fun s=>
 @sLoop s ⟨fun L0 s=>W29_l7 Φ L0 s⟩
def W29 (Φ:EP) (s:St):Prop:=
 Y 2 69 0 s fun s=>
 I 4 0 s fun s=>
 M 7 1 s fun s=>
 J 8 .gtr false 7 8 s fun s=>
 M 9 8 s fun s=>
 gf 10 3 2 9 false s fun s=>
 gl 11 1 10 9 false false s fun s=>
 @sGrd (guardOf (s.τ 9) false) (some 12) s ⟨fun s K=>@sCall Tryz.prog (.func 64 []) [(s.τ 11)] (some 12) s ⟨K⟩⟩<|.mk fun s=>
 go 13 9 false s (fun s=>(xNot (s.τ 12) s.H)) fun s=>
 O 14 9 13 s fun s=>
 If 14 s (W29_b1 Φ s) (W29_b8 Φ s)
theorem W29_rs (τ:Nat → AV) (H:Heap):resV Tryz.prog τ H [.tmp 4] = some (τ 4):=by kernel_rfl
theorem W29_eq:EqW Tryz.prog Tryz.f29 W29:=fun _ _=>by kernel_rfl
theorem W29_S:SpW Tryz.prog 29 37 [.tmp 4] W29:=spW Tryz.func29 Tryz.ntmps29 W29_eq
end Go.Proofs.YtnngddgaobhkiaaGreat
set_option maxRecDepth 100000
namespace Go.Proofs.YtnngddgaobhkiaaGreat
open Go Go.Am
-- 30 "penance/penanceref4.Lower"
def W30_b1 (Φ:EP) (s:St):Prop:=
 Bd 26 [.nils,.int .i64 0,.nils,.int .i64 0] [] s fun s=>
 U 4 2 26 s fun s=>
 I 3 3 s fun s=>
 Φ .ret s
def W30_b2 (Φ:EP) (s:St):Prop:=
 Bd 43 [.nils,.int .i64 0,.nils,.int .i64 0] [] s fun s=>
 U 4 2 43 s fun s=>
 I 3 5 s fun s=>
 Φ .ret s
def W30_b3 (Φ:EP) (s:St):Prop:=
 Bd 99 [.nils,.int .i64 0,.nils,.int .i64 0] [] s fun s=>
 U 4 2 99 s fun s=>
 I 3 4 s fun s=>
 Φ .ret s
def W30_b4 (Φ:EP) (s:St):Prop:=
 Bd 104 [.nils,.int .i64 0,.nils,.int .i64 0] [] s fun s=>
 U 4 2 104 s fun s=>
 I 3 6 s fun s=>
 Φ .ret s
def W30_b5 (Φ:EP) (s:St):Prop:=
 Bd 108 [.nils,.int .i64 0,.nils,.int .i64 0] [] s fun s=>
 U 4 2 108 s fun s=>
 I 3 7 s fun s=>
 Φ .ret s
def W30_b6 (Φ:EP) (s:St):Prop:=
 L 109 4 7 true s fun s=>
 U 4 2 109 s fun s=>
 I 3 0 s fun s=>
 Φ .ret s
def W30_b8 (Φ:EP) (s:St):Prop:=
 L 106 3 1 true s fun s=>
 Ca Tryz.prog 69 [(s.τ 106)] 107 s fun s=>
 M 105 107 s fun s=>
 If 105 s (W30_b5 Φ s) (W30_b6 Φ s)
def W30_b9 (Φ:EP) (s:St):Prop:=
 F 101 3 7 s fun s=>
 L 102 1 101 false s fun s=>
 J 103 .lss false 102 0 s fun s=>
 M 100 103 s fun s=>
 If 100 s (W30_b4 Φ s) (W30_b8 Φ s)
def W30_k10 (Φ:EP) (s:St):Prop:=
 M 95 6 s fun s=>
 @sOp (some 96) (xNil (s.τ 95) s.H) s<|.mk fun s=>
 F 97 3 96 s fun s=>
 L 98 1 97 false s fun s=>
 M 94 98 s fun s=>
 If 94 s (W30_b3 Φ s) (W30_b9 Φ s)
def W30_b12 (Φ:EP) (L0:SP) (s:St):Prop:=
 F 81 2 7 s fun u1=>
 L 82 1 81 false u1 fun u2=>
 M 83 6 u2 fun u3=>
 F 84 2 1 u3 fun u4=>
 L 85 1 84 false u4 fun u5=>
 M 86 9 u5 fun u6=>
 X 87 9 85 86 u6 fun u7=>
 F 88 1 87 u7 fun u8=>
 L 89 8 88 true u8 fun u9=>
 k3 (s.τ 7) (cfp 90 68 [(u9.τ 83),(u9.τ 89)]) <|
 k3 (u1.τ 81) (cfp 90 68 [(u9.τ 83),(u9.τ 89)]) <|
 C0 Tryz.prog 68 [(u9.τ 83),(u9.τ 89)] 90 u9 fun u10=>
 k3 (s.τ 7) ([91] ++ occL [(u10.τ 90)],[91] ++ occL [(u10.τ 90)]) <|
 k3 (u1.τ 81) ([91] ++ occL [(u10.τ 90)],[91] ++ occL [(u10.τ 90)]) <|
 Lt 91 9 1 z9 [(0,(u10.τ 90))] u10 fun u11=>
 @sOp (some 92) (xApp Tryz.prog 35 9 120 (some 92) (u11.τ 82) (u11.τ 91) u11.H) u11<|.mk fun u12=>
 F 93 2 7 u12 fun u13=>
 U 1 93 92 u13 fun s=>
 M 79 9 s fun s=>
 J 80 .add false 79 1 s fun s=>
 M 9 80 s fun s=>
 L0 s
def W30_l13 (Φ:EP) (L0:SP) (s:St):Prop:=
 M 74 9 s fun s=>
 F 75 2 1 s fun s=>
 L 76 1 75 false s fun s=>
 N 77 76 s fun s=>
 B 78 .lss false 74 77 s fun s=>
 If 78 s (W30_b12 Φ L0 s) (W30_k10 Φ s)
def W30_k14 (Φ:EP) (s:St):Prop:=
 I 9 0 s fun s=>
 @sLoop s ⟨fun L0 s=>W30_l13 Φ L0 s⟩
def W30_b15 (Φ:EP) (L0:SP) (s:St):Prop:=
 F 63 0 7 s fun u1=>
 L 64 1 63 false u1 fun u2=>
 F 65 0 1 u2 fun u3=>
 L 66 1 65 false u3 fun u4=>
 M 67 8 u4 fun u5=>
 X 68 2 66 67 u5 fun u6=>
 F 69 1 68 u6 fun u7=>
 L 70 1 69 false u7 fun u8=>
 k3 (s.τ 7) ([71] ++ occL [(u8.τ 70)],[71] ++ occL [(u8.τ 70)]) <|
 k3 (u1.τ 63) ([71] ++ occL [(u8.τ 70)],[71] ++ occL [(u8.τ 70)]) <|
 Lt 71 1 1 [.int .i64 0] [(0,(u8.τ 70))] u8 fun u9=>
 @sOp (some 72) (xApp Tryz.prog 3 1 8 (some 72) (u9.τ 64) (u9.τ 71) u9.H) u9<|.mk fun u10=>
 F 73 0 7 u10 fun u11=>
 U 1 73 72 u11 fun s=>
 M 61 8 s fun s=>
 J 62 .add false 61 1 s fun s=>
 M 8 62 s fun s=>
 L0 s
def W30_l16 (Φ:EP) (L0:SP) (s:St):Prop:=
 M 56 8 s fun s=>
 F 57 0 1 s fun s=>
 L 58 1 57 false s fun s=>
 N 59 58 s fun s=>
 B 60 .lss false 56 59 s fun s=>
 If 60 s (W30_b15 Φ L0 s) (W30_k14 Φ s)
def W30_b18 (Φ:EP) (s:St):Prop:=
 M 44 4 s fun s=>
 F 45 1 1 s fun s=>
 L 46 1 45 false s fun s=>
 M 47 5 s fun s=>
 Bd 48 [.nils,.nils,.nils,.bool false] [(0,1,(s.τ 44)),(1,1,(s.τ 46)),(2,1,(s.τ 47))] s fun s=>
 Y 49 118 48 s fun s=>
 M 6 49 s fun s=>
 F 50 1 1 s fun u1=>
 L 51 1 50 false u1 fun u2=>
 N 52 51 u2 fun u3=>
 M 53 5 u3 fun u4=>
 k3 (s.τ 1) ([54] ++ withM (occ (.func 67 []) ++ occL [(u4.τ 53),(.str ⟨#[109,97,105,110]⟩)]),[54] ++ withM (occ (.func 67 []) ++ occL [(u4.τ 53),(.str ⟨#[109,97,105,110]⟩)])) <|
 k3 (u1.τ 50) ([54] ++ withM (occ (.func 67 []) ++ occL [(u4.τ 53),(.str ⟨#[109,97,105,110]⟩)]),[54] ++ withM (occ (.func 67 []) ++ occL [(u4.τ 53),(.str ⟨#[109,97,105,110]⟩)])) <|
 k3 (u2.τ 51) ([54] ++ withM (occ (.func 67 []) ++ occL [(u4.τ 53),(.str ⟨#[109,97,105,110]⟩)]),[54] ++ withM (occ (.func 67 []) ++ occL [(u4.τ 53),(.str ⟨#[109,97,105,110]⟩)])) <|
 C0 Tryz.prog 67 [(u4.τ 53),(.str ⟨#[109,97,105,110]⟩)] 54 u4 fun u5=>
 Bd 55 [.nils,.int .i64 0,.nils,.int .i64 0] [(1,1,(u5.τ 52)),(3,1,(u5.τ 54))] u5 fun u6=>
 k1 (s.τ 1) 7 <|
 k1 (u1.τ 50) 7 <|
 k1 (u2.τ 51) 7 <|
 k2 ([54] ++ withM (occ (.func 67 []) ++ occL [(u4.τ 53),(.str ⟨#[109,97,105,110]⟩)]),[54] ++ withM (occ (.func 67 []) ++ occL [(u4.τ 53),(.str ⟨#[109,97,105,110]⟩)])) 7 <|
 Z 7 29 [.nils,.int .i64 0,.nils,.int .i64 0] u6 fun u7=>
 U 4 7 55 u7 fun s=>
 I 8 0 s fun s=>
 @sLoop s ⟨fun L0 s=>W30_l16 Φ L0 s⟩
def W30_b26 (Φ:EP) (s:St):Prop:=
 L 28 3 1 true s fun s=>
 Ca Tryz.prog 65 [(s.τ 28)] 29 s fun s=>
 M 27 29 s fun s=>
 E 30 27 0 s fun s=>
 E 31 27 1 s fun s=>
 M 4 30 s fun s=>
 M 5 31 s fun s=>
 M 32 4 s fun s=>
 Ca Tryz.prog 66 [(s.τ 32)] 33 s fun s=>
 M 34 33 s fun s=>
 gf 35 1 1 34 false s fun s=>
 gl 36 1 35 34 false false s fun s=>
 @sGrd (guardOf (s.τ 34) false) (some 37) s ⟨fun s K=>@sCall Tryz.prog (.func 66 []) [(s.τ 36)] (some 37) s ⟨K⟩⟩<|.mk fun s=>
 O 38 34 37 s fun s=>
 M 39 38 s fun s=>
 gm 40 5 39 false s fun s=>
 @sGrd (guardOf (s.τ 39) false) (some 41) s ⟨fun s K=>@sCall Tryz.prog (.func 66 []) [(s.τ 40)] (some 41) s ⟨K⟩⟩<|.mk fun s=>
 O 42 39 41 s fun s=>
 If 42 s (W30_b2 Φ s) (W30_b18 Φ s)
def W30 (Φ:EP) (s:St):Prop:=
 Y 1 76 0 s fun s=>
 Z 2 29 [.nils,.int .i64 0,.nils,.int .i64 0] s fun s=>
 I 3 0 s fun s=>
 F 10 0 1 s fun s=>
 L 11 1 10 false s fun s=>
 N 12 11 s fun s=>
 J 13 .gtr false 12 20 s fun s=>
 M 14 13 s fun s=>
 gf 15 1 1 14 false s fun s=>
 gl 16 1 15 14 false false s fun s=>
 go 17 14 false s (fun s=>(xLen (s.τ 16) s.H)) fun s=>
 go 18 14 false s (fun s=>(xBin .gtr false (s.τ 17) (.int .i64 10) s.H)) fun s=>
 O 19 14 18 s fun s=>
 M 20 19 s fun s=>
 gf 21 2 1 20 false s fun s=>
 gl 22 1 21 20 false false s fun s=>
 go 23 20 false s (fun s=>(xLen (s.τ 22) s.H)) fun s=>
 go 24 20 false s (fun s=>(xBin .gtr false (s.τ 23) (.int .i64 20) s.H)) fun s=>
 O 25 20 24 s fun s=>
 If 25 s (W30_b1 Φ s) (W30_b26 Φ s)
theorem W30_rs (τ:Nat → AV) (H:Heap):resV Tryz.prog τ H [.cell 2 29,.tmp 3] = ob (ob (rdV H 4 true (τ 2)) fun v=>ob (ob (some (τ 3)) fun v=>ob (some []) fun vs=>some (v :: vs)) fun vs=>some (v :: vs)) fun vs=>some (.tup vs):=by kernel_rfl
theorem W30_eq:EqW Tryz.prog Tryz.f30 W30:=fun _ _=>by kernel_rfl
theorem W30_S:SpW Tryz.prog 30 110 [.cell 2 29,.tmp 3] W30:=spW Tryz.func30 Tryz.ntmps30 W30_eq
-- 31 "(penance/penancelaw3.Shape).Make"
def W31_k1 (Φ:EP) (s:St):Prop:=
 L 57 3 3 true s fun s=>
 U 3 2 57 s fun s=>
 Φ .ret s
def W31_k2 (Φ:EP) (L0:SP) (s:St):Prop:=
 F 51 2 3 s fun s=>
 L 52 1 51 false s fun s=>
 L 53 9 6 true s fun s=>
 Lt 54 9 1 [.str ⟨#[]⟩,.int .i64 0,.str ⟨#[]⟩,.str ⟨#[]⟩,.int .i64 0,.int .i64 0,.str ⟨#[]⟩,.nils,.nils] [(0,(s.τ 53))] s fun s=>
 @sOp (some 55) (xApp Tryz.prog 82 9 136 (some 55) (s.τ 52) (s.τ 54) s.H) s<|.mk fun s=>
 F 56 2 3 s fun s=>
 U 1 56 55 s fun s=>
 M 32 5 s fun s=>
 J 33 .add false 32 1 s fun s=>
 M 5 33 s fun s=>
 L0 s
def W31_b4 (Φ:EP) (L0:SP) (s:St):Prop:=
 F 44 2 1 s fun s=>
 L 45 1 44 false s fun s=>
 M 46 5 s fun s=>
 X 47 5 45 46 s fun s=>
 L 48 5 47 true s fun s=>
 Ca Tryz.prog 74 [(s.τ 48),(.int .i64 0)] 49 s fun s=>
 F 50 1 6 s fun s=>
 U 8 50 49 s fun s=>
 W31_k2 Φ L0 s
def W31_b6 (Φ:EP) (L0:SP) (s:St):Prop:=
 Ca Tryz.prog 73 [] 34 s fun s=>
 M 35 5 s fun s=>
 X 36 1 34 35 s fun s=>
 L 37 1 36 false s fun s=>
 Bd 38 [.str ⟨#[]⟩,.int .i64 0,.str ⟨#[]⟩,.str ⟨#[]⟩,.int .i64 0,.int .i64 0,.str ⟨#[]⟩,.nils,.nils] [(0,1,(s.τ 37))] s fun s=>
 Z 6 82 [.str ⟨#[]⟩,.int .i64 0,.str ⟨#[]⟩,.str ⟨#[]⟩,.int .i64 0,.int .i64 0,.str ⟨#[]⟩,.nils,.nils] s fun s=>
 U 9 6 38 s fun s=>
 M 39 5 s fun s=>
 F 40 2 1 s fun s=>
 L 41 1 40 false s fun s=>
 N 42 41 s fun s=>
 B 43 .lss false 39 42 s fun s=>
 If 43 s (W31_b4 Φ L0 s) (W31_k2 Φ L0 s)
def W31_l7 (Φ:EP) (L0:SP) (s:St):Prop:=
 M 30 5 s fun s=>
 J 31 .lss false 30 5 s fun s=>
 If 31 s (W31_b6 Φ L0 s) (W31_k1 Φ s)
def W31_k8 (Φ:EP) (s:St):Prop:=
 I 5 0 s fun s=>
 @sLoop s ⟨fun L0 s=>W31_l7 Φ L0 s⟩
def W31_b11 (Φ:EP) (L0:SP) (s:St):Prop:=
 F 13 0 3 s fun u1=>
 L 14 1 13 false u1 fun u2=>
 k3 (s.τ 3) (cfp 15 71 []) <|
 k3 (u1.τ 13) (cfp 15 71 []) <|
 C0 Tryz.prog 71 [] 15 u2 fun u3=>
 M 16 4 u3 fun u4=>
 X 17 1 15 16 u4 fun u5=>
 L 18 1 17 false u5 fun u6=>
 @sChk (compat (cfp 15 71 []) (occ (u6.τ 1),[])) <| .mk <|
 F 19 0 1 u6 fun u7=>
 @sChk (compat (cfp 15 71 []) (occ (u7.τ 19),[])) <| .mk <|
 L 20 1 19 false u7 fun u8=>
 M 21 4 u8 fun u9=>
 J 22 .add false 21 1 u9 fun u10=>
 B 23 .quo false 20 22 u10 fun u11=>
 k3 (s.τ 3) (cfp 24 72 [(u11.τ 23),(.int .i64 9)]) <|
 k3 (u1.τ 13) (cfp 24 72 [(u11.τ 23),(.int .i64 9)]) <|
 k3 (u4.τ 15) (cfp 24 72 [(u11.τ 23),(.int .i64 9)]) <|
 k3 (u5.τ 17) (cfp 24 72 [(u11.τ 23),(.int .i64 9)]) <|
 C0 Tryz.prog 72 [(u11.τ 23),(.int .i64 9)] 24 u11 fun u12=>
 J 25 .sub false 24 4 u12 fun u13=>
 Bd 26 [.str ⟨#[]⟩,.int .i64 0] [(0,1,(u13.τ 18)),(1,1,(u13.τ 25))] u13 fun u14=>
 k3 (s.τ 3) ([27] ++ occL [(u14.τ 26)],[27] ++ occL [(u14.τ 26)]) <|
 k3 (u1.τ 13) ([27] ++ occL [(u14.τ 26)],[27] ++ occL [(u14.τ 26)]) <|
 Lt 27 2 1 [.str ⟨#[]⟩,.int .i64 0] [(0,(u14.τ 26))] u14 fun u15=>
 @sOp (some 28) (xApp Tryz.prog 121 2 24 (some 28) (u15.τ 14) (u15.τ 27) u15.H) u15<|.mk fun u16=>
 F 29 0 3 u16 fun u17=>
 U 1 29 28 u17 fun s=>
 M 11 4 s fun s=>
 J 12 .add false 11 1 s fun s=>
 M 4 12 s fun s=>
 L0 s
def W31_l12 (Φ:EP) (L0:SP) (s:St):Prop:=
 M 9 4 s fun s=>
 J 10 .lss false 9 3 s fun s=>
 If 10 s (W31_b11 Φ L0 s) (W31_k8 Φ s)
def W31 (Φ:EP) (s:St):Prop:=
 Y 1 24 0 s fun s=>
 Z 2 76 [.nils,.nils,.nils] s fun s=>
 Ca Tryz.prog 70 [] 7 s fun s=>
 Bd 8 [.nils,.nils,.nils] [(1,1,(s.τ 7))] s fun s=>
 Z 3 76 [.nils,.nils,.nils] s fun s=>
 U 3 3 8 s fun s=>
 I 4 0 s fun s=>
 @sLoop s ⟨fun L0 s=>W31_l12 Φ L0 s⟩
theorem W31_rs (τ:Nat → AV) (H:Heap):resV Tryz.prog τ H [.cell 2 76] = rdV H 3 true (τ 2):=by kernel_rfl
theorem W31_eq:EqW Tryz.prog Tryz.f31 W31:=fun _ _=>by kernel_rfl
theorem W31_S:SpW Tryz.prog 31 58 [.cell 2 76] W31:=spW Tryz.func31 Tryz.ntmps31 W31_eq
-- 32 "penance/term.Norm"
def W32_b2 (Φ:EP) (s:St):Prop:=
 F 26 8 1 s fun s=>
 L 27 1 26 false s fun s=>
 @sOp (some 28) (xIx 9 (s.τ 27) (.int .i64 1) s.H) s<|.mk fun s=>
 L 29 9 28 true s fun s=>
 Ca Tryz.prog 32 [(s.τ 29)] 30 s fun s=>
 U 9 2 30 s fun s=>
 Φ .ret s
def W32_b4 (Φ:EP) (s:St):Prop:=
 L 31 9 4 true s fun u1=>
 F 32 8 1 u1 fun u2=>
 L 33 1 32 false u2 fun u3=>
 @sOp (some 34) (xIx 9 (u3.τ 33) (.int .i64 1) u3.H) u3<|.mk fun u4=>
 L 35 9 34 true u4 fun u5=>
 k3 (s.τ 4) (cfp 36 76 [(u5.τ 35)]) <|
 C0 Tryz.prog 76 [(u5.τ 35)] 36 u5 fun u6=>
 Lt 37 9 2 z9 [(0,(u6.τ 31)),(1,(u6.τ 36))] u6 fun u7=>
 Bd 38 z9 [(0,1,(.int .i64 12)),(8,1,(u7.τ 37))] u7 fun u8=>
 U 9 2 38 u8 fun s=>
 Φ .ret s
def W32_b7 (Φ:EP) (s:St):Prop:=
 F 18 8 1 s fun s=>
 L 19 1 18 false s fun s=>
 @sOp (some 20) (xIx 9 (s.τ 19) (.int .i64 0) s.H) s<|.mk fun s=>
 L 21 9 20 true s fun s=>
 Ca Tryz.prog 32 [(s.τ 21)] 22 s fun s=>
 Z 4 35 z9 s fun s=>
 U 9 4 22 s fun s=>
 M 23 3 s fun s=>
 L 24 9 4 true s fun s=>
 @sCall Tryz.prog (s.τ 23) [(s.τ 24)] (some 25) s<|.mk fun s=>
 If 25 s (W32_b2 Φ s) (W32_b4 Φ s)
def W32_b8 (Φ:EP) (s:St):Prop:=
 Bd 67 z9 [] s fun s=>
 U 9 2 67 s fun s=>
 Φ .ret s
def W32_b9 (Φ:EP) (s:St):Prop:=
 L 68 9 5 true s fun s=>
 L 69 9 6 true s fun s=>
 Lt 70 9 2 z9 [(0,(s.τ 68)),(1,(s.τ 69))] s fun s=>
 Bd 71 z9 [(0,1,(.int .i64 11)),(8,1,(s.τ 70))] s fun s=>
 U 9 2 71 s fun s=>
 Φ .ret s
def W32_b16 (Φ:EP) (s:St):Prop:=
 F 49 8 1 s fun u1=>
 L 50 1 49 false u1 fun u2=>
 @sOp (some 51) (xIx 9 (u2.τ 50) (.int .i64 0) u2.H) u2<|.mk fun u3=>
 L 52 9 51 true u3 fun u4=>
 C0 Tryz.prog 32 [(u4.τ 52)] 53 u4 fun u5=>
 @sChk (compat (cfp 53 32 [(u4.τ 52)]) (occ (u5.τ 1),[])) <| .mk <|
 F 54 8 1 u5 fun u6=>
 @sChk (compat (cfp 53 32 [(u4.τ 52)]) (occ (u6.τ 54),[])) <| .mk <|
 L 55 1 54 false u6 fun u7=>
 @sChk (compat (cfp 53 32 [(u4.τ 52)]) (occ (u7.τ 55),[])) <| .mk <|
 @sOp (some 56) (xIx 9 (u7.τ 55) (.int .i64 1) u7.H) u7<|.mk fun u8=>
 @sChk (compat (cfp 53 32 [(u4.τ 52)]) (occ (u8.τ 56),[])) <| .mk <|
 L 57 9 56 true u8 fun u9=>
 C0 Tryz.prog 32 [(u9.τ 57)] 58 u9 fun u10=>
 k1 (s.τ 1) 5 <|
 k1 (u1.τ 49) 5 <|
 k1 (u2.τ 50) 5 <|
 k1 (u3.τ 51) 5 <|
 k2 (cfp 53 32 [(u4.τ 52)]) 5 <|
 k1 (u5.τ 1) 5 <|
 k1 (u6.τ 54) 5 <|
 k1 (u7.τ 55) 5 <|
 k1 (u8.τ 56) 5 <|
 k2 (cfp 58 32 [(u9.τ 57)]) 5 <|
 Z 5 35 z9 u10 fun u11=>
 k1 (s.τ 1) 6 <|
 k1 (u1.τ 49) 6 <|
 k1 (u2.τ 50) 6 <|
 k1 (u3.τ 51) 6 <|
 k2 (cfp 53 32 [(u4.τ 52)]) 6 <|
 k1 (u5.τ 1) 6 <|
 k1 (u6.τ 54) 6 <|
 k1 (u7.τ 55) 6 <|
 k1 (u8.τ 56) 6 <|
 k2 (cfp 58 32 [(u9.τ 57)]) 6 <|
 k2 ([5],[5]) 6 <|
 Z 6 35 z9 u11 fun u12=>
 U 9 5 53 u12 fun u13=>
 U 9 6 58 u13 fun s=>
 M 59 3 s fun s=>
 L 60 9 5 true s fun s=>
 @sCall Tryz.prog (s.τ 59) [(s.τ 60)] (some 61) s<|.mk fun s=>
 M 62 61 s fun s=>
 gm 63 3 62 true s fun s=>
 gl 64 9 6 62 true true s fun s=>
 @sGrd (guardOf (s.τ 62) true) (some 65) s ⟨fun s K=>@sCall Tryz.prog (s.τ 63) [(s.τ 64)] (some 65) s ⟨K⟩⟩<|.mk fun s=>
 A 66 62 65 s fun s=>
 If 66 s (W32_b8 Φ s) (W32_b9 Φ s)
def W32_b17 (Φ:EP) (s:St):Prop:=
 Bd 90 z9 [] s fun s=>
 U 9 2 90 s fun s=>
 Φ .ret s
def W32_b18 (Φ:EP) (s:St):Prop:=
 L 91 9 7 true s fun s=>
 Lt 92 9 1 z9 [(0,(s.τ 91))] s fun s=>
 Bd 93 z9 [(0,1,(.int .i64 7)),(8,1,(s.τ 92))] s fun s=>
 U 9 2 93 s fun s=>
 Φ .ret s
def W32_b21 (Φ:EP) (s:St):Prop:=
 F 82 8 1 s fun s=>
 L 83 1 82 false s fun s=>
 @sOp (some 84) (xIx 9 (s.τ 83) (.int .i64 0) s.H) s<|.mk fun s=>
 L 85 9 84 true s fun s=>
 Ca Tryz.prog 32 [(s.τ 85)] 86 s fun s=>
 Z 7 35 z9 s fun s=>
 U 9 7 86 s fun s=>
 M 87 3 s fun s=>
 L 88 9 7 true s fun s=>
 @sCall Tryz.prog (s.τ 87) [(s.τ 88)] (some 89) s<|.mk fun s=>
 If 89 s (W32_b17 Φ s) (W32_b18 Φ s)
def W32_b23 (Φ:EP) (s:St):Prop:=
 L 94 9 1 true s fun s=>
 Ca Tryz.prog 76 [(s.τ 94)] 95 s fun s=>
 U 9 2 95 s fun s=>
 Φ .ret s
def W32_b28 (Φ:EP) (s:St):Prop:=
 F 73 0 1 s fun s=>
 L 74 1 73 false s fun s=>
 J 75 .eql false 74 7 s fun s=>
 M 76 75 s fun s=>
 gf 77 8 1 76 true s fun s=>
 gl 78 1 77 76 false true s fun s=>
 go 79 76 true s (fun s=>(xLen (s.τ 78) s.H)) fun s=>
 go 80 76 true s (fun s=>(xBin .eql false (s.τ 79) (.int .i64 1) s.H)) fun s=>
 A 81 76 80 s fun s=>
 M 72 81 s fun s=>
 If 72 s (W32_b21 Φ s) (W32_b23 Φ s)
def W32_b33 (Φ:EP) (s:St):Prop:=
 F 40 0 1 s fun s=>
 L 41 1 40 false s fun s=>
 J 42 .eql false 41 11 s fun s=>
 M 43 42 s fun s=>
 gf 44 8 1 43 true s fun s=>
 gl 45 1 44 43 false true s fun s=>
 go 46 43 true s (fun s=>(xLen (s.τ 45) s.H)) fun s=>
 go 47 43 true s (fun s=>(xBin .eql false (s.τ 46) (.int .i64 2) s.H)) fun s=>
 A 48 43 47 s fun s=>
 M 39 48 s fun s=>
 If 39 s (W32_b16 Φ s) (W32_b28 Φ s)
def W32 (Φ:EP) (s:St):Prop:=
 Y 1 35 0 s fun s=>
 Z 2 35 z9 s fun s=>
 @sOp (some 3) (xMov (.func 75 []) s.H) s<|.mk fun s=>
 F 9 0 1 s fun s=>
 L 10 1 9 false s fun s=>
 J 11 .eql false 10 12 s fun s=>
 M 12 11 s fun s=>
 gf 13 8 1 12 true s fun s=>
 gl 14 1 13 12 false true s fun s=>
 go 15 12 true s (fun s=>(xLen (s.τ 14) s.H)) fun s=>
 go 16 12 true s (fun s=>(xBin .eql false (s.τ 15) (.int .i64 2) s.H)) fun s=>
 A 17 12 16 s fun s=>
 M 8 17 s fun s=>
 If 8 s (W32_b7 Φ s) (W32_b33 Φ s)
theorem W32_rs (τ:Nat → AV) (H:Heap):resV Tryz.prog τ H [.cell 2 35] = rdV H 9 true (τ 2):=by kernel_rfl
theorem W32_eq:EqW Tryz.prog Tryz.f32 W32:=fun _ _=>by kernel_rfl
theorem W32_S:SpW Tryz.prog 32 96 [.cell 2 35] W32:=spW Tryz.func32 Tryz.ntmps32 W32_eq
-- 33 "slices.Clone[[]int,int]"
def W33_b1 (Φ:EP) (s:St):Prop:=
 @sOp (some 2) (xMov (.nils) s.H) s<|.mk fun s=>
 Φ .ret s
def W33_b2 (Φ:EP) (s:St):Prop:=
 @sOp (some 5) (xRow 5 3 1 0 [.int .i64 0] [] s.H) s<|.mk fun s=>
 M 6 0 s fun s=>
 @sOp (some 7) (xApp Tryz.prog 3 1 8 (some 7) (s.τ 5) (s.τ 6) s.H) s<|.mk fun s=>
 M 2 7 s fun s=>
 Φ .ret s
def W33 (Φ:EP) (s:St):Prop:=
 @sOp (some 2) (xMov (.nils) s.H) s<|.mk fun s=>
 M 3 0 s fun s=>
 @sNil false (s.τ 3) (some 4) s<|.mk fun s=>
 If 4 s (W33_b1 Φ s) (W33_b2 Φ s)
theorem W33_rs (τ:Nat → AV) (H:Heap):resV Tryz.prog τ H [.tmp 2] = some (τ 2):=by kernel_rfl
theorem W33_eq:EqW Tryz.prog Tryz.f33 W33:=fun _ _=>by kernel_rfl
theorem W33_S:SpW Tryz.prog 33 8 [.tmp 2] W33:=spW Tryz.func33 Tryz.ntmps33 W33_eq
-- 34 "penance/stacks.Merge"
def W34_k1 (Φ:EP) (s:St):Prop:=
 M 38 7 s fun s=>
 M 6 38 s fun s=>
 Φ .ret s
def W34_b2 (Φ:EP) (s:St):Prop:=
 M 23 7 s fun s=>
 M 24 2 s fun s=>
 M 25 7 s fun s=>
 M 26 1 s fun s=>
 M 27 7 s fun s=>
 M 28 2 s fun s=>
 X 29 1 27 28 s fun s=>
 L 30 1 29 false s fun s=>
 M 31 7 s fun s=>
 M 32 1 s fun s=>
 X 33 1 31 32 s fun s=>
 L 34 1 33 false s fun s=>
 @sOp (some 35) (xApp Tryz.prog 35 9 120 (some 35) (s.τ 30) (s.τ 34) s.H) s<|.mk fun s=>
 X 36 1 23 24 s fun s=>
 U 1 36 35 s fun s=>
 X 37 1 25 26 s fun s=>
 @sOp none (xStore 1 (s.τ 37) (.nils) s.H) s<|.mk fun s=>
 W34_k1 Φ s
def W34 (Φ:EP) (s:St):Prop:=
 @sOp (some 6) (xMov (.nils) s.H) s<|.mk fun s=>
 M 8 0 s fun s=>
 Ca Tryz.prog 77 [(s.τ 8)] 9 s fun s=>
 M 7 9 s fun s=>
 M 10 1 s fun s=>
 M 11 2 s fun s=>
 B 12 .neq false 10 11 s fun s=>
 M 13 12 s fun s=>
 gm 14 7 13 true s fun s=>
 gm 15 1 13 true s fun s=>
 @sGrd (guardOf (s.τ 13) true) (some 16) s ⟨fun s K=>@sCall Tryz.prog (.func 78 []) [(s.τ 14),(s.τ 15)] (some 16) s ⟨K⟩⟩<|.mk fun s=>
 A 17 13 16 s fun s=>
 M 18 17 s fun s=>
 gm 19 7 18 true s fun s=>
 gm 20 2 18 true s fun s=>
 @sGrd (guardOf (s.τ 18) true) (some 21) s ⟨fun s K=>@sCall Tryz.prog (.func 78 []) [(s.τ 19),(s.τ 20)] (some 21) s ⟨K⟩⟩<|.mk fun s=>
 A 22 18 21 s fun s=>
 If 22 s (W34_b2 Φ s) (W34_k1 Φ s)
theorem W34_rs (τ:Nat → AV) (H:Heap):resV Tryz.prog τ H [.tmp 6] = some (τ 6):=by kernel_rfl
theorem W34_eq:EqW Tryz.prog Tryz.f34 W34:=fun _ _=>by kernel_rfl
theorem W34_S:SpW Tryz.prog 34 39 [.tmp 6] W34:=spW Tryz.func34 Tryz.ntmps34 W34_eq
-- 38 "penance/term.Size"
def W38_k1 (Φ:EP) (s:St):Prop:=
 M 18 3 s fun s=>
 M 2 18 s fun s=>
 Φ .ret s
def W38_b3 (Φ:EP) (L0:SP) (s:St):Prop:=
 X 11 9 7 9 s fun s=>
 L 12 9 11 true s fun s=>
 Z 5 35 z9 s fun s=>
 U 9 5 12 s fun s=>
 M 13 3 s fun s=>
 L 14 9 5 true s fun s=>
 Ca Tryz.prog 38 [(s.τ 14)] 15 s fun s=>
 B 16 .add false 13 15 s fun s=>
 M 3 16 s fun s=>
 J 17 .add false 9 1 s fun s=>
 M 9 17 s fun s=>
 L0 s
def W38_l4 (Φ:EP) (L0:SP) (s:St):Prop:=
 B 10 .lss false 9 8 s fun s=>
 If 10 s (W38_b3 Φ L0 s) (W38_k1 Φ s)
def W38 (Φ:EP) (s:St):Prop:=
 Y 1 35 0 s fun s=>
 I 2 0 s fun s=>
 I 3 1 s fun s=>
 F 6 8 1 s fun s=>
 L 7 1 6 false s fun s=>
 N 8 7 s fun s=>
 I 9 0 s fun s=>
 @sLoop s ⟨fun L0 s=>W38_l4 Φ L0 s⟩
theorem W38_rs (τ:Nat → AV) (H:Heap):resV Tryz.prog τ H [.tmp 2] = some (τ 2):=by kernel_rfl
theorem W38_eq:EqW Tryz.prog Tryz.f38 W38:=fun _ _=>by kernel_rfl
theorem W38_S:SpW Tryz.prog 38 19 [.tmp 2] W38:=spW Tryz.func38 Tryz.ntmps38 W38_eq
-- 39 "penance/run.waits"
def W39_k1 (Φ:EP) (s:St):Prop:=
 @sOp none (xStore 1 (s.τ 2) (.bool false) s.H) s<|.mk fun s=>
 Φ .ret s
def W39_b2 (Φ:EP) (s:St):Prop:=
 @sOp none (xStore 1 (s.τ 2) (.bool true) s.H) s<|.mk fun s=>
 Φ .ret s
def W39_r3 (Φ:EP) (s:St):Prop:=
 Z 3 35 z9 s fun s=>
 U 9 3 6 s fun s=>
 F 7 0 3 s fun s=>
 L 8 1 7 false s fun s=>
 J 9 .eql false 8 14 s fun s=>
 @sIf (s.τ 9) ⟨W39_b2 Φ s⟩ ⟨Φ .normal s⟩
def W39 (Φ:EP) (s:St):Prop:=
 Y 1 35 0 s fun s=>
 Z 2 4 [.bool false] s fun s=>
 L 4 9 1 true s fun s=>
 Ca Tryz.prog 80 [(s.τ 4)] 5 s fun s=>
 @sRange Tryz.prog (s.τ 5) [6] s ⟨fun Φ s=>W39_r3 Φ s⟩ ⟨(blkK 0 (thenK (W39_k1 Φ) Φ))⟩
theorem W39_rs (τ:Nat → AV) (H:Heap):resV Tryz.prog τ H [.cell 2 4] = rdV H 1 false (τ 2):=by kernel_rfl
theorem W39_eq:EqW Tryz.prog Tryz.f39 W39:=fun _ _=>by kernel_rfl
theorem W39_S:SpW Tryz.prog 39 10 [.cell 2 4] W39:=spW Tryz.func39 Tryz.ntmps39 W39_eq
-- 40 "penance/term.Right"
def W40 (Φ:EP) (s:St):Prop:=
 Y 4 35 0 s fun s=>
 V 8 false s fun s=>
 M 9 1 s fun s=>
 M 10 2 s fun s=>
 M 11 3 s fun s=>
 Bd 12 [.int .i64 0,.int .i64 0,.int .i64 0] [(0,1,(s.τ 9)),(1,1,(s.τ 10)),(2,1,(s.τ 11))] s fun s=>
 L 13 9 4 true s fun s=>
 Ca Tryz.prog 81 [(s.τ 12),(s.τ 13),(.bool false)] 14 s fun s=>
 M 8 14 s fun s=>
 Φ .ret s
theorem W40_rs (τ:Nat → AV) (H:Heap):resV Tryz.prog τ H [.tmp 8] = some (τ 8):=by kernel_rfl
theorem W40_eq:EqW Tryz.prog Tryz.f40 W40:=fun _ _=>by kernel_rfl
theorem W40_S:SpW Tryz.prog 40 15 [.tmp 8] W40:=spW Tryz.func40 Tryz.ntmps40 W40_eq
-- 41 "penance/run.own"
def W41 (Φ:EP) (s:St):Prop:=
 Y 1 38 0 s fun s=>
 Z 2 38 z13 s fun s=>
 F 3 0 1 s fun u1=>
 L 4 9 3 true u1 fun u2=>
 C0 Tryz.prog 32 [(u2.τ 4)] 5 u2 fun u3=>
 @sChk (compat (cfp 5 32 [(u2.τ 4)]) (occ (u3.τ 1),[])) <| .mk <|
 F 6 9 1 u3 fun u4=>
 @sChk (compat (cfp 5 32 [(u2.τ 4)]) (occ (u4.τ 6),[])) <| .mk <|
 L 7 1 6 false u4 fun u5=>
 C0 Tryz.prog 33 [(u5.τ 7)] 8 u5 fun u6=>
 @sChk (compat (cfp 5 32 [(u2.τ 4)]) (occ (u6.τ 1),[])) <| .mk <|
 @sChk (compat (cfp 8 33 [(u5.τ 7)]) (occ (u6.τ 1),[])) <| .mk <|
 F 9 10 1 u6 fun u7=>
 @sChk (compat (cfp 5 32 [(u2.τ 4)]) (occ (u7.τ 9),[])) <| .mk <|
 @sChk (compat (cfp 8 33 [(u5.τ 7)]) (occ (u7.τ 9),[])) <| .mk <|
 L 10 1 9 false u7 fun u8=>
 C0 Tryz.prog 34 [(u8.τ 10),(.int .i64 0),(.int .i64 0)] 11 u8 fun u9=>
 @sChk (compat (cfp 8 33 [(u5.τ 7)]) (occ (u9.τ 1),[])) <| .mk <|
 @sChk (compat (cfp 11 34 [(u8.τ 10),(.int .i64 0),(.int .i64 0)]) (occ (u9.τ 1),[])) <| .mk <|
 F 12 0 1 u9 fun u10=>
 U 9 12 5 u10 fun u11=>
 F 13 9 1 u11 fun u12=>
 U 1 13 8 u12 fun u13=>
 F 14 10 1 u13 fun u14=>
 U 1 14 11 u14 fun s=>
 L 15 13 1 true s fun s=>
 U 13 2 15 s fun s=>
 Φ .ret s
theorem W41_rs (τ:Nat → AV) (H:Heap):resV Tryz.prog τ H [.cell 2 38] = rdV H 13 true (τ 2):=by kernel_rfl
theorem W41_eq:EqW Tryz.prog Tryz.f41 W41:=fun _ _=>by kernel_rfl
theorem W41_S:SpW Tryz.prog 41 16 [.cell 2 38] W41:=spW Tryz.func41 Tryz.ntmps41 W41_eq
-- 42 "penance/run.waiting"
def W42_b1 (Φ:EP) (s:St):Prop:=
 F 14 1 2 s fun s=>
 L 15 1 14 false s fun s=>
 M 16 1 s fun s=>
 B 17 .eql false 15 16 s fun s=>
 @sOp (some 4) (xMov (.nils) s.H) s<|.mk fun s=>
 M 5 17 s fun s=>
 Φ .ret s
def W42_b2 (Φ:EP) (s:St):Prop:=
 @sOp (some 4) (xMov (.nils) s.H) s<|.mk fun s=>
 V 5 false s fun s=>
 Φ .ret s
def W42_k3 (Φ:EP) (s:St):Prop:=
 @sOp (some 4) (xMov (.nils) s.H) s<|.mk fun s=>
 V 5 false s fun s=>
 Φ .ret s
def W42_b4 (Φ:EP) (L0:SP) (s:St):Prop:=
 M 54 6 s fun s=>
 @sOp (some 55) (xRow 55 3 1 1 [.int .i64 0] [(0,(s.τ 54))] s.H) s<|.mk fun s=>
 M 56 8 s fun s=>
 @sOp (some 57) (xApp Tryz.prog 3 1 8 (some 57) (s.τ 55) (s.τ 56) s.H) s<|.mk fun s=>
 M 4 57 s fun s=>
 V 5 true s fun s=>
 Φ .ret s
def W42_b5 (Φ:EP) (L0:SP) (s:St):Prop:=
 J 58 .add false 35 1 s fun s=>
 M 35 58 s fun s=>
 L0 s
def W42_b7 (Φ:EP) (L0:SP) (s:St):Prop:=
 L 48 9 7 true s fun s=>
 M 49 1 s fun s=>
 Ca Tryz.prog 42 [(s.τ 48),(s.τ 49)] 50 s fun s=>
 M 47 50 s fun s=>
 E 51 47 0 s fun s=>
 E 52 47 1 s fun s=>
 M 8 51 s fun s=>
 M 9 52 s fun s=>
 M 53 9 s fun s=>
 If 53 s (W42_b4 Φ L0 s) (W42_b5 Φ L0 s)
def W42_b11 (Φ:EP) (L0:SP) (s:St):Prop:=
 M 37 35 s fun s=>
 X 38 9 33 35 s fun s=>
 L 39 9 38 true s fun s=>
 Z 7 35 z9 s fun s=>
 M 6 37 s fun s=>
 U 9 7 39 s fun s=>
 M 40 6 s fun s=>
 J 41 .gtr false 40 0 s fun s=>
 M 42 41 s fun s=>
 gf 43 0 2 42 true s fun s=>
 gl 44 1 43 42 false true s fun s=>
 go 45 42 true s (fun s=>(xBin .eql false (s.τ 44) (.int .i64 12) s.H)) fun s=>
 A 46 42 45 s fun s=>
 If 46 s (W42_k3 Φ s) (W42_b7 Φ L0 s)
def W42_l12 (Φ:EP) (L0:SP) (s:St):Prop:=
 B 36 .lss false 35 34 s fun s=>
 If 36 s (W42_b11 Φ L0 s) (W42_k3 Φ s)
def W42_b13 (Φ:EP) (s:St):Prop:=
 F 32 8 2 s fun s=>
 L 33 1 32 false s fun s=>
 N 34 33 s fun s=>
 I 35 0 s fun s=>
 @sLoop s ⟨fun L0 s=>W42_l12 Φ L0 s⟩
def W42_b20 (Φ:EP) (s:St):Prop:=
 F 19 0 2 s fun s=>
 L 20 1 19 false s fun s=>
 J 21 .neq false 20 12 s fun s=>
 M 22 21 s fun s=>
 gf 23 0 2 22 true s fun s=>
 gl 24 1 23 22 false true s fun s=>
 go 25 22 true s (fun s=>(xBin .neq false (s.τ 24) (.int .i64 11) s.H)) fun s=>
 A 26 22 25 s fun s=>
 M 27 26 s fun s=>
 gf 28 0 2 27 true s fun s=>
 gl 29 1 28 27 false true s fun s=>
 go 30 27 true s (fun s=>(xBin .neq false (s.τ 29) (.int .i64 7) s.H)) fun s=>
 A 31 27 30 s fun s=>
 M 18 31 s fun s=>
 If 18 s (W42_b2 Φ s) (W42_b13 Φ s)
def W42 (Φ:EP) (s:St):Prop:=
 Y 2 35 0 s fun s=>
 @sOp (some 4) (xMov (.nils) s.H) s<|.mk fun s=>
 V 5 false s fun s=>
 F 11 0 2 s fun s=>
 L 12 1 11 false s fun s=>
 J 13 .eql false 12 14 s fun s=>
 M 10 13 s fun s=>
 If 10 s (W42_b1 Φ s) (W42_b20 Φ s)
theorem W42_rs (τ:Nat → AV) (H:Heap):resV Tryz.prog τ H [.tmp 4,.tmp 5] = ob (ob (some (τ 4)) fun v=>ob (ob (some (τ 5)) fun v=>ob (some []) fun vs=>some (v :: vs)) fun vs=>some (v :: vs)) fun vs=>some (.tup vs):=by kernel_rfl
theorem W42_eq:EqW Tryz.prog Tryz.f42 W42:=fun _ _=>by kernel_rfl
theorem W42_S:SpW Tryz.prog 42 59 [.tmp 4,.tmp 5] W42:=spW Tryz.func42 Tryz.ntmps42 W42_eq
-- 43 "penance/run.at"
def W43_k1 (Φ:EP) (s:St):Prop:=
 L 19 9 2 true s fun s=>
 U 9 4 19 s fun s=>
 Φ .ret s
def W43_b2 (Φ:EP) (L0:SP) (s:St):Prop:=
 X 11 1 7 9 s fun s=>
 L 12 1 11 false s fun s=>
 M 6 12 s fun s=>
 F 13 8 2 s fun s=>
 L 14 1 13 false s fun s=>
 M 15 6 s fun s=>
 X 16 9 14 15 s fun s=>
 L 17 9 16 true s fun s=>
 U 9 2 17 s fun s=>
 J 18 .add false 9 1 s fun s=>
 M 9 18 s fun s=>
 L0 s
def W43_l3 (Φ:EP) (L0:SP) (s:St):Prop:=
 B 10 .lss false 9 8 s fun s=>
 If 10 s (W43_b2 Φ L0 s) (W43_k1 Φ s)
def W43 (Φ:EP) (s:St):Prop:=
 Y 2 35 0 s fun s=>
 Z 4 35 z9 s fun s=>
 M 7 1 s fun s=>
 N 8 7 s fun s=>
 I 9 0 s fun s=>
 @sLoop s ⟨fun L0 s=>W43_l3 Φ L0 s⟩
theorem W43_rs (τ:Nat → AV) (H:Heap):resV Tryz.prog τ H [.cell 4 35] = rdV H 9 true (τ 4):=by kernel_rfl
theorem W43_eq:EqW Tryz.prog Tryz.f43 W43:=fun _ _=>by kernel_rfl
theorem W43_S:SpW Tryz.prog 43 20 [.cell 4 35] W43:=spW Tryz.func43 Tryz.ntmps43 W43_eq
-- 44 "penance/run.put"
def W44_b1 (Φ:EP) (s:St):Prop:=
 L 11 9 5 true s fun s=>
 U 9 6 11 s fun s=>
 Φ .ret s
def W44_b4 (Φ:EP) (s:St):Prop:=
 F 12 8 3 s fun s=>
 L 13 1 12 false s fun s=>
 Ca Tryz.prog 82 [(s.τ 13)] 14 s fun s=>
 M 7 14 s fun s=>
 M 15 7 s fun u1=>
 M 16 1 u1 fun u2=>
 @sOp (some 17) (xIx 1 (u2.τ 16) (.int .i64 0) u2.H) u2<|.mk fun u3=>
 L 18 1 17 false u3 fun u4=>
 M 19 7 u4 fun u5=>
 M 20 1 u5 fun u6=>
 @sOp (some 21) (xIx 1 (u6.τ 20) (.int .i64 0) u6.H) u6<|.mk fun u7=>
 L 22 1 21 false u7 fun u8=>
 X 23 9 19 22 u8 fun u9=>
 L 24 9 23 true u9 fun u10=>
 M 25 1 u10 fun u11=>
 @sOp (some 26) (xSlc 1 (u11.τ 25) (some (.int .i64 1)) none u11.H) u11<|.mk fun u12=>
 L 27 9 5 true u12 fun u13=>
 k3 (u2.τ 16) (cfp 28 44 [(u13.τ 24),(u13.τ 26),(u13.τ 27)]) <|
 k3 (u3.τ 17) (cfp 28 44 [(u13.τ 24),(u13.τ 26),(u13.τ 27)]) <|
 C0 Tryz.prog 44 [(u13.τ 24),(u13.τ 26),(u13.τ 27)] 28 u13 fun u14=>
 X 29 9 15 18 u14 fun u15=>
 U 9 29 28 u15 fun s=>
 M 30 7 s fun s=>
 F 31 8 3 s fun s=>
 U 1 31 30 s fun s=>
 L 32 9 3 true s fun s=>
 U 9 6 32 s fun s=>
 Φ .ret s
def W44 (Φ:EP) (s:St):Prop:=
 Y 3 35 0 s fun s=>
 Y 5 35 2 s fun s=>
 Z 6 35 z9 s fun s=>
 M 8 1 s fun s=>
 N 9 8 s fun s=>
 J 10 .eql false 9 0 s fun s=>
 If 10 s (W44_b1 Φ s) (W44_b4 Φ s)
theorem W44_rs (τ:Nat → AV) (H:Heap):resV Tryz.prog τ H [.cell 6 35] = rdV H 9 true (τ 6):=by kernel_rfl
theorem W44_eq:EqW Tryz.prog Tryz.f44 W44:=fun _ _=>by kernel_rfl
theorem W44_S:SpW Tryz.prog 44 33 [.cell 6 35] W44:=spW Tryz.func44 Tryz.ntmps44 W44_eq
-- 46 "penance/steps.Enabled"
def W46_k2 (Φ:EP) (J0:Nat → SP) (s:St):Prop:=
 L 42 1 3 false s fun s=>
 Ca Tryz.prog 84 [(s.τ 42)] 43 s fun s=>
 M 2 43 s fun s=>
 Φ .ret s
def W46_b4 (Φ:EP) (L0:SP) (s:St):Prop:=
 M 29 27 s fun s=>
 M 6 29 s fun s=>
 L 30 1 3 false s fun u1=>
 F 31 0 4 u1 fun u2=>
 F 32 0 31 u2 fun u3=>
 L 33 1 32 false u3 fun u4=>
 F 34 9 4 u4 fun u5=>
 L 35 1 34 false u5 fun u6=>
 k3 (s.τ 3) (cfp 36 33 [(u6.τ 35)]) <|
 k3 (u1.τ 4) (cfp 36 33 [(u6.τ 35)]) <|
 k3 (u2.τ 31) (cfp 36 33 [(u6.τ 35)]) <|
 k3 (u3.τ 32) (cfp 36 33 [(u6.τ 35)]) <|
 C0 Tryz.prog 33 [(u6.τ 35)] 36 u6 fun u7=>
 M 37 6 u7 fun u8=>
 Bd 38 [.int .i64 0,.nils,.int .i64 0] [(0,1,(u8.τ 33)),(1,1,(u8.τ 36)),(2,1,(u8.τ 37))] u8 fun u9=>
 k3 (s.τ 3) ([39] ++ occL [(u9.τ 38)],[39] ++ occL [(u9.τ 38)]) <|
 Lt 39 3 1 [.int .i64 0,.nils,.int .i64 0] [(0,(u9.τ 38))] u9 fun u10=>
 @sOp (some 40) (xApp Tryz.prog 60 3 40 (some 40) (u10.τ 30) (u10.τ 39) u10.H) u10<|.mk fun u11=>
 U 1 3 40 u11 fun s=>
 J 41 .add false 27 1 s fun s=>
 M 27 41 s fun s=>
 L0 s
def W46_l5 (Φ:EP) (L0:SP) (s:St):Prop:=
 B 28 .lss false 27 26 s fun s=>
 @sIf (s.τ 28) ⟨W46_b4 Φ L0 s⟩ ⟨Φ .normal s⟩
def W46_k6 (Φ:EP) (s:St):Prop:=
 M 26 5 s fun s=>
 I 27 0 s fun s=>
 @sLoop s ⟨fun L0 s=>W46_l5 Φ L0 s⟩
def W46_b7 (Φ:EP) (s:St):Prop:=
 F 22 10 4 s fun s=>
 L 23 1 22 false s fun s=>
 @sIf (s.τ 23) ⟨Φ .normal s⟩ ⟨W46_k6 Φ s⟩
def W46_b8 (Φ:EP) (s:St):Prop:=
 I 5 2 s fun s=>
 W46_k6 Φ s
def W46_b9 (Φ:EP) (s:St):Prop:=
 J 25 .eql false 13 10 s fun s=>
 M 24 25 s fun s=>
 If 24 s (W46_b8 Φ s) (W46_k6 Φ s)
def W46_b10 (Φ:EP) (s:St):Prop:=
 J 21 .eql false 13 8 s fun s=>
 M 20 21 s fun s=>
 If 20 s (W46_b7 Φ s) (W46_b9 Φ s)
def W46_k11 (Φ:EP) (s:St):Prop:=
 @sIf (s.τ 14) ⟨Φ .normal s⟩ ⟨W46_b10 Φ s⟩
def W46_b12 (Φ:EP) (s:St):Prop:=
 J 19 .eql false 13 7 s fun s=>
 M 14 19 s fun s=>
 W46_k11 Φ s
def W46_b13 (Φ:EP) (s:St):Prop:=
 J 18 .eql false 13 11 s fun s=>
 M 14 18 s fun s=>
 If 14 s (W46_k11 Φ s) (W46_b12 Φ s)
def W46_b14 (Φ:EP) (s:St):Prop:=
 J 17 .eql false 13 12 s fun s=>
 M 14 17 s fun s=>
 If 14 s (W46_k11 Φ s) (W46_b13 Φ s)
def W46_b15 (Φ:EP) (s:St):Prop:=
 J 16 .eql false 13 14 s fun s=>
 M 14 16 s fun s=>
 If 14 s (W46_k11 Φ s) (W46_b14 Φ s)
def W46_r16 (Φ:EP) (s:St):Prop:=
 Z 4 140 [.int .i64 0,.int .i64 0,.int .i64 0,.str ⟨#[]⟩,.int .i64 0,.int .i64 0,.str ⟨#[]⟩,.nils,.nils,.nils,.bool false] s fun s=>
 U 11 4 10 s fun s=>
 I 5 1 s fun s=>
 F 11 0 4 s fun s=>
 F 12 0 11 s fun s=>
 L 13 1 12 false s fun s=>
 J 15 .eql false 13 0 s fun s=>
 M 14 15 s fun s=>
 If 14 s (W46_k11 Φ s) (W46_b15 Φ s)
def W46_s19 (Φ:EP) (J0:Nat → SP) (s:St):Prop:=
 Z 3 56 [.nils] s fun s=>
 L 7 9 1 true s fun s=>
 Ca Tryz.prog 32 [(s.τ 7)] 8 s fun s=>
 Ca Tryz.prog 83 [(s.τ 8)] 9 s fun s=>
 @sRange Tryz.prog (s.τ 9) [10] s ⟨fun Φ s=>W46_r16 Φ s⟩ ⟨(blkK 0 (thenK (W46_k2 Φ J0) (gotoK J0 Φ)))⟩
def W46_k21 (Φ:EP) (J0:Nat → SP) (s:St):Prop:=
 L 42 1 3 false s fun s=>
 Ca Tryz.prog 84 [(s.τ 42)] 43 s fun s=>
 M 2 43 s fun s=>
 Φ .ret s
def W46_b23 (Φ:EP) (L0:SP) (s:St):Prop:=
 M 29 27 s fun s=>
 M 6 29 s fun s=>
 L 30 1 3 false s fun u1=>
 F 31 0 4 u1 fun u2=>
 F 32 0 31 u2 fun u3=>
 L 33 1 32 false u3 fun u4=>
 F 34 9 4 u4 fun u5=>
 L 35 1 34 false u5 fun u6=>
 k3 (s.τ 3) (cfp 36 33 [(u6.τ 35)]) <|
 k3 (u1.τ 4) (cfp 36 33 [(u6.τ 35)]) <|
 k3 (u2.τ 31) (cfp 36 33 [(u6.τ 35)]) <|
 k3 (u3.τ 32) (cfp 36 33 [(u6.τ 35)]) <|
 C0 Tryz.prog 33 [(u6.τ 35)] 36 u6 fun u7=>
 M 37 6 u7 fun u8=>
 Bd 38 [.int .i64 0,.nils,.int .i64 0] [(0,1,(u8.τ 33)),(1,1,(u8.τ 36)),(2,1,(u8.τ 37))] u8 fun u9=>
 k3 (s.τ 3) ([39] ++ occL [(u9.τ 38)],[39] ++ occL [(u9.τ 38)]) <|
 Lt 39 3 1 [.int .i64 0,.nils,.int .i64 0] [(0,(u9.τ 38))] u9 fun u10=>
 @sOp (some 40) (xApp Tryz.prog 60 3 40 (some 40) (u10.τ 30) (u10.τ 39) u10.H) u10<|.mk fun u11=>
 U 1 3 40 u11 fun s=>
 J 41 .add false 27 1 s fun s=>
 M 27 41 s fun s=>
 L0 s
def W46_l24 (Φ:EP) (L0:SP) (s:St):Prop:=
 B 28 .lss false 27 26 s fun s=>
 @sIf (s.τ 28) ⟨W46_b23 Φ L0 s⟩ ⟨Φ .normal s⟩
def W46_k25 (Φ:EP) (s:St):Prop:=
 M 26 5 s fun s=>
 I 27 0 s fun s=>
 @sLoop s ⟨fun L0 s=>W46_l24 Φ L0 s⟩
def W46_b26 (Φ:EP) (s:St):Prop:=
 F 22 10 4 s fun s=>
 L 23 1 22 false s fun s=>
 @sIf (s.τ 23) ⟨Φ .normal s⟩ ⟨W46_k25 Φ s⟩
def W46_b27 (Φ:EP) (s:St):Prop:=
 I 5 2 s fun s=>
 W46_k25 Φ s
def W46_b28 (Φ:EP) (s:St):Prop:=
 J 25 .eql false 13 10 s fun s=>
 M 24 25 s fun s=>
 If 24 s (W46_b27 Φ s) (W46_k25 Φ s)
def W46_b29 (Φ:EP) (s:St):Prop:=
 J 21 .eql false 13 8 s fun s=>
 M 20 21 s fun s=>
 If 20 s (W46_b26 Φ s) (W46_b28 Φ s)
def W46_k30 (Φ:EP) (s:St):Prop:=
 @sIf (s.τ 14) ⟨Φ .normal s⟩ ⟨W46_b29 Φ s⟩
def W46_b31 (Φ:EP) (s:St):Prop:=
 J 19 .eql false 13 7 s fun s=>
 M 14 19 s fun s=>
 W46_k30 Φ s
def W46_b32 (Φ:EP) (s:St):Prop:=
 J 18 .eql false 13 11 s fun s=>
 M 14 18 s fun s=>
 If 14 s (W46_k30 Φ s) (W46_b31 Φ s)
def W46_b33 (Φ:EP) (s:St):Prop:=
 J 17 .eql false 13 12 s fun s=>
 M 14 17 s fun s=>
 If 14 s (W46_k30 Φ s) (W46_b32 Φ s)
def W46_b34 (Φ:EP) (s:St):Prop:=
 J 16 .eql false 13 14 s fun s=>
 M 14 16 s fun s=>
 If 14 s (W46_k30 Φ s) (W46_b33 Φ s)
def W46_r35 (Φ:EP) (s:St):Prop:=
 Z 4 140 [.int .i64 0,.int .i64 0,.int .i64 0,.str ⟨#[]⟩,.int .i64 0,.int .i64 0,.str ⟨#[]⟩,.nils,.nils,.nils,.bool false] s fun s=>
 U 11 4 10 s fun s=>
 I 5 1 s fun s=>
 F 11 0 4 s fun s=>
 F 12 0 11 s fun s=>
 L 13 1 12 false s fun s=>
 J 15 .eql false 13 0 s fun s=>
 M 14 15 s fun s=>
 If 14 s (W46_k30 Φ s) (W46_b34 Φ s)
def W46_g38 (Φ:EP) (J0:Nat → SP) (s:St):Prop:=
 L 7 9 1 true s fun s=>
 Ca Tryz.prog 32 [(s.τ 7)] 8 s fun s=>
 Ca Tryz.prog 83 [(s.τ 8)] 9 s fun s=>
 @sRange Tryz.prog (s.τ 9) [10] s ⟨fun Φ s=>W46_r35 Φ s⟩ ⟨(blkK 0 (thenK (W46_k21 Φ J0) (gotoK J0 Φ)))⟩
def W46 (Φ:EP) (s:St):Prop:=
 Y 1 35 0 s fun s=>
 @sOp (some 2) (xMov (.nils) s.H) s<|.mk fun s=>
 @sScope s ⟨fun J0 s=>W46_s19 Φ J0 s⟩ ⟨[(0,fun J0 s=>W46_g38 Φ J0 s)]⟩
theorem W46_rs (τ:Nat → AV) (H:Heap):resV Tryz.prog τ H [.tmp 2] = some (τ 2):=by kernel_rfl
theorem W46_eq:EqW Tryz.prog Tryz.f46 W46:=fun _ _=>by kernel_rfl
theorem W46_S:SpW Tryz.prog 46 44 [.tmp 2] W46:=spW Tryz.func46 Tryz.ntmps46 W46_eq
-- 47 "penance/expr.Eval"
def W47_b1 (Φ:EP) (s:St):Prop:=
 F 12 1 2 s fun s=>
 L 13 1 12 false s fun s=>
 M 4 13 s fun s=>
 I 5 0 s fun s=>
 Φ .ret s
def W47_b2 (Φ:EP) (s:St):Prop:=
 I 4 0 s fun s=>
 I 5 0 s fun s=>
 Φ .ret s
def W47_b3 (Φ:EP) (s:St):Prop:=
 M 27 1 s fun s=>
 F 28 1 2 s fun s=>
 L 29 1 28 false s fun s=>
 X 30 1 27 29 s fun s=>
 L 31 1 30 false s fun s=>
 M 4 31 s fun s=>
 I 5 0 s fun s=>
 Φ .ret s
def W47_b9 (Φ:EP) (s:St):Prop:=
 F 17 1 2 s fun s=>
 L 18 1 17 false s fun s=>
 J 19 .lss false 18 0 s fun s=>
 M 20 19 s fun s=>
 gf 21 1 2 20 false s fun s=>
 gl 22 1 21 20 false false s fun s=>
 gm 23 1 20 false s fun s=>
 go 24 20 false s (fun s=>(xLen (s.τ 23) s.H)) fun s=>
 go 25 20 false s (fun s=>(xBin .geq false (s.τ 22) (s.τ 24) s.H)) fun s=>
 O 26 20 25 s fun s=>
 If 26 s (W47_b2 Φ s) (W47_b3 Φ s)
def W47_b10 (Φ:EP) (s:St):Prop:=
 I 4 0 s fun s=>
 I 5 0 s fun s=>
 Φ .ret s
def W47_b11 (Φ:EP) (s:St):Prop:=
 M 48 7 s fun s=>
 I 4 0 s fun s=>
 M 5 48 s fun s=>
 Φ .ret s
def W47_b13 (Φ:EP) (s:St):Prop:=
 M 53 6 s fun s=>
 J 54 .eql false 53 0 s fun s=>
 Ca Tryz.prog 85 [(s.τ 54)] 55 s fun s=>
 M 4 55 s fun s=>
 I 5 0 s fun s=>
 Φ .ret s
def W47_b15 (Φ:EP) (s:St):Prop:=
 M 60 6 s fun s=>
 Ca Tryz.prog 86 [(s.τ 60),(.int .i64 (-1))] 61 s fun s=>
 E 62 61 0 s fun s=>
 E 63 61 1 s fun s=>
 M 4 62 s fun s=>
 M 5 63 s fun s=>
 Φ .ret s
def W47_b16 (Φ:EP) (s:St):Prop:=
 I 4 0 s fun s=>
 I 5 0 s fun s=>
 Φ .ret s
def W47_b17 (Φ:EP) (s:St):Prop:=
 I 4 1 s fun s=>
 I 5 0 s fun s=>
 Φ .ret s
def W47_b18 (Φ:EP) (s:St):Prop:=
 I 4 0 s fun s=>
 I 5 0 s fun s=>
 Φ .ret s
def W47_b19 (Φ:EP) (s:St):Prop:=
 M 97 7 s fun s=>
 I 4 0 s fun s=>
 M 5 97 s fun s=>
 Φ .ret s
def W47_b21 (Φ:EP) (s:St):Prop:=
 M 107 8 s fun s=>
 J 108 .neq false 107 0 s fun s=>
 Ca Tryz.prog 85 [(s.τ 108)] 109 s fun s=>
 M 4 109 s fun s=>
 I 5 0 s fun s=>
 Φ .ret s
def W47_b23 (Φ:EP) (s:St):Prop:=
 F 110 0 2 s fun s=>
 L 111 1 110 false s fun s=>
 M 112 6 s fun s=>
 M 113 8 s fun s=>
 Ca Tryz.prog 87 [(s.τ 111),(s.τ 112),(s.τ 113)] 114 s fun s=>
 E 115 114 0 s fun s=>
 E 116 114 1 s fun s=>
 M 4 115 s fun s=>
 M 5 116 s fun s=>
 Φ .ret s
def W47_b27 (Φ:EP) (s:St):Prop:=
 F 99 0 2 s fun s=>
 L 100 1 99 false s fun s=>
 J 101 .eql false 100 16 s fun s=>
 M 102 101 s fun s=>
 gf 103 0 2 102 false s fun s=>
 gl 104 1 103 102 false false s fun s=>
 go 105 102 false s (fun s=>(xBin .eql false (s.τ 104) (.int .i64 17) s.H)) fun s=>
 O 106 102 105 s fun s=>
 M 98 106 s fun s=>
 If 98 s (W47_b21 Φ s) (W47_b23 Φ s)
def W47_b29 (Φ:EP) (s:St):Prop:=
 F 86 3 2 s fun s=>
 L 87 1 86 false s fun s=>
 @sOp (some 88) (xIx 4 (s.τ 87) (.int .i64 1) s.H) s<|.mk fun s=>
 L 89 4 88 true s fun s=>
 M 90 1 s fun s=>
 Ca Tryz.prog 47 [(s.τ 89),(s.τ 90)] 91 s fun s=>
 M 85 91 s fun s=>
 E 92 85 0 s fun s=>
 E 93 85 1 s fun s=>
 M 8 92 s fun s=>
 M 7 93 s fun s=>
 M 95 7 s fun s=>
 J 96 .neq false 95 0 s fun s=>
 M 94 96 s fun s=>
 If 94 s (W47_b19 Φ s) (W47_b27 Φ s)
def W47_b30 (Φ:EP) (s:St):Prop:=
 F 81 3 2 s fun s=>
 L 82 1 81 false s fun s=>
 N 83 82 s fun s=>
 J 84 .eql false 83 1 s fun s=>
 M 80 84 s fun s=>
 If 80 s (W47_b18 Φ s) (W47_b29 Φ s)
def W47_b33 (Φ:EP) (s:St):Prop:=
 F 73 0 2 s fun s=>
 L 74 1 73 false s fun s=>
 J 75 .eql false 74 17 s fun s=>
 M 76 75 s fun s=>
 gm 77 6 76 true s fun s=>
 go 78 76 true s (fun s=>(xBin .neq false (s.τ 77) (.int .i64 0) s.H)) fun s=>
 A 79 76 78 s fun s=>
 M 72 79 s fun s=>
 If 72 s (W47_b17 Φ s) (W47_b30 Φ s)
def W47_b36 (Φ:EP) (s:St):Prop:=
 F 65 0 2 s fun s=>
 L 66 1 65 false s fun s=>
 J 67 .eql false 66 16 s fun s=>
 M 68 67 s fun s=>
 gm 69 6 68 true s fun s=>
 go 70 68 true s (fun s=>(xBin .eql false (s.τ 69) (.int .i64 0) s.H)) fun s=>
 A 71 68 70 s fun s=>
 M 64 71 s fun s=>
 If 64 s (W47_b16 Φ s) (W47_b33 Φ s)
def W47_b37 (Φ:EP) (s:St):Prop:=
 F 57 0 2 s fun s=>
 L 58 1 57 false s fun s=>
 J 59 .eql false 58 4 s fun s=>
 M 56 59 s fun s=>
 If 56 s (W47_b15 Φ s) (W47_b36 Φ s)
def W47_b38 (Φ:EP) (s:St):Prop:=
 F 50 0 2 s fun s=>
 L 51 1 50 false s fun s=>
 J 52 .eql false 51 3 s fun s=>
 M 49 52 s fun s=>
 If 49 s (W47_b13 Φ s) (W47_b37 Φ s)
def W47_b40 (Φ:EP) (s:St):Prop:=
 F 37 3 2 s fun s=>
 L 38 1 37 false s fun s=>
 @sOp (some 39) (xIx 4 (s.τ 38) (.int .i64 0) s.H) s<|.mk fun s=>
 L 40 4 39 true s fun s=>
 M 41 1 s fun s=>
 Ca Tryz.prog 47 [(s.τ 40),(s.τ 41)] 42 s fun s=>
 M 36 42 s fun s=>
 E 43 36 0 s fun s=>
 E 44 36 1 s fun s=>
 M 6 43 s fun s=>
 M 7 44 s fun s=>
 M 46 7 s fun s=>
 J 47 .neq false 46 0 s fun s=>
 M 45 47 s fun s=>
 If 45 s (W47_b11 Φ s) (W47_b38 Φ s)
def W47_b41 (Φ:EP) (s:St):Prop:=
 F 32 3 2 s fun s=>
 L 33 1 32 false s fun s=>
 N 34 33 s fun s=>
 J 35 .eql false 34 0 s fun s=>
 If 35 s (W47_b10 Φ s) (W47_b40 Φ s)
def W47_b42 (Φ:EP) (s:St):Prop:=
 F 14 0 2 s fun s=>
 L 15 1 14 false s fun s=>
 J 16 .eql false 15 2 s fun s=>
 If 16 s (W47_b9 Φ s) (W47_b41 Φ s)
def W47 (Φ:EP) (s:St):Prop:=
 Y 2 33 0 s fun s=>
 I 4 0 s fun s=>
 I 5 0 s fun s=>
 F 9 0 2 s fun s=>
 L 10 1 9 false s fun s=>
 J 11 .eql false 10 1 s fun s=>
 If 11 s (W47_b1 Φ s) (W47_b42 Φ s)
theorem W47_rs (τ:Nat → AV) (H:Heap):resV Tryz.prog τ H [.tmp 4,.tmp 5] = ob (ob (some (τ 4)) fun v=>ob (ob (some (τ 5)) fun v=>ob (some []) fun vs=>some (v :: vs)) fun vs=>some (v :: vs)) fun vs=>some (.tup vs):=by kernel_rfl
theorem W47_eq:EqW Tryz.prog Tryz.f47 W47:=fun _ _=>by kernel_rfl
theorem W47_S:SpW Tryz.prog 47 117 [.tmp 4,.tmp 5] W47:=spW Tryz.func47 Tryz.ntmps47 W47_eq
-- 48 "penance/stacks.Push"
def W48_k1 (Φ:EP) (s:St):Prop:=
 M 24 7 s fun s=>
 M 6 24 s fun s=>
 Φ .ret s
def W48_b3 (Φ:EP) (s:St):Prop:=
 M 13 7 s fun u1=>
 M 14 1 u1 fun u2=>
 X 15 1 13 14 u2 fun u3=>
 L 16 1 15 false u3 fun u4=>
 L 17 9 5 true u4 fun u5=>
 k3 (u2.τ 13) (cfp 18 88 [(u5.τ 17)]) <|
 k3 (u3.τ 15) (cfp 18 88 [(u5.τ 17)]) <|
 C0 Tryz.prog 88 [(u5.τ 17)] 18 u5 fun u6=>
 @sChk (compat (cfp 18 88 [(u5.τ 17)]) (occ (u6.τ 16),[])) <| .mk <|
 N 19 16 u6 fun u7=>
 k3 (u2.τ 13) ([20] ++ occL [(.agg z9)],[20] ++ occL [(.agg z9)]) <|
 k3 (u3.τ 15) ([20] ++ occL [(.agg z9)],[20] ++ occL [(.agg z9)]) <|
 k3 (u4.τ 5) ([20] ++ occL [(.agg z9)],[20] ++ occL [(.agg z9)]) <|
 @sChk (compat (cfp 18 88 [(u5.τ 17)]) ([20] ++ occL [(.agg z9)],[20] ++ occL [(.agg z9)])) <| .mk <|
 k3 (u6.τ 16) ([20] ++ occL [(.agg z9)],[20] ++ occL [(.agg z9)]) <|
 Lt 20 9 1 z9 [(0,(.agg z9))] u7 fun u8=>
 @sOp (some 21) (xApp Tryz.prog 35 9 120 (some 21) (u8.τ 16) (u8.τ 20) u8.H) u8<|.mk fun u9=>
 X 22 9 21 19 u9 fun u10=>
 U 9 22 18 u10 fun u11=>
 @sChk (compat (occ (u10.τ 22),occ (u10.τ 22)) (occ (u11.τ 13),[])) <| .mk <|
 X 23 1 13 14 u11 fun u12=>
 k3 (u9.τ 21) (occ (u12.τ 23),occ (u12.τ 23)) <|
 @sChk (compat (occ (u10.τ 22),occ (u10.τ 22)) (occ (u12.τ 23),occ (u12.τ 23))) <| .mk <|
 U 1 23 21 u12 fun s=>
 W48_k1 Φ s
def W48 (Φ:EP) (s:St):Prop:=
 Y 5 35 2 s fun s=>
 @sOp (some 6) (xMov (.nils) s.H) s<|.mk fun s=>
 M 8 0 s fun s=>
 Ca Tryz.prog 77 [(s.τ 8)] 9 s fun s=>
 M 7 9 s fun s=>
 M 10 7 s fun s=>
 M 11 1 s fun s=>
 Ca Tryz.prog 78 [(s.τ 10),(s.τ 11)] 12 s fun s=>
 If 12 s (W48_b3 Φ s) (W48_k1 Φ s)
theorem W48_rs (τ:Nat → AV) (H:Heap):resV Tryz.prog τ H [.tmp 6] = some (τ 6):=by kernel_rfl
theorem W48_eq:EqW Tryz.prog Tryz.f48 W48:=fun _ _=>by kernel_rfl
theorem W48_S:SpW Tryz.prog 48 25 [.tmp 6] W48:=spW Tryz.func48 Tryz.ntmps48 W48_eq
-- 49 "penance/stacks.Reverse"
def W49_k2 (Φ:EP) (s:St):Prop:=
 L 32 9 6 true s fun u1=>
 M 33 0 u1 fun u2=>
 M 34 1 u2 fun u3=>
 k3 (s.τ 6) (cfp 35 50 [(u3.τ 33),(u3.τ 34)]) <|
 C0 Tryz.prog 50 [(u3.τ 33),(u3.τ 34)] 35 u3 fun u4=>
 U 9 4 32 u4 fun u5=>
 M 5 35 u5 fun s=>
 Φ .ret s
def W49_k3 (Φ:EP) (L0:SP) (s:St):Prop:=
 J 31 .add false 17 1 s fun s=>
 M 17 31 s fun s=>
 L0 s
def W49_b5 (Φ:EP) (L0:SP) (s:St):Prop:=
 L 24 9 8 true s fun s=>
 Ca Tryz.prog 88 [(s.τ 24)] 25 s fun s=>
 U 9 6 25 s fun s=>
 W49_k3 Φ L0 s
def W49_b7 (Φ:EP) (L0:SP) (s:St):Prop:=
 L 26 9 8 true s fun u1=>
 C0 Tryz.prog 88 [(u1.τ 26)] 27 u1 fun u2=>
 @sChk (compat (cfp 27 88 [(u1.τ 26)]) (occ (u2.τ 6),[])) <| .mk <|
 L 28 9 6 true u2 fun u3=>
 Lt 29 9 2 z9 [(0,(u3.τ 27)),(1,(u3.τ 28))] u3 fun u4=>
 Bd 30 z9 [(0,1,(.int .i64 12)),(8,1,(u4.τ 29))] u4 fun u5=>
 U 9 6 30 u5 fun s=>
 W49_k3 Φ L0 s
def W49_b8 (Φ:EP) (L0:SP) (s:St):Prop:=
 M 19 17 s fun s=>
 X 20 9 15 17 s fun s=>
 L 21 9 20 true s fun s=>
 Z 8 35 z9 s fun s=>
 M 7 19 s fun s=>
 U 9 8 21 s fun s=>
 M 22 7 s fun s=>
 J 23 .eql false 22 0 s fun s=>
 If 23 s (W49_b5 Φ L0 s) (W49_b7 Φ L0 s)
def W49_l9 (Φ:EP) (L0:SP) (s:St):Prop:=
 B 18 .lss false 17 16 s fun s=>
 If 18 s (W49_b8 Φ L0 s) (W49_k2 Φ s)
def W49_b10 (Φ:EP) (s:St):Prop:=
 M 12 0 s fun s=>
 M 13 1 s fun s=>
 X 14 1 12 13 s fun s=>
 L 15 1 14 false s fun s=>
 N 16 15 s fun s=>
 I 17 0 s fun s=>
 @sLoop s ⟨fun L0 s=>W49_l9 Φ L0 s⟩
def W49 (Φ:EP) (s:St):Prop:=
 Z 4 35 z9 s fun s=>
 @sOp (some 5) (xMov (.nils) s.H) s<|.mk fun s=>
 Z 6 35 z9 s fun s=>
 M 9 0 s fun s=>
 M 10 1 s fun s=>
 Ca Tryz.prog 78 [(s.τ 9),(s.τ 10)] 11 s fun s=>
 If 11 s (W49_b10 Φ s) (W49_k2 Φ s)
theorem W49_rs (τ:Nat → AV) (H:Heap):resV Tryz.prog τ H [.cell 4 35,.tmp 5] = ob (ob (rdV H 9 true (τ 4)) fun v=>ob (ob (some (τ 5)) fun v=>ob (some []) fun vs=>some (v :: vs)) fun vs=>some (v :: vs)) fun vs=>some (.tup vs):=by kernel_rfl
theorem W49_eq:EqW Tryz.prog Tryz.f49 W49:=fun _ _=>by kernel_rfl
theorem W49_S:SpW Tryz.prog 49 36 [.cell 4 35,.tmp 5] W49:=spW Tryz.func49 Tryz.ntmps49 W49_eq
-- 50 "penance/stacks.Accept"
def W50_k1 (Φ:EP) (s:St):Prop:=
 M 14 5 s fun s=>
 M 4 14 s fun s=>
 Φ .ret s
def W50_b2 (Φ:EP) (s:St):Prop:=
 M 11 5 s fun s=>
 M 12 1 s fun s=>
 X 13 1 11 12 s fun s=>
 @sOp none (xStore 1 (s.τ 13) (.nils) s.H) s<|.mk fun s=>
 W50_k1 Φ s
def W50 (Φ:EP) (s:St):Prop:=
 @sOp (some 4) (xMov (.nils) s.H) s<|.mk fun s=>
 M 6 0 s fun s=>
 Ca Tryz.prog 77 [(s.τ 6)] 7 s fun s=>
 M 5 7 s fun s=>
 M 8 5 s fun s=>
 M 9 1 s fun s=>
 Ca Tryz.prog 78 [(s.τ 8),(s.τ 9)] 10 s fun s=>
 If 10 s (W50_b2 Φ s) (W50_k1 Φ s)
theorem W50_rs (τ:Nat → AV) (H:Heap):resV Tryz.prog τ H [.tmp 4] = some (τ 4):=by kernel_rfl
theorem W50_eq:EqW Tryz.prog Tryz.f50 W50:=fun _ _=>by kernel_rfl
theorem W50_S:SpW Tryz.prog 50 15 [.tmp 4] W50:=spW Tryz.func50 Tryz.ntmps50 W50_eq
-- 51 "penance/run.block"
def W51_k1 (Φ:EP) (s:St):Prop:=
 M 27 5 s fun s=>
 M 4 27 s fun s=>
 Φ .ret s
def W51_k2 (Φ:EP) (L0:SP) (s:St):Prop:=
 F 21 8 2 s fun s=>
 L 22 1 21 false s fun s=>
 M 23 7 s fun s=>
 X 24 9 22 23 s fun s=>
 L 25 9 24 true s fun s=>
 U 9 2 25 s fun s=>
 J 26 .add false 10 1 s fun s=>
 M 10 26 s fun s=>
 L0 s
def W51_b3 (Φ:EP) (L0:SP) (s:St):Prop:=
 M 18 1 s fun s=>
 M 19 6 s fun s=>
 @sOp (some 20) (xSlc 1 (s.τ 18) none (some (s.τ 19)) s.H) s<|.mk fun s=>
 M 5 20 s fun s=>
 W51_k2 Φ L0 s
def W51_b4 (Φ:EP) (L0:SP) (s:St):Prop:=
 M 12 10 s fun s=>
 X 13 1 8 10 s fun s=>
 L 14 1 13 false s fun s=>
 M 6 12 s fun s=>
 M 7 14 s fun s=>
 F 15 0 2 s fun s=>
 L 16 1 15 false s fun s=>
 J 17 .eql false 16 7 s fun s=>
 If 17 s (W51_b3 Φ L0 s) (W51_k2 Φ L0 s)
def W51_l5 (Φ:EP) (L0:SP) (s:St):Prop:=
 B 11 .lss false 10 9 s fun s=>
 If 11 s (W51_b4 Φ L0 s) (W51_k1 Φ s)
def W51 (Φ:EP) (s:St):Prop:=
 Y 2 35 0 s fun s=>
 @sOp (some 4) (xMov (.nils) s.H) s<|.mk fun s=>
 @sOp (some 5) (xMov (.nils) s.H) s<|.mk fun s=>
 M 8 1 s fun s=>
 N 9 8 s fun s=>
 I 10 0 s fun s=>
 @sLoop s ⟨fun L0 s=>W51_l5 Φ L0 s⟩
theorem W51_rs (τ:Nat → AV) (H:Heap):resV Tryz.prog τ H [.tmp 4] = some (τ 4):=by kernel_rfl
theorem W51_eq:EqW Tryz.prog Tryz.f51 W51:=fun _ _=>by kernel_rfl
theorem W51_S:SpW Tryz.prog 51 28 [.tmp 4] W51:=spW Tryz.func51 Tryz.ntmps51 W51_eq
-- 52 "penance/stacks.Size"
def W52_k1 (Φ:EP) (s:St):Prop:=
 M 26 3 s fun s=>
 M 2 26 s fun s=>
 Φ .ret s
def W52_k2 (Φ:EP) (L0:SP) (s:St):Prop:=
 J 25 .add false 10 1 s fun s=>
 M 10 25 s fun s=>
 L0 s
def W52_b4 (Φ:EP) (L0:SP) (L1:SP) (s:St):Prop:=
 X 18 9 14 16 s fun s=>
 L 19 9 18 true s fun s=>
 Z 7 35 z9 s fun s=>
 U 9 7 19 s fun s=>
 M 20 3 s fun s=>
 L 21 9 7 true s fun s=>
 Ca Tryz.prog 38 [(s.τ 21)] 22 s fun s=>
 B 23 .add false 20 22 s fun s=>
 M 3 23 s fun s=>
 J 24 .add false 16 1 s fun s=>
 M 16 24 s fun s=>
 L1 s
def W52_l5 (Φ:EP) (L0:SP) (L1:SP) (s:St):Prop:=
 B 17 .lss false 16 15 s fun s=>
 If 17 s (W52_b4 Φ L0 L1 s) (W52_k2 Φ L0 s)
def W52_b6 (Φ:EP) (L0:SP) (s:St):Prop:=
 X 12 1 8 10 s fun s=>
 L 13 1 12 false s fun s=>
 M 5 13 s fun s=>
 M 14 5 s fun s=>
 N 15 14 s fun s=>
 I 16 0 s fun s=>
 @sLoop s ⟨fun L1 s=>W52_l5 Φ L0 L1 s⟩
def W52_l7 (Φ:EP) (L0:SP) (s:St):Prop:=
 B 11 .lss false 10 9 s fun s=>
 If 11 s (W52_b6 Φ L0 s) (W52_k1 Φ s)
def W52 (Φ:EP) (s:St):Prop:=
 I 2 0 s fun s=>
 I 3 0 s fun s=>
 M 8 0 s fun s=>
 N 9 8 s fun s=>
 I 10 0 s fun s=>
 @sLoop s ⟨fun L0 s=>W52_l7 Φ L0 s⟩
theorem W52_rs (τ:Nat → AV) (H:Heap):resV Tryz.prog τ H [.tmp 2] = some (τ 2):=by kernel_rfl
theorem W52_eq:EqW Tryz.prog Tryz.f52 W52:=fun _ _=>by kernel_rfl
theorem W52_S:SpW Tryz.prog 52 27 [.tmp 2] W52:=spW Tryz.func52 Tryz.ntmps52 W52_eq
end Go.Proofs.YtnngddgaobhkiaaGreat
set_option maxRecDepth 100000
namespace Go.Proofs.YtnngddgaobhkiaaGreat
open Go Go.Am
-- 57 "penance/penanceref5.Size"
def W57_k1 (Φ:EP) (s:St):Prop:=
 M 20 3 s fun s=>
 M 2 20 s fun s=>
 Φ .ret s
def W57_b3 (Φ:EP) (L0:SP) (s:St):Prop:=
 M 12 3 s fun s=>
 F 13 8 1 s fun s=>
 L 14 1 13 false s fun s=>
 M 15 4 s fun s=>
 X 16 9 14 15 s fun s=>
 L 17 9 16 true s fun s=>
 Ca Tryz.prog 57 [(s.τ 17)] 18 s fun s=>
 B 19 .add false 12 18 s fun s=>
 M 3 19 s fun s=>
 M 10 4 s fun s=>
 J 11 .add false 10 1 s fun s=>
 M 4 11 s fun s=>
 L0 s
def W57_l4 (Φ:EP) (L0:SP) (s:St):Prop:=
 M 5 4 s fun s=>
 F 6 8 1 s fun s=>
 L 7 1 6 false s fun s=>
 N 8 7 s fun s=>
 B 9 .lss false 5 8 s fun s=>
 If 9 s (W57_b3 Φ L0 s) (W57_k1 Φ s)
def W57 (Φ:EP) (s:St):Prop:=
 Y 1 35 0 s fun s=>
 I 2 0 s fun s=>
 I 3 1 s fun s=>
 I 4 0 s fun s=>
 @sLoop s ⟨fun L0 s=>W57_l4 Φ L0 s⟩
theorem W57_rs (τ:Nat → AV) (H:Heap):resV Tryz.prog τ H [.tmp 2] = some (τ 2):=by kernel_rfl
theorem W57_eq:EqW Tryz.prog Tryz.f57 W57:=fun _ _=>by kernel_rfl
theorem W57_S:SpW Tryz.prog 57 21 [.tmp 2] W57:=spW Tryz.func57 Tryz.ntmps57 W57_eq
-- 59 "penance/penanceref5.Right"
def W59_b1 (Φ:EP) (s:St):Prop:=
 V 8 false s fun s=>
 Φ .ret s
def W59_b2 (Φ:EP) (s:St):Prop:=
 V 8 false s fun s=>
 Φ .ret s
def W59_b3 (Φ:EP) (s:St):Prop:=
 V 8 false s fun s=>
 Φ .ret s
def W59_k10 (Φ:EP) (s:St):Prop:=
 F 112 0 4 s fun s=>
 L 113 1 112 false s fun s=>
 J 114 .neq false 113 3 s fun s=>
 M 115 114 s fun s=>
 gf 116 8 4 115 false s fun s=>
 gl 117 1 116 115 false false s fun s=>
 go 118 115 false s (fun s=>(xIx 9 (s.τ 117) (.int .i64 0) s.H)) fun s=>
 gl 119 9 118 115 true false s fun s=>
 @sGrd (guardOf (s.τ 115) false) (some 120) s ⟨fun s K=>@sCall Tryz.prog (.func 60 []) [(s.τ 119)] (some 120) s ⟨K⟩⟩<|.mk fun s=>
 go 121 115 false s (fun s=>(xNot (s.τ 120) s.H)) fun s=>
 O 122 115 121 s fun s=>
 M 8 122 s fun s=>
 Φ .ret s
def W59_b11 (Φ:EP) (L0:SP) (s:St):Prop:=
 V 8 false s fun s=>
 Φ .ret s
def W59_b12 (Φ:EP) (L0:SP) (s:St):Prop:=
 M 100 10 s fun s=>
 J 101 .add false 100 1 s fun s=>
 M 10 101 s fun s=>
 L0 s
def W59_b14 (Φ:EP) (L0:SP) (s:St):Prop:=
 F 102 8 4 s fun s=>
 L 103 1 102 false s fun s=>
 M 104 10 s fun s=>
 X 105 9 103 104 s fun s=>
 L 106 9 105 true s fun s=>
 M 107 1 s fun s=>
 M 108 2 s fun s=>
 M 109 3 s fun s=>
 Ca Tryz.prog 59 [(s.τ 106),(s.τ 107),(s.τ 108),(s.τ 109)] 110 s fun s=>
 Q 111 110 s fun s=>
 If 111 s (W59_b11 Φ L0 s) (W59_b12 Φ L0 s)
def W59_l15 (Φ:EP) (L0:SP) (s:St):Prop:=
 M 95 10 s fun s=>
 F 96 8 4 s fun s=>
 L 97 1 96 false s fun s=>
 N 98 97 s fun s=>
 B 99 .lss false 95 98 s fun s=>
 If 99 s (W59_b14 Φ L0 s) (W59_k10 Φ s)
def W59_b16 (Φ:EP) (s:St):Prop:=
 I 10 0 s fun s=>
 @sLoop s ⟨fun L0 s=>W59_l15 Φ L0 s⟩
def W59_b32 (Φ:EP) (s:St):Prop:=
 F 74 3 9 s fun s=>
 L 75 1 74 false s fun s=>
 M 76 75 s fun s=>
 gf 77 4 4 76 true s fun s=>
 gl 78 4 77 76 true true s fun s=>
 gm 79 1 76 true s fun s=>
 @sGrd (guardOf (s.τ 76) true) (some 80) s ⟨fun s K=>@sCall Tryz.prog (.func 94 []) [(s.τ 78),(s.τ 79)] (some 80) s ⟨K⟩⟩<|.mk fun s=>
 go 81 76 true s (fun s=>(xNot (s.τ 80) s.H)) fun s=>
 A 82 76 81 s fun s=>
 M 83 82 s fun s=>
 gf 84 3 9 83 false s fun s=>
 gl 85 1 84 83 false false s fun s=>
 go 86 83 false s (fun s=>(xNot (s.τ 85) s.H)) fun s=>
 gm 87 86 83 false s fun s=>
 gf 88 4 4 87 true s fun s=>
 gl 89 4 88 87 true true s fun s=>
 go 90 87 true s (fun s=>(xBuild z4 [] s.H)) fun s=>
 @sGrd (guardOf (s.τ 87) true) (some 91) s ⟨fun s K=>@sCall Tryz.prog (.func 79 []) [(s.τ 89),(s.τ 90)] (some 91) s ⟨K⟩⟩<|.mk fun s=>
 go 92 87 true s (fun s=>(xNot (s.τ 91) s.H)) fun s=>
 go 93 83 false s (fun s=>(xPick (s.τ 87) (s.τ 92) (.bool false) s.H)) fun s=>
 O 94 83 93 s fun s=>
 If 94 s (W59_b3 Φ s) (W59_b16 Φ s)
def W59_b58 (Φ:EP) (s:St):Prop:=
 F 38 0 9 s fun s=>
 L 39 1 38 false s fun s=>
 Q 40 39 s fun s=>
 M 41 40 s fun s=>
 gf 42 1 4 41 true s fun s=>
 gl 43 1 42 41 false true s fun s=>
 go 44 41 true s (fun s=>(xBin .neq false (s.τ 43) (.int .i64 0) s.H)) fun s=>
 A 45 41 44 s fun s=>
 M 46 45 s fun s=>
 gf 47 1 9 46 false s fun s=>
 gl 48 1 47 46 false false s fun s=>
 go 49 46 false s (fun s=>(xNot (s.τ 48) s.H)) fun s=>
 gm 50 49 46 false s fun s=>
 gf 51 2 4 50 true s fun s=>
 gl 52 1 51 50 false true s fun s=>
 go 53 50 true s (fun s=>(xBin .neq false (s.τ 52) (.int .i64 0) s.H)) fun s=>
 go 54 46 false s (fun s=>(xPick (s.τ 50) (s.τ 53) (.bool false) s.H)) fun s=>
 O 55 46 54 s fun s=>
 M 56 55 s fun s=>
 gf 57 2 9 56 false s fun s=>
 gl 58 1 57 56 false false s fun s=>
 gf 59 3 4 56 false s fun s=>
 gl 60 1 59 56 false false s fun s=>
 go 61 56 false s (fun s=>(xBin .neq false (s.τ 60) (.str ⟨#[]⟩) s.H)) fun s=>
 go 62 56 false s (fun s=>(xBin .neq true (s.τ 58) (s.τ 61) s.H)) fun s=>
 O 63 56 62 s fun s=>
 M 64 63 s fun s=>
 gf 65 2 9 64 false s fun s=>
 gl 66 1 65 64 false false s fun s=>
 gm 67 66 64 false s fun s=>
 gf 68 3 4 67 true s fun s=>
 gl 69 1 68 67 false true s fun s=>
 @sGrd (guardOf (s.τ 67) true) (some 70) s ⟨fun s K=>@sCall Tryz.prog (.func 93 []) [(s.τ 69)] (some 70) s ⟨K⟩⟩<|.mk fun s=>
 go 71 67 true s (fun s=>(xNot (s.τ 70) s.H)) fun s=>
 go 72 64 false s (fun s=>(xPick (s.τ 67) (s.τ 71) (.bool false) s.H)) fun s=>
 O 73 64 72 s fun s=>
 If 73 s (W59_b2 Φ s) (W59_b32 Φ s)
def W59 (Φ:EP) (s:St):Prop:=
 Y 4 35 0 s fun s=>
 V 8 false s fun s=>
 F 11 0 4 s fun s=>
 L 12 1 11 false s fun s=>
 Ca Tryz.prog 91 [(s.τ 12)] 13 s fun s=>
 Z 9 149 [.bool false,.bool false,.bool false,.bool false,.int .i64 0] s fun s=>
 U 5 9 13 s fun s=>
 F 14 0 4 s fun s=>
 L 15 1 14 false s fun s=>
 J 16 .lss false 15 0 s fun s=>
 M 17 16 s fun s=>
 gf 18 0 4 17 false s fun s=>
 gl 19 1 18 17 false false s fun s=>
 go 20 17 false s (fun s=>(xBin .gtr false (s.τ 19) (.int .i64 14) s.H)) fun s=>
 O 21 17 20 s fun s=>
 M 22 21 s fun s=>
 gf 23 8 4 22 false s fun s=>
 gl 24 1 23 22 false false s fun s=>
 go 25 22 false s (fun s=>(xLen (s.τ 24) s.H)) fun s=>
 gf 26 4 9 22 false s fun s=>
 gl 27 1 26 22 false false s fun s=>
 go 28 22 false s (fun s=>(xBin .neq false (s.τ 25) (s.τ 27) s.H)) fun s=>
 O 29 22 28 s fun s=>
 M 30 29 s fun s=>
 gl 31 9 4 30 true false s fun s=>
 gm 32 1 30 false s fun s=>
 gm 33 2 30 false s fun s=>
 gm 34 3 30 false s fun s=>
 @sGrd (guardOf (s.τ 30) false) (some 35) s ⟨fun s K=>@sCall Tryz.prog (.func 92 []) [(s.τ 31),(s.τ 32),(s.τ 33),(s.τ 34)] (some 35) s ⟨K⟩⟩<|.mk fun s=>
 go 36 30 false s (fun s=>(xNot (s.τ 35) s.H)) fun s=>
 O 37 30 36 s fun s=>
 If 37 s (W59_b1 Φ s) (W59_b58 Φ s)
theorem W59_rs (τ:Nat → AV) (H:Heap):resV Tryz.prog τ H [.tmp 8] = some (τ 8):=by kernel_rfl
theorem W59_eq:EqW Tryz.prog Tryz.f59 W59:=fun _ _=>by kernel_rfl
theorem W59_S:SpW Tryz.prog 59 123 [.tmp 8] W59:=spW Tryz.func59 Tryz.ntmps59 W59_eq
-- 60 "penance/penanceref5.Any"
def W60_b1 (Φ:EP) (s:St):Prop:=
 V 2 true s fun s=>
 Φ .ret s
def W60_k2 (Φ:EP) (s:St):Prop:=
 V 2 false s fun s=>
 Φ .ret s
def W60_b3 (Φ:EP) (L0:SP) (s:St):Prop:=
 V 2 true s fun s=>
 Φ .ret s
def W60_b4 (Φ:EP) (L0:SP) (s:St):Prop:=
 M 12 3 s fun s=>
 J 13 .add false 12 1 s fun s=>
 M 3 13 s fun s=>
 L0 s
def W60_b6 (Φ:EP) (L0:SP) (s:St):Prop:=
 F 14 8 1 s fun s=>
 L 15 1 14 false s fun s=>
 M 16 3 s fun s=>
 X 17 9 15 16 s fun s=>
 L 18 9 17 true s fun s=>
 Ca Tryz.prog 60 [(s.τ 18)] 19 s fun s=>
 If 19 s (W60_b3 Φ L0 s) (W60_b4 Φ L0 s)
def W60_l7 (Φ:EP) (L0:SP) (s:St):Prop:=
 M 7 3 s fun s=>
 F 8 8 1 s fun s=>
 L 9 1 8 false s fun s=>
 N 10 9 s fun s=>
 B 11 .lss false 7 10 s fun s=>
 If 11 s (W60_b6 Φ L0 s) (W60_k2 Φ s)
def W60_b8 (Φ:EP) (s:St):Prop:=
 I 3 0 s fun s=>
 @sLoop s ⟨fun L0 s=>W60_l7 Φ L0 s⟩
def W60 (Φ:EP) (s:St):Prop:=
 Y 1 35 0 s fun s=>
 V 2 false s fun s=>
 F 4 0 1 s fun s=>
 L 5 1 4 false s fun s=>
 J 6 .eql false 5 14 s fun s=>
 If 6 s (W60_b1 Φ s) (W60_b8 Φ s)
theorem W60_rs (τ:Nat → AV) (H:Heap):resV Tryz.prog τ H [.tmp 2] = some (τ 2):=by kernel_rfl
theorem W60_eq:EqW Tryz.prog Tryz.f60 W60:=fun _ _=>by kernel_rfl
theorem W60_S:SpW Tryz.prog 60 20 [.tmp 2] W60:=spW Tryz.func60 Tryz.ntmps60 W60_eq
-- 61 "penance/penancelaw5.within"
def W61_k1 (Φ:EP) (s:St):Prop:=
 M 14 5 s fun s=>
 M 4 14 s fun s=>
 Φ .ret s
def W61_b2 (Φ:EP) (s:St):Prop:=
 M 11 5 s fun s=>
 M 12 1 s fun s=>
 B 13 .add false 11 12 s fun s=>
 M 5 13 s fun s=>
 W61_k1 Φ s
def W61 (Φ:EP) (s:St):Prop:=
 I 4 0 s fun s=>
 M 6 0 s fun s=>
 M 7 1 s fun s=>
 B 8 .rem false 6 7 s fun s=>
 M 5 8 s fun s=>
 M 9 5 s fun s=>
 J 10 .lss false 9 0 s fun s=>
 If 10 s (W61_b2 Φ s) (W61_k1 Φ s)
theorem W61_rs (τ:Nat → AV) (H:Heap):resV Tryz.prog τ H [.tmp 4] = some (τ 4):=by kernel_rfl
theorem W61_eq:EqW Tryz.prog Tryz.f61 W61:=fun _ _=>by kernel_rfl
theorem W61_S:SpW Tryz.prog 61 15 [.tmp 4] W61:=spW Tryz.func61 Tryz.ntmps61 W61_eq
-- 64 "penance/penancelaw2.Few"
def W64 (Φ:EP) (s:St):Prop:=
 V 2 false s fun s=>
 M 3 0 s fun s=>
 Ca Tryz.prog 95 [(s.τ 3),(.int .i64 0)] 4 s fun s=>
 J 5 .leq false 4 20 s fun s=>
 M 2 5 s fun s=>
 Φ .ret s
theorem W64_rs (τ:Nat → AV) (H:Heap):resV Tryz.prog τ H [.tmp 2] = some (τ 2):=by kernel_rfl
theorem W64_eq:EqW Tryz.prog Tryz.f64 W64:=fun _ _=>by kernel_rfl
theorem W64_S:SpW Tryz.prog 64 6 [.tmp 2] W64:=spW Tryz.func64 Tryz.ntmps64 W64_eq
-- 65 "penance/penanceref4.names"
def W65_k1 (Φ:EP) (s:St):Prop:=
 M 40 4 s fun s=>
 M 41 5 s fun s=>
 M 2 40 s fun s=>
 M 3 41 s fun s=>
 Φ .ret s
def W65_b2 (Φ:EP) (L0:SP) (s:St):Prop:=
 M 31 5 s fun s=>
 F 32 2 1 s fun s=>
 L 33 1 32 false s fun s=>
 M 34 7 s fun s=>
 X 35 9 33 34 s fun s=>
 F 36 0 35 s fun s=>
 L 37 1 36 false s fun s=>
 Lt 38 1 1 [.str ⟨#[]⟩] [(0,(s.τ 37))] s fun s=>
 @sOp (some 39) (xApp Tryz.prog 9 1 16 (some 39) (s.τ 31) (s.τ 38) s.H) s<|.mk fun s=>
 M 5 39 s fun s=>
 M 29 7 s fun s=>
 J 30 .add false 29 1 s fun s=>
 M 7 30 s fun s=>
 L0 s
def W65_l3 (Φ:EP) (L0:SP) (s:St):Prop:=
 M 24 7 s fun s=>
 F 25 2 1 s fun s=>
 L 26 1 25 false s fun s=>
 N 27 26 s fun s=>
 B 28 .lss false 24 27 s fun s=>
 If 28 s (W65_b2 Φ L0 s) (W65_k1 Φ s)
def W65_k4 (Φ:EP) (s:St):Prop:=
 I 7 0 s fun s=>
 @sLoop s ⟨fun L0 s=>W65_l3 Φ L0 s⟩
def W65_b5 (Φ:EP) (L0:SP) (s:St):Prop:=
 M 15 4 s fun s=>
 F 16 0 1 s fun s=>
 L 17 1 16 false s fun s=>
 M 18 6 s fun s=>
 X 19 2 17 18 s fun s=>
 F 20 0 19 s fun s=>
 L 21 1 20 false s fun s=>
 Lt 22 1 1 [.str ⟨#[]⟩] [(0,(s.τ 21))] s fun s=>
 @sOp (some 23) (xApp Tryz.prog 9 1 16 (some 23) (s.τ 15) (s.τ 22) s.H) s<|.mk fun s=>
 M 4 23 s fun s=>
 M 13 6 s fun s=>
 J 14 .add false 13 1 s fun s=>
 M 6 14 s fun s=>
 L0 s
def W65_l6 (Φ:EP) (L0:SP) (s:St):Prop:=
 M 8 6 s fun s=>
 F 9 0 1 s fun s=>
 L 10 1 9 false s fun s=>
 N 11 10 s fun s=>
 B 12 .lss false 8 11 s fun s=>
 If 12 s (W65_b5 Φ L0 s) (W65_k4 Φ s)
def W65 (Φ:EP) (s:St):Prop:=
 Y 1 76 0 s fun s=>
 @sOp (some 2) (xMov (.nils) s.H) s<|.mk fun s=>
 @sOp (some 3) (xMov (.nils) s.H) s<|.mk fun s=>
 @sOp (some 4) (xMov (.nils) s.H) s<|.mk fun s=>
 @sOp (some 5) (xMov (.nils) s.H) s<|.mk fun s=>
 I 6 0 s fun s=>
 @sLoop s ⟨fun L0 s=>W65_l6 Φ L0 s⟩
theorem W65_rs (τ:Nat → AV) (H:Heap):resV Tryz.prog τ H [.tmp 2,.tmp 3] = ob (ob (some (τ 2)) fun v=>ob (ob (some (τ 3)) fun v=>ob (some []) fun vs=>some (v :: vs)) fun vs=>some (v :: vs)) fun vs=>some (.tup vs):=by kernel_rfl
theorem W65_eq:EqW Tryz.prog Tryz.f65 W65:=fun _ _=>by kernel_rfl
theorem W65_S:SpW Tryz.prog 65 42 [.tmp 2,.tmp 3] W65:=spW Tryz.func65 Tryz.ntmps65 W65_eq
-- 66 "penance/penanceref4.twice"
def W66_k1 (Φ:EP) (s:St):Prop:=
 V 2 false s fun s=>
 Φ .ret s
def W66_b2 (Φ:EP) (L0:SP) (s:St):Prop:=
 V 2 true s fun s=>
 Φ .ret s
def W66_b3 (Φ:EP) (L0:SP) (s:St):Prop:=
 M 8 3 s fun s=>
 J 9 .add false 8 1 s fun s=>
 M 3 9 s fun s=>
 L0 s
def W66_b5 (Φ:EP) (L0:SP) (s:St):Prop:=
 M 10 0 s fun s=>
 M 11 0 s fun s=>
 M 12 3 s fun s=>
 X 13 1 11 12 s fun s=>
 L 14 1 13 false s fun s=>
 Ca Tryz.prog 67 [(s.τ 10),(s.τ 14)] 15 s fun s=>
 M 16 3 s fun s=>
 B 17 .neq false 15 16 s fun s=>
 If 17 s (W66_b2 Φ L0 s) (W66_b3 Φ L0 s)
def W66_l6 (Φ:EP) (L0:SP) (s:St):Prop:=
 M 4 3 s fun s=>
 M 5 0 s fun s=>
 N 6 5 s fun s=>
 B 7 .lss false 4 6 s fun s=>
 If 7 s (W66_b5 Φ L0 s) (W66_k1 Φ s)
def W66 (Φ:EP) (s:St):Prop:=
 V 2 false s fun s=>
 I 3 0 s fun s=>
 @sLoop s ⟨fun L0 s=>W66_l6 Φ L0 s⟩
theorem W66_rs (τ:Nat → AV) (H:Heap):resV Tryz.prog τ H [.tmp 2] = some (τ 2):=by kernel_rfl
theorem W66_eq:EqW Tryz.prog Tryz.f66 W66:=fun _ _=>by kernel_rfl
theorem W66_S:SpW Tryz.prog 66 18 [.tmp 2] W66:=spW Tryz.func66 Tryz.ntmps66 W66_eq
-- 67 "penance/penanceref4.find"
def W67_k1 (Φ:EP) (s:St):Prop:=
 I 4 (-1) s fun s=>
 Φ .ret s
def W67_b2 (Φ:EP) (L0:SP) (s:St):Prop:=
 M 18 5 s fun s=>
 M 4 18 s fun s=>
 Φ .ret s
def W67_b3 (Φ:EP) (L0:SP) (s:St):Prop:=
 M 10 5 s fun s=>
 J 11 .add false 10 1 s fun s=>
 M 5 11 s fun s=>
 L0 s
def W67_b4 (Φ:EP) (L0:SP) (s:St):Prop:=
 M 12 0 s fun s=>
 M 13 5 s fun s=>
 X 14 1 12 13 s fun s=>
 L 15 1 14 false s fun s=>
 M 16 1 s fun s=>
 B 17 .eql false 15 16 s fun s=>
 If 17 s (W67_b2 Φ L0 s) (W67_b3 Φ L0 s)
def W67_l5 (Φ:EP) (L0:SP) (s:St):Prop:=
 M 6 5 s fun s=>
 M 7 0 s fun s=>
 N 8 7 s fun s=>
 B 9 .lss false 6 8 s fun s=>
 If 9 s (W67_b4 Φ L0 s) (W67_k1 Φ s)
def W67 (Φ:EP) (s:St):Prop:=
 I 4 0 s fun s=>
 I 5 0 s fun s=>
 @sLoop s ⟨fun L0 s=>W67_l5 Φ L0 s⟩
theorem W67_rs (τ:Nat → AV) (H:Heap):resV Tryz.prog τ H [.tmp 4] = some (τ 4):=by kernel_rfl
theorem W67_eq:EqW Tryz.prog Tryz.f67 W67:=fun _ _=>by kernel_rfl
theorem W67_S:SpW Tryz.prog 67 19 [.tmp 4] W67:=spW Tryz.func67 Tryz.ntmps67 W67_eq
-- 68 "(*penance/penanceref4.lower).proc"
def W68_k1 (Φ:EP) (s:St):Prop:=
 L 116 9 5 true s fun s=>
 U 9 4 116 s fun s=>
 Φ .ret s
def W68_b3 (Φ:EP) (L0:SP) (s:St):Prop:=
 F 104 8 5 s fun u1=>
 L 105 1 104 false u1 fun u2=>
 M 106 0 u2 fun u3=>
 F 107 7 3 u3 fun u4=>
 L 108 1 107 false u4 fun u5=>
 M 109 6 u5 fun u6=>
 X 110 8 108 109 u6 fun u7=>
 L 111 8 110 true u7 fun u8=>
 k3 (s.τ 5) (cfp 112 68 [(u8.τ 106),(u8.τ 111)]) <|
 k3 (u1.τ 104) (cfp 112 68 [(u8.τ 106),(u8.τ 111)]) <|
 C0 Tryz.prog 68 [(u8.τ 106),(u8.τ 111)] 112 u8 fun u9=>
 k3 (s.τ 5) ([113] ++ occL [(u9.τ 112)],[113] ++ occL [(u9.τ 112)]) <|
 k3 (u1.τ 104) ([113] ++ occL [(u9.τ 112)],[113] ++ occL [(u9.τ 112)]) <|
 Lt 113 9 1 z9 [(0,(u9.τ 112))] u9 fun u10=>
 @sOp (some 114) (xApp Tryz.prog 35 9 120 (some 114) (u10.τ 105) (u10.τ 113) u10.H) u10<|.mk fun u11=>
 F 115 8 5 u11 fun u12=>
 U 1 115 114 u12 fun s=>
 M 102 6 s fun s=>
 J 103 .add false 102 1 s fun s=>
 M 6 103 s fun s=>
 L0 s
def W68_l4 (Φ:EP) (L0:SP) (s:St):Prop:=
 M 97 6 s fun s=>
 F 98 7 3 s fun s=>
 L 99 1 98 false s fun s=>
 N 100 99 s fun s=>
 B 101 .lss false 97 100 s fun s=>
 If 101 s (W68_b3 Φ L0 s) (W68_k1 Φ s)
def W68_k5 (Φ:EP) (s:St):Prop:=
 I 6 0 s fun s=>
 @sLoop s ⟨fun L0 s=>W68_l4 Φ L0 s⟩
def W68_b7 (Φ:EP) (s:St):Prop:=
 M 21 0 s fun s=>
 M 22 0 s fun s=>
 @sOp (some 23) (xNil (s.τ 22) s.H) s<|.mk fun s=>
 F 24 0 23 s fun s=>
 L 25 1 24 false s fun s=>
 F 26 2 3 s fun s=>
 L 27 1 26 false s fun s=>
 C0 Tryz.prog 96 [(s.τ 21),(s.τ 25),(s.τ 27)] 28 s fun s=>
 F 29 1 5 s fun s=>
 U 1 29 28 s fun s=>
 W68_k5 Φ s
def W68_b8 (Φ:EP) (s:St):Prop:=
 F 14 1 3 s fun s=>
 L 15 1 14 false s fun s=>
 F 16 3 5 s fun s=>
 U 1 16 15 s fun s=>
 F 17 1 5 s fun s=>
 @sOp none (xStore 1 (s.τ 17) (.int .i64 (-1)) s.H) s<|.mk fun s=>
 F 18 2 3 s fun s=>
 L 19 1 18 false s fun s=>
 @sOp (some 20) (xBin .neq false (s.τ 19) (.str ⟨#[]⟩) s.H) s<|.mk fun s=>
 If 20 s (W68_b7 Φ s) (W68_k5 Φ s)
def W68_b11 (Φ:EP) (s:St):Prop:=
 M 32 0 s fun u1=>
 M 33 0 u1 fun u2=>
 @sOp (some 34) (xNil (u2.τ 33) u2.H) u2<|.mk fun u3=>
 F 35 0 34 u3 fun u4=>
 L 36 1 35 false u4 fun u5=>
 F 37 2 3 u5 fun u6=>
 L 38 1 37 false u6 fun u7=>
 C0 Tryz.prog 96 [(u7.τ 32),(u7.τ 36),(u7.τ 38)] 39 u7 fun u8=>
 M 40 0 u8 fun u9=>
 @sChk (compat (cfp 39 96 [(u7.τ 32),(u7.τ 36),(u7.τ 38)]) (occ (u9.τ 3),[])) <| .mk <|
 F 41 3 3 u9 fun u10=>
 @sChk (compat (cfp 39 96 [(u7.τ 32),(u7.τ 36),(u7.τ 38)]) (occ (u10.τ 41),[])) <| .mk <|
 L 42 4 41 true u10 fun u11=>
 C0 Tryz.prog 97 [(u11.τ 40),(u11.τ 42)] 43 u11 fun u12=>
 @sChk (compat (cfp 43 97 [(u11.τ 40),(u11.τ 42)]) (occ (u12.τ 5),[])) <| .mk <|
 F 44 1 5 u12 fun u13=>
 U 1 44 39 u13 fun u14=>
 F 45 4 5 u14 fun u15=>
 U 4 45 43 u15 fun s=>
 W68_k5 Φ s
def W68_b13 (Φ:EP) (s:St):Prop:=
 M 50 0 s fun s=>
 M 51 0 s fun s=>
 @sOp (some 52) (xNil (s.τ 51) s.H) s<|.mk fun s=>
 F 53 1 52 s fun s=>
 L 54 1 53 false s fun s=>
 F 55 1 3 s fun s=>
 L 56 1 55 false s fun s=>
 C0 Tryz.prog 96 [(s.τ 50),(s.τ 54),(s.τ 56)] 57 s fun s=>
 F 58 1 5 s fun s=>
 U 1 58 57 s fun s=>
 W68_k5 Φ s
def W68_b16 (Φ:EP) (s:St):Prop:=
 M 61 0 s fun u1=>
 M 62 0 u1 fun u2=>
 @sOp (some 63) (xNil (u2.τ 62) u2.H) u2<|.mk fun u3=>
 F 64 1 63 u3 fun u4=>
 L 65 1 64 false u4 fun u5=>
 F 66 1 3 u5 fun u6=>
 L 67 1 66 false u6 fun u7=>
 C0 Tryz.prog 96 [(u7.τ 61),(u7.τ 65),(u7.τ 67)] 68 u7 fun u8=>
 M 69 0 u8 fun u9=>
 M 70 0 u9 fun u10=>
 @sChk (compat (cfp 68 96 [(u7.τ 61),(u7.τ 65),(u7.τ 67)]) (occ (u10.τ 70),[])) <| .mk <|
 @sOp (some 71) (xNil (u10.τ 70) u10.H) u10<|.mk fun u11=>
 @sChk (compat (cfp 68 96 [(u7.τ 61),(u7.τ 65),(u7.τ 67)]) (occ (u11.τ 71),[])) <| .mk <|
 F 72 1 71 u11 fun u12=>
 @sChk (compat (cfp 68 96 [(u7.τ 61),(u7.τ 65),(u7.τ 67)]) (occ (u12.τ 72),[])) <| .mk <|
 L 73 1 72 false u12 fun u13=>
 @sChk (compat (cfp 68 96 [(u7.τ 61),(u7.τ 65),(u7.τ 67)]) (occ (u13.τ 3),[])) <| .mk <|
 F 74 2 3 u13 fun u14=>
 @sChk (compat (cfp 68 96 [(u7.τ 61),(u7.τ 65),(u7.τ 67)]) (occ (u14.τ 74),[])) <| .mk <|
 L 75 1 74 false u14 fun u15=>
 C0 Tryz.prog 96 [(u15.τ 69),(u15.τ 73),(u15.τ 75)] 76 u15 fun u16=>
 @sChk (compat (cfp 76 96 [(u15.τ 69),(u15.τ 73),(u15.τ 75)]) (occ (u16.τ 5),[])) <| .mk <|
 F 77 1 5 u16 fun u17=>
 U 1 77 68 u17 fun u18=>
 F 78 2 5 u18 fun u19=>
 U 1 78 76 u19 fun s=>
 W68_k5 Φ s
def W68_b18 (Φ:EP) (s:St):Prop:=
 M 81 0 s fun s=>
 F 82 3 3 s fun s=>
 L 83 4 82 true s fun s=>
 Ca Tryz.prog 97 [(s.τ 81),(s.τ 83)] 84 s fun s=>
 F 85 4 5 s fun s=>
 U 4 85 84 s fun s=>
 W68_k5 Φ s
def W68_b20 (Φ:EP) (s:St):Prop:=
 M 88 0 s fun s=>
 M 89 0 s fun s=>
 @sOp (some 90) (xNil (s.τ 89) s.H) s<|.mk fun s=>
 F 91 2 90 s fun s=>
 L 92 1 91 false s fun s=>
 F 93 1 3 s fun s=>
 L 94 1 93 false s fun s=>
 C0 Tryz.prog 96 [(s.τ 88),(s.τ 92),(s.τ 94)] 95 s fun s=>
 F 96 1 5 s fun s=>
 U 1 96 95 s fun s=>
 W68_k5 Φ s
def W68_b21 (Φ:EP) (s:St):Prop:=
 J 87 .eql false 11 13 s fun s=>
 M 86 87 s fun s=>
 If 86 s (W68_b20 Φ s) (W68_k5 Φ s)
def W68_b22 (Φ:EP) (s:St):Prop:=
 J 80 .eql false 11 9 s fun s=>
 M 79 80 s fun s=>
 If 79 s (W68_b18 Φ s) (W68_b21 Φ s)
def W68_b23 (Φ:EP) (s:St):Prop:=
 J 60 .eql false 11 6 s fun s=>
 M 59 60 s fun s=>
 If 59 s (W68_b16 Φ s) (W68_b22 Φ s)
def W68_k24 (Φ:EP) (s:St):Prop:=
 If 46 s (W68_b13 Φ s) (W68_b23 Φ s)
def W68_b25 (Φ:EP) (s:St):Prop:=
 J 49 .eql false 11 5 s fun s=>
 M 46 49 s fun s=>
 W68_k24 Φ s
def W68_b26 (Φ:EP) (s:St):Prop:=
 J 48 .eql false 11 4 s fun s=>
 M 46 48 s fun s=>
 If 46 s (W68_k24 Φ s) (W68_b25 Φ s)
def W68_b27 (Φ:EP) (s:St):Prop:=
 J 47 .eql false 11 3 s fun s=>
 M 46 47 s fun s=>
 If 46 s (W68_k24 Φ s) (W68_b26 Φ s)
def W68_b28 (Φ:EP) (s:St):Prop:=
 J 31 .eql false 11 2 s fun s=>
 M 30 31 s fun s=>
 If 30 s (W68_b11 Φ s) (W68_b27 Φ s)
def W68 (Φ:EP) (s:St):Prop:=
 Y 3 80 1 s fun s=>
 Z 4 35 z9 s fun s=>
 F 7 0 3 s fun s=>
 L 8 1 7 false s fun s=>
 Bd 9 z9 [(0,1,(s.τ 8))] s fun s=>
 Z 5 35 z9 s fun s=>
 U 9 5 9 s fun s=>
 F 10 0 3 s fun s=>
 L 11 1 10 false s fun s=>
 J 13 .eql false 11 1 s fun s=>
 M 12 13 s fun s=>
 If 12 s (W68_b8 Φ s) (W68_b28 Φ s)
theorem W68_rs (τ:Nat → AV) (H:Heap):resV Tryz.prog τ H [.cell 4 35] = rdV H 9 true (τ 4):=by kernel_rfl
theorem W68_eq:EqW Tryz.prog Tryz.f68 W68:=fun _ _=>by kernel_rfl
theorem W68_S:SpW Tryz.prog 68 117 [.cell 4 35] W68:=spW Tryz.func68 Tryz.ntmps68 W68_eq
-- 69 "penance/penanceref4.round"
def W69_k1 (Φ:EP) (s:St):Prop:=
 V 2 false s fun s=>
 Φ .ret s
def W69_b2 (Φ:EP) (L0:SP) (s:St):Prop:=
 V 2 true s fun s=>
 Φ .ret s
def W69_b3 (Φ:EP) (L0:SP) (s:St):Prop:=
 M 62 8 s fun s=>
 J 63 .add false 62 1 s fun s=>
 M 8 63 s fun s=>
 L0 s
def W69_b4 (Φ:EP) (L0:SP) (s:St):Prop:=
 M 64 3 s fun s=>
 M 65 8 s fun s=>
 X 66 1 64 65 s fun s=>
 L 67 1 66 false s fun s=>
 M 68 8 s fun s=>
 X 69 1 67 68 s fun s=>
 L 70 1 69 false s fun s=>
 If 70 s (W69_b2 Φ L0 s) (W69_b3 Φ L0 s)
def W69_l5 (Φ:EP) (L0:SP) (s:St):Prop:=
 M 59 8 s fun s=>
 M 60 4 s fun s=>
 B 61 .lss false 59 60 s fun s=>
 If 61 s (W69_b4 Φ L0 s) (W69_k1 Φ s)
def W69_k6 (Φ:EP) (s:St):Prop:=
 I 8 0 s fun s=>
 @sLoop s ⟨fun L0 s=>W69_l5 Φ L0 s⟩
def W69_k7 (Φ:EP) (L0:SP) (s:St):Prop:=
 M 16 5 s fun s=>
 J 17 .add false 16 1 s fun s=>
 M 5 17 s fun s=>
 L0 s
def W69_k8 (Φ:EP) (L0:SP) (L1:SP) (s:St):Prop:=
 M 21 6 s fun s=>
 J 22 .add false 21 1 s fun s=>
 M 6 22 s fun s=>
 L1 s
def W69_b25 (Φ:EP) (L0:SP) (L1:SP) (L2:SP) (s:St):Prop:=
 M 28 3 s fun s=>
 M 29 6 s fun s=>
 X 30 1 28 29 s fun s=>
 L 31 1 30 false s fun s=>
 M 32 7 s fun s=>
 M 33 3 s fun s=>
 M 34 6 s fun s=>
 X 35 1 33 34 s fun s=>
 L 36 1 35 false s fun s=>
 M 37 7 s fun s=>
 X 38 1 36 37 s fun s=>
 L 39 1 38 false s fun s=>
 M 40 39 s fun s=>
 gm 41 3 40 false s fun s=>
 gm 42 6 40 false s fun s=>
 go 43 40 false s (fun s=>(xIx 1 (s.τ 41) (s.τ 42) s.H)) fun s=>
 gl 44 1 43 40 false false s fun s=>
 gm 45 5 40 false s fun s=>
 go 46 40 false s (fun s=>(xIx 1 (s.τ 44) (s.τ 45) s.H)) fun s=>
 gl 47 1 46 40 false false s fun s=>
 gm 48 47 40 false s fun s=>
 gm 49 3 48 true s fun s=>
 gm 50 5 48 true s fun s=>
 go 51 48 true s (fun s=>(xIx 1 (s.τ 49) (s.τ 50) s.H)) fun s=>
 gl 52 1 51 48 false true s fun s=>
 gm 53 7 48 true s fun s=>
 go 54 48 true s (fun s=>(xIx 1 (s.τ 52) (s.τ 53) s.H)) fun s=>
 gl 55 1 54 48 false true s fun s=>
 go 56 40 false s (fun s=>(xPick (s.τ 48) (s.τ 55) (.bool false) s.H)) fun s=>
 O 57 40 56 s fun s=>
 X 58 1 31 32 s fun s=>
 U 1 58 57 s fun s=>
 M 26 7 s fun s=>
 J 27 .add false 26 1 s fun s=>
 M 7 27 s fun s=>
 L2 s
def W69_l26 (Φ:EP) (L0:SP) (L1:SP) (L2:SP) (s:St):Prop:=
 M 23 7 s fun s=>
 M 24 4 s fun s=>
 B 25 .lss false 23 24 s fun s=>
 If 25 s (W69_b25 Φ L0 L1 L2 s) (W69_k8 Φ L0 L1 s)
def W69_b27 (Φ:EP) (L0:SP) (L1:SP) (s:St):Prop:=
 I 7 0 s fun s=>
 @sLoop s ⟨fun L2 s=>W69_l26 Φ L0 L1 L2 s⟩
def W69_l28 (Φ:EP) (L0:SP) (L1:SP) (s:St):Prop:=
 M 18 6 s fun s=>
 M 19 4 s fun s=>
 B 20 .lss false 18 19 s fun s=>
 If 20 s (W69_b27 Φ L0 L1 s) (W69_k7 Φ L0 s)
def W69_b29 (Φ:EP) (L0:SP) (s:St):Prop:=
 I 6 0 s fun s=>
 @sLoop s ⟨fun L1 s=>W69_l28 Φ L0 L1 s⟩
def W69_l30 (Φ:EP) (L0:SP) (s:St):Prop:=
 M 13 5 s fun s=>
 M 14 4 s fun s=>
 B 15 .lss false 13 14 s fun s=>
 If 15 s (W69_b29 Φ L0 s) (W69_k6 Φ s)
def W69 (Φ:EP) (s:St):Prop:=
 Y 1 76 0 s fun s=>
 V 2 false s fun s=>
 L 9 3 1 true s fun s=>
 Ca Tryz.prog 98 [(s.τ 9)] 10 s fun s=>
 M 3 10 s fun s=>
 M 11 3 s fun s=>
 N 12 11 s fun s=>
 M 4 12 s fun s=>
 I 5 0 s fun s=>
 @sLoop s ⟨fun L0 s=>W69_l30 Φ L0 s⟩
theorem W69_rs (τ:Nat → AV) (H:Heap):resV Tryz.prog τ H [.tmp 2] = some (τ 2):=by kernel_rfl
theorem W69_eq:EqW Tryz.prog Tryz.f69 W69:=fun _ _=>by kernel_rfl
theorem W69_S:SpW Tryz.prog 69 71 [.tmp 2] W69:=spW Tryz.func69 Tryz.ntmps69 W69_eq
-- 70 "penance/penancelaw3.Stacks"
def W70 (Φ:EP) (s:St):Prop:=
 @sOp (some 0) (xMov (.nils) s.H) s<|.mk fun s=>
 Lt 1 1 2 [.str ⟨#[]⟩] [(0,(.str ⟨#[115]⟩)),(1,(.str ⟨#[117,110,100,111]⟩))] s fun s=>
 M 0 1 s fun s=>
 Φ .ret s
theorem W70_rs (τ:Nat → AV) (H:Heap):resV Tryz.prog τ H [.tmp 0] = some (τ 0):=by kernel_rfl
theorem W70_eq:EqW Tryz.prog Tryz.f70 W70:=fun _ _=>by kernel_rfl
theorem W70_S:SpW Tryz.prog 70 2 [.tmp 0] W70:=spW Tryz.func70 Tryz.ntmps70 W70_eq
-- 71 "penance/penancelaw3.Vars"
def W71 (Φ:EP) (s:St):Prop:=
 @sOp (some 0) (xMov (.nils) s.H) s<|.mk fun s=>
 Lt 1 1 3 [.str ⟨#[]⟩] [(0,(.str ⟨#[120]⟩)),(1,(.str ⟨#[121]⟩)),(2,(.str ⟨#[116,111,116,97,108]⟩))] s fun s=>
 M 0 1 s fun s=>
 Φ .ret s
theorem W71_rs (τ:Nat → AV) (H:Heap):resV Tryz.prog τ H [.tmp 0] = some (τ 0):=by kernel_rfl
theorem W71_eq:EqW Tryz.prog Tryz.f71 W71:=fun _ _=>by kernel_rfl
theorem W71_S:SpW Tryz.prog 71 2 [.tmp 0] W71:=spW Tryz.func71 Tryz.ntmps71 W71_eq
-- 72 "penance/penancelaw3.within"
def W72_k1 (Φ:EP) (s:St):Prop:=
 M 14 5 s fun s=>
 M 4 14 s fun s=>
 Φ .ret s
def W72_b2 (Φ:EP) (s:St):Prop:=
 M 11 5 s fun s=>
 M 12 1 s fun s=>
 B 13 .add false 11 12 s fun s=>
 M 5 13 s fun s=>
 W72_k1 Φ s
def W72 (Φ:EP) (s:St):Prop:=
 I 4 0 s fun s=>
 M 6 0 s fun s=>
 M 7 1 s fun s=>
 B 8 .rem false 6 7 s fun s=>
 M 5 8 s fun s=>
 M 9 5 s fun s=>
 J 10 .lss false 9 0 s fun s=>
 If 10 s (W72_b2 Φ s) (W72_k1 Φ s)
theorem W72_rs (τ:Nat → AV) (H:Heap):resV Tryz.prog τ H [.tmp 4] = some (τ 4):=by kernel_rfl
theorem W72_eq:EqW Tryz.prog Tryz.f72 W72:=fun _ _=>by kernel_rfl
theorem W72_S:SpW Tryz.prog 72 15 [.tmp 4] W72:=spW Tryz.func72 Tryz.ntmps72 W72_eq
-- 73 "penance/penancelaw3.Defs"
def W73 (Φ:EP) (s:St):Prop:=
 @sOp (some 0) (xMov (.nils) s.H) s<|.mk fun s=>
 Lt 1 1 5 [.str ⟨#[]⟩] [(0,(.str ⟨#[109,97,105,110]⟩)),(1,(.str ⟨#[112]⟩)),(2,(.str ⟨#[113]⟩)),(3,(.str ⟨#[114,101,116,114,121]⟩)),(4,(.str ⟨#[108,97,115,116]⟩))] s fun s=>
 M 0 1 s fun s=>
 Φ .ret s
theorem W73_rs (τ:Nat → AV) (H:Heap):resV Tryz.prog τ H [.tmp 0] = some (τ 0):=by kernel_rfl
theorem W73_eq:EqW Tryz.prog Tryz.f73 W73:=fun _ _=>by kernel_rfl
theorem W73_S:SpW Tryz.prog 73 2 [.tmp 0] W73:=spW Tryz.func73 Tryz.ntmps73 W73_eq
-- 74 "(penance/penancelaw3.Raw).Make"
def W74_b2 (Φ:EP) (s:St):Prop:=
 Lt 40 1 3 [.str ⟨#[]⟩] [(0,(.str ⟨#[112,97,121]⟩)),(1,(.str ⟨#[115,104,105,112]⟩)),(2,(.str ⟨#[97,115,107]⟩))] s fun s=>
 F 41 2 2 s fun s=>
 L 42 1 41 false s fun s=>
 Ca Tryz.prog 72 [(s.τ 42),(.int .i64 3)] 43 s fun s=>
 X 44 1 40 43 s fun s=>
 L 45 1 44 false s fun s=>
 Bd 46 [.int .i64 0,.str ⟨#[]⟩,.str ⟨#[]⟩,.int .i64 0,.int .i64 0,.str ⟨#[]⟩,.nils,.nils] [(0,1,(.int .i64 1)),(1,1,(s.τ 45))] s fun s=>
 U 8 4 46 s fun s=>
 Φ .ret s
def W74_b4 (Φ:EP) (s:St):Prop:=
 Lt 50 1 3 [.str ⟨#[]⟩] [(0,(.str ⟨#[112,97,121]⟩)),(1,(.str ⟨#[115,104,105,112]⟩)),(2,(.str ⟨#[97,115,107]⟩))] s fun s=>
 F 51 2 2 s fun s=>
 L 52 1 51 false s fun s=>
 Ca Tryz.prog 72 [(s.τ 52),(.int .i64 3)] 53 s fun s=>
 X 54 1 50 53 s fun s=>
 L 55 1 54 false s fun s=>
 M 56 5 s fun s=>
 Bd 57 [.int .i64 0,.str ⟨#[]⟩,.str ⟨#[]⟩,.int .i64 0,.int .i64 0,.str ⟨#[]⟩,.nils,.nils] [(0,1,(.int .i64 1)),(1,1,(s.τ 55)),(2,1,(s.τ 56))] s fun s=>
 U 8 4 57 s fun s=>
 Φ .ret s
def W74_b7 (Φ:EP) (s:St):Prop:=
 M 60 5 s fun u1=>
 F 61 3 2 u1 fun u2=>
 L 62 1 61 false u2 fun u3=>
 k3 (u1.τ 2) (cfp 63 71 []) <|
 k3 (u2.τ 61) (cfp 63 71 []) <|
 C0 Tryz.prog 71 [] 63 u3 fun u4=>
 C0 Tryz.prog 100 [(u4.τ 62),(u4.τ 63)] 64 u4 fun u5=>
 Bd 65 [.int .i64 0,.str ⟨#[]⟩,.str ⟨#[]⟩,.int .i64 0,.int .i64 0,.str ⟨#[]⟩,.nils,.nils] [(0,1,(.int .i64 2)),(2,1,(u5.τ 60)),(3,4,(u5.τ 64))] u5 fun u6=>
 U 8 4 65 u6 fun s=>
 Φ .ret s
def W74_b8 (Φ:EP) (s:St):Prop:=
 M 69 6 s fun s=>
 L 70 8 8 true s fun s=>
 Lt 71 8 1 [.int .i64 0,.str ⟨#[]⟩,.str ⟨#[]⟩,.int .i64 0,.int .i64 0,.str ⟨#[]⟩,.nils,.nils] [(0,(s.τ 70))] s fun s=>
 Bd 72 [.int .i64 0,.str ⟨#[]⟩,.str ⟨#[]⟩,.int .i64 0,.int .i64 0,.str ⟨#[]⟩,.nils,.nils] [(0,1,(.int .i64 3)),(1,1,(s.τ 69)),(7,1,(s.τ 71))] s fun s=>
 U 8 4 72 s fun s=>
 Φ .ret s
def W74_b9 (Φ:EP) (s:St):Prop:=
 M 75 6 s fun s=>
 Bd 76 [.int .i64 0,.str ⟨#[]⟩,.str ⟨#[]⟩,.int .i64 0,.int .i64 0,.str ⟨#[]⟩,.nils,.nils] [(0,1,(.int .i64 4)),(1,1,(s.τ 75))] s fun s=>
 U 8 4 76 s fun s=>
 Φ .ret s
def W74_b10 (Φ:EP) (s:St):Prop:=
 M 79 6 s fun s=>
 Bd 80 [.int .i64 0,.str ⟨#[]⟩,.str ⟨#[]⟩,.int .i64 0,.int .i64 0,.str ⟨#[]⟩,.nils,.nils] [(0,1,(.int .i64 5)),(1,1,(s.τ 79))] s fun s=>
 U 8 4 80 s fun s=>
 Φ .ret s
def W74_b13 (Φ:EP) (s:St):Prop:=
 M 83 6 s fun u1=>
 C0 Tryz.prog 70 [] 84 u1 fun u2=>
 @sChk (compat (cfp 84 70 []) (occ (u2.τ 2),[])) <| .mk <|
 F 85 2 2 u2 fun u3=>
 @sChk (compat (cfp 84 70 []) (occ (u3.τ 85),[])) <| .mk <|
 L 86 1 85 false u3 fun u4=>
 C0 Tryz.prog 72 [(u4.τ 86),(.int .i64 2)] 87 u4 fun u5=>
 X 88 1 84 87 u5 fun u6=>
 L 89 1 88 false u6 fun u7=>
 Bd 90 [.int .i64 0,.str ⟨#[]⟩,.str ⟨#[]⟩,.int .i64 0,.int .i64 0,.str ⟨#[]⟩,.nils,.nils] [(0,1,(.int .i64 6)),(1,1,(u7.τ 83)),(2,1,(u7.τ 89))] u7 fun u8=>
 U 8 4 90 u8 fun s=>
 Φ .ret s
def W74_b14 (Φ:EP) (s:St):Prop:=
 L 93 8 8 true s fun s=>
 Lt 94 8 1 [.int .i64 0,.str ⟨#[]⟩,.str ⟨#[]⟩,.int .i64 0,.int .i64 0,.str ⟨#[]⟩,.nils,.nils] [(0,(s.τ 93))] s fun s=>
 Bd 95 [.int .i64 0,.str ⟨#[]⟩,.str ⟨#[]⟩,.int .i64 0,.int .i64 0,.str ⟨#[]⟩,.nils,.nils] [(0,1,(.int .i64 7)),(7,1,(s.τ 94))] s fun s=>
 U 8 4 95 s fun s=>
 Φ .ret s
def W74_b15 (Φ:EP) (s:St):Prop:=
 Bd 98 [.int .i64 0,.str ⟨#[]⟩,.str ⟨#[]⟩,.int .i64 0,.int .i64 0,.str ⟨#[]⟩,.nils,.nils] [(0,1,(.int .i64 8))] s fun s=>
 U 8 4 98 s fun s=>
 Φ .ret s
def W74_b18 (Φ:EP) (s:St):Prop:=
 F 101 3 2 s fun u1=>
 L 102 1 101 false u1 fun u2=>
 k3 (s.τ 2) (cfp 103 71 []) <|
 k3 (u1.τ 101) (cfp 103 71 []) <|
 C0 Tryz.prog 71 [] 103 u2 fun u3=>
 C0 Tryz.prog 100 [(u3.τ 102),(u3.τ 103)] 104 u3 fun u4=>
 @sChk (compat (cfp 103 71 []) (occ (u4.τ 8),[])) <| .mk <|
 @sChk (compat (cfp 104 100 [(u3.τ 102),(u3.τ 103)]) (occ (u4.τ 8),[])) <| .mk <|
 L 105 8 8 true u4 fun u5=>
 @sChk (compat (cfp 103 71 []) (occ (u5.τ 9),[])) <| .mk <|
 @sChk (compat (cfp 104 100 [(u3.τ 102),(u3.τ 103)]) (occ (u5.τ 9),[])) <| .mk <|
 L 106 8 9 true u5 fun u6=>
 k3 (s.τ 2) ([107] ++ occL [(u6.τ 105),(u6.τ 106)],[107] ++ occL [(u6.τ 105),(u6.τ 106)]) <|
 k3 (u1.τ 101) ([107] ++ occL [(u6.τ 105),(u6.τ 106)],[107] ++ occL [(u6.τ 105),(u6.τ 106)]) <|
 @sChk (compat (cfp 103 71 []) ([107] ++ occL [(u6.τ 105),(u6.τ 106)],[107] ++ occL [(u6.τ 105),(u6.τ 106)])) <| .mk <|
 @sChk (compat (cfp 104 100 [(u3.τ 102),(u3.τ 103)]) ([107] ++ occL [(u6.τ 105),(u6.τ 106)],[107] ++ occL [(u6.τ 105),(u6.τ 106)])) <| .mk <|
 Lt 107 8 2 [.int .i64 0,.str ⟨#[]⟩,.str ⟨#[]⟩,.int .i64 0,.int .i64 0,.str ⟨#[]⟩,.nils,.nils] [(0,(u6.τ 105)),(1,(u6.τ 106))] u6 fun u7=>
 Bd 108 [.int .i64 0,.str ⟨#[]⟩,.str ⟨#[]⟩,.int .i64 0,.int .i64 0,.str ⟨#[]⟩,.nils,.nils] [(0,1,(.int .i64 9)),(3,4,(u7.τ 104)),(7,1,(u7.τ 107))] u7 fun u8=>
 U 8 4 108 u8 fun s=>
 Φ .ret s
def W74_b19 (Φ:EP) (s:St):Prop:=
 L 111 8 8 true s fun s=>
 L 112 8 9 true s fun s=>
 Lt 113 8 2 [.int .i64 0,.str ⟨#[]⟩,.str ⟨#[]⟩,.int .i64 0,.int .i64 0,.str ⟨#[]⟩,.nils,.nils] [(0,(s.τ 111)),(1,(s.τ 112))] s fun s=>
 Bd 114 [.int .i64 0,.str ⟨#[]⟩,.str ⟨#[]⟩,.int .i64 0,.int .i64 0,.str ⟨#[]⟩,.nils,.nils] [(0,1,(.int .i64 10)),(7,1,(s.τ 113))] s fun s=>
 U 8 4 114 s fun s=>
 Φ .ret s
def W74_b20 (Φ:EP) (s:St):Prop:=
 L 118 8 8 true s fun s=>
 L 119 8 9 true s fun s=>
 Lt 120 8 2 [.int .i64 0,.str ⟨#[]⟩,.str ⟨#[]⟩,.int .i64 0,.int .i64 0,.str ⟨#[]⟩,.nils,.nils] [(0,(s.τ 118)),(1,(s.τ 119))] s fun s=>
 Bd 121 [.int .i64 0,.str ⟨#[]⟩,.str ⟨#[]⟩,.int .i64 0,.int .i64 0,.str ⟨#[]⟩,.nils,.nils] [(0,1,(.int .i64 11)),(7,1,(s.τ 120))] s fun s=>
 U 8 4 121 s fun s=>
 Φ .ret s
def W74_b21 (Φ:EP) (s:St):Prop:=
 M 124 7 s fun s=>
 Bd 125 [.int .i64 0,.str ⟨#[]⟩,.str ⟨#[]⟩,.int .i64 0,.int .i64 0,.str ⟨#[]⟩,.nils,.nils] [(0,1,(.int .i64 13)),(1,1,(s.τ 124))] s fun s=>
 U 8 4 125 s fun s=>
 Φ .ret s
def W74_b22 (Φ:EP) (s:St):Prop:=
 Bd 128 [.int .i64 0,.str ⟨#[]⟩,.str ⟨#[]⟩,.int .i64 0,.int .i64 0,.str ⟨#[]⟩,.nils,.nils] [(0,1,(.int .i64 0))] s fun s=>
 U 8 4 128 s fun s=>
 Φ .ret s
def W74_b23 (Φ:EP) (s:St):Prop:=
 L 129 8 8 true s fun s=>
 L 130 8 9 true s fun s=>
 Lt 131 8 2 [.int .i64 0,.str ⟨#[]⟩,.str ⟨#[]⟩,.int .i64 0,.int .i64 0,.str ⟨#[]⟩,.nils,.nils] [(0,(s.τ 129)),(1,(s.τ 130))] s fun s=>
 Bd 132 [.int .i64 0,.str ⟨#[]⟩,.str ⟨#[]⟩,.int .i64 0,.int .i64 0,.str ⟨#[]⟩,.nils,.nils] [(0,1,(.int .i64 12)),(7,1,(s.τ 131))] s fun s=>
 U 8 4 132 s fun s=>
 Φ .ret s
def W74_b24 (Φ:EP) (s:St):Prop:=
 J 127 .eql false 36 17 s fun s=>
 M 126 127 s fun s=>
 If 126 s (W74_b22 Φ s) (W74_b23 Φ s)
def W74_b25 (Φ:EP) (s:St):Prop:=
 J 123 .eql false 36 16 s fun s=>
 M 122 123 s fun s=>
 If 122 s (W74_b21 Φ s) (W74_b24 Φ s)
def W74_k26 (Φ:EP) (s:St):Prop:=
 If 115 s (W74_b20 Φ s) (W74_b25 Φ s)
def W74_b27 (Φ:EP) (s:St):Prop:=
 J 117 .eql false 36 15 s fun s=>
 M 115 117 s fun s=>
 W74_k26 Φ s
def W74_b28 (Φ:EP) (s:St):Prop:=
 J 116 .eql false 36 14 s fun s=>
 M 115 116 s fun s=>
 If 115 s (W74_k26 Φ s) (W74_b27 Φ s)
def W74_b29 (Φ:EP) (s:St):Prop:=
 J 110 .eql false 36 13 s fun s=>
 M 109 110 s fun s=>
 If 109 s (W74_b19 Φ s) (W74_b28 Φ s)
def W74_b30 (Φ:EP) (s:St):Prop:=
 J 100 .eql false 36 12 s fun s=>
 M 99 100 s fun s=>
 If 99 s (W74_b18 Φ s) (W74_b29 Φ s)
def W74_b31 (Φ:EP) (s:St):Prop:=
 J 97 .eql false 36 11 s fun s=>
 M 96 97 s fun s=>
 If 96 s (W74_b15 Φ s) (W74_b30 Φ s)
def W74_b32 (Φ:EP) (s:St):Prop:=
 J 92 .eql false 36 10 s fun s=>
 M 91 92 s fun s=>
 If 91 s (W74_b14 Φ s) (W74_b31 Φ s)
def W74_b33 (Φ:EP) (s:St):Prop:=
 J 82 .eql false 36 9 s fun s=>
 M 81 82 s fun s=>
 If 81 s (W74_b13 Φ s) (W74_b32 Φ s)
def W74_b34 (Φ:EP) (s:St):Prop:=
 J 78 .eql false 36 8 s fun s=>
 M 77 78 s fun s=>
 If 77 s (W74_b10 Φ s) (W74_b33 Φ s)
def W74_b35 (Φ:EP) (s:St):Prop:=
 J 74 .eql false 36 7 s fun s=>
 M 73 74 s fun s=>
 If 73 s (W74_b9 Φ s) (W74_b34 Φ s)
def W74_k36 (Φ:EP) (s:St):Prop:=
 If 66 s (W74_b8 Φ s) (W74_b35 Φ s)
def W74_b37 (Φ:EP) (s:St):Prop:=
 J 68 .eql false 36 6 s fun s=>
 M 66 68 s fun s=>
 W74_k36 Φ s
def W74_b38 (Φ:EP) (s:St):Prop:=
 J 67 .eql false 36 5 s fun s=>
 M 66 67 s fun s=>
 If 66 s (W74_k36 Φ s) (W74_b37 Φ s)
def W74_b39 (Φ:EP) (s:St):Prop:=
 J 59 .eql false 36 4 s fun s=>
 M 58 59 s fun s=>
 If 58 s (W74_b7 Φ s) (W74_b38 Φ s)
def W74_k40 (Φ:EP) (s:St):Prop:=
 If 47 s (W74_b4 Φ s) (W74_b39 Φ s)
def W74_b41 (Φ:EP) (s:St):Prop:=
 J 49 .eql false 36 3 s fun s=>
 M 47 49 s fun s=>
 W74_k40 Φ s
def W74_b42 (Φ:EP) (s:St):Prop:=
 J 48 .eql false 36 2 s fun s=>
 M 47 48 s fun s=>
 If 47 s (W74_k40 Φ s) (W74_b41 Φ s)
def W74_k43 (Φ:EP) (s:St):Prop:=
 If 37 s (W74_b2 Φ s) (W74_b42 Φ s)
def W74_b44 (Φ:EP) (s:St):Prop:=
 J 39 .eql false 36 1 s fun s=>
 M 37 39 s fun s=>
 W74_k43 Φ s
def W74 (Φ:EP) (s:St):Prop:=
 Y 2 69 0 s fun s=>
 Z 4 80 [.int .i64 0,.str ⟨#[]⟩,.str ⟨#[]⟩,.int .i64 0,.int .i64 0,.str ⟨#[]⟩,.nils,.nils] s fun s=>
 C0 Tryz.prog 71 [] 10 s fun u1=>
 @sChk (compat (cfp 10 71 []) (occ (u1.τ 2),[])) <| .mk <|
 F 11 1 2 u1 fun u2=>
 @sChk (compat (cfp 10 71 []) (occ (u2.τ 11),[])) <| .mk <|
 L 12 1 11 false u2 fun u3=>
 C0 Tryz.prog 72 [(u3.τ 12),(.int .i64 3)] 13 u3 fun u4=>
 X 14 1 10 13 u4 fun u5=>
 L 15 1 14 false u5 fun u6=>
 k3 (u4.τ 10) (cfp 16 70 []) <|
 k3 (u5.τ 14) (cfp 16 70 []) <|
 C0 Tryz.prog 70 [] 16 u6 fun u7=>
 @sChk (compat (cfp 10 71 []) (occ (u7.τ 2),[])) <| .mk <|
 @sChk (compat (cfp 13 72 [(u3.τ 12),(.int .i64 3)]) (occ (u7.τ 2),[])) <| .mk <|
 @sChk (compat (cfp 16 70 []) (occ (u7.τ 2),[])) <| .mk <|
 F 17 1 2 u7 fun u8=>
 @sChk (compat (cfp 10 71 []) (occ (u8.τ 17),[])) <| .mk <|
 @sChk (compat (cfp 13 72 [(u3.τ 12),(.int .i64 3)]) (occ (u8.τ 17),[])) <| .mk <|
 @sChk (compat (cfp 16 70 []) (occ (u8.τ 17),[])) <| .mk <|
 L 18 1 17 false u8 fun u9=>
 k3 (u4.τ 10) (cfp 19 72 [(u9.τ 18),(.int .i64 2)]) <|
 k3 (u5.τ 14) (cfp 19 72 [(u9.τ 18),(.int .i64 2)]) <|
 C0 Tryz.prog 72 [(u9.τ 18),(.int .i64 2)] 19 u9 fun u10=>
 X 20 1 16 19 u10 fun u11=>
 L 21 1 20 false u11 fun u12=>
 k3 (u4.τ 10) (cfp 22 73 []) <|
 k3 (u5.τ 14) (cfp 22 73 []) <|
 k3 (u10.τ 16) (cfp 22 73 []) <|
 k3 (u11.τ 20) (cfp 22 73 []) <|
 C0 Tryz.prog 73 [] 22 u12 fun u13=>
 @sChk (compat (cfp 10 71 []) (occ (u13.τ 2),[])) <| .mk <|
 @sChk (compat (cfp 13 72 [(u3.τ 12),(.int .i64 3)]) (occ (u13.τ 2),[])) <| .mk <|
 @sChk (compat (cfp 16 70 []) (occ (u13.τ 2),[])) <| .mk <|
 @sChk (compat (cfp 19 72 [(u9.τ 18),(.int .i64 2)]) (occ (u13.τ 2),[])) <| .mk <|
 @sChk (compat (cfp 22 73 []) (occ (u13.τ 2),[])) <| .mk <|
 F 23 1 2 u13 fun u14=>
 @sChk (compat (cfp 10 71 []) (occ (u14.τ 23),[])) <| .mk <|
 @sChk (compat (cfp 13 72 [(u3.τ 12),(.int .i64 3)]) (occ (u14.τ 23),[])) <| .mk <|
 @sChk (compat (cfp 16 70 []) (occ (u14.τ 23),[])) <| .mk <|
 @sChk (compat (cfp 19 72 [(u9.τ 18),(.int .i64 2)]) (occ (u14.τ 23),[])) <| .mk <|
 @sChk (compat (cfp 22 73 []) (occ (u14.τ 23),[])) <| .mk <|
 L 24 1 23 false u14 fun u15=>
 k3 (u4.τ 10) (cfp 25 72 [(u15.τ 24),(.int .i64 5)]) <|
 k3 (u5.τ 14) (cfp 25 72 [(u15.τ 24),(.int .i64 5)]) <|
 k3 (u10.τ 16) (cfp 25 72 [(u15.τ 24),(.int .i64 5)]) <|
 k3 (u11.τ 20) (cfp 25 72 [(u15.τ 24),(.int .i64 5)]) <|
 C0 Tryz.prog 72 [(u15.τ 24),(.int .i64 5)] 25 u15 fun u16=>
 X 26 1 22 25 u16 fun u17=>
 L 27 1 26 false u17 fun u18=>
 M 5 15 u18 fun u19=>
 M 6 21 u19 fun u20=>
 M 7 27 u20 fun s=>
 L 28 5 2 true s fun u1=>
 M 29 1 u1 fun u2=>
 C0 Tryz.prog 99 [(u2.τ 28),(.int .i64 0),(u2.τ 29)] 30 u2 fun u3=>
 @sChk (compat (cfp 30 99 [(u2.τ 28),(.int .i64 0),(u2.τ 29)]) (occ (u3.τ 2),[])) <| .mk <|
 L 31 5 2 true u3 fun u4=>
 M 32 1 u4 fun u5=>
 C0 Tryz.prog 99 [(u5.τ 31),(.int .i64 1),(u5.τ 32)] 33 u5 fun u6=>
 k1 (s.τ 2) 8 <|
 k2 (cfp 30 99 [(u2.τ 28),(.int .i64 0),(u2.τ 29)]) 8 <|
 k1 (u3.τ 2) 8 <|
 k2 (cfp 33 99 [(u5.τ 31),(.int .i64 1),(u5.τ 32)]) 8 <|
 Z 8 80 [.int .i64 0,.str ⟨#[]⟩,.str ⟨#[]⟩,.int .i64 0,.int .i64 0,.str ⟨#[]⟩,.nils,.nils] u6 fun u7=>
 k1 (s.τ 2) 9 <|
 k2 (cfp 30 99 [(u2.τ 28),(.int .i64 0),(u2.τ 29)]) 9 <|
 k1 (u3.τ 2) 9 <|
 k2 (cfp 33 99 [(u5.τ 31),(.int .i64 1),(u5.τ 32)]) 9 <|
 k2 ([8],[8]) 9 <|
 Z 9 80 [.int .i64 0,.str ⟨#[]⟩,.str ⟨#[]⟩,.int .i64 0,.int .i64 0,.str ⟨#[]⟩,.nils,.nils] u7 fun u8=>
 U 8 8 30 u8 fun u9=>
 U 8 9 33 u9 fun s=>
 F 34 0 2 s fun s=>
 L 35 1 34 false s fun s=>
 Ca Tryz.prog 72 [(s.τ 35),(.int .i64 20)] 36 s fun s=>
 J 38 .eql false 36 0 s fun s=>
 M 37 38 s fun s=>
 If 37 s (W74_k43 Φ s) (W74_b44 Φ s)
theorem W74_rs (τ:Nat → AV) (H:Heap):resV Tryz.prog τ H [.cell 4 80] = rdV H 8 true (τ 4):=by kernel_rfl
theorem W74_eq:EqW Tryz.prog Tryz.f74 W74:=fun _ _=>by kernel_rfl
theorem W74_S:SpW Tryz.prog 74 133 [.cell 4 80] W74:=spW Tryz.func74 Tryz.ntmps74 W74_eq
-- 75 "penance/term.Norm$1"
def W75 (Φ:EP) (s:St):Prop:=
 Y 1 35 0 s fun s=>
 V 2 false s fun s=>
 F 3 0 1 s fun s=>
 L 4 1 3 false s fun s=>
 J 5 .eql false 4 0 s fun s=>
 M 2 5 s fun s=>
 Φ .ret s
theorem W75_rs (τ:Nat → AV) (H:Heap):resV Tryz.prog τ H [.tmp 2] = some (τ 2):=by kernel_rfl
theorem W75_eq:EqW Tryz.prog Tryz.f75 W75:=fun _ _=>by kernel_rfl
theorem W75_S:SpW Tryz.prog 75 6 [.tmp 2] W75:=spW Tryz.func75 Tryz.ntmps75 W75_eq
-- 76 "penance/term.own"
def W76_k3 (Φ:EP) (s:St):Prop:=
 M 23 3 s fun u1=>
 C0 Tryz.prog 82 [(u1.τ 23)] 24 u1 fun u2=>
 @sChk (compat (cfp 24 82 [(u1.τ 23)]) (occ (u2.τ 1),[])) <| .mk <|
 F 25 4 1 u2 fun u3=>
 @sChk (compat (cfp 24 82 [(u1.τ 23)]) (occ (u3.τ 25),[])) <| .mk <|
 L 26 4 25 true u3 fun u4=>
 C0 Tryz.prog 101 [(u4.τ 26)] 27 u4 fun u5=>
 @sChk (compat (cfp 27 101 [(u4.τ 26)]) (occ (u5.τ 1),[])) <| .mk <|
 F 28 8 1 u5 fun u6=>
 U 1 28 24 u6 fun u7=>
 F 29 4 1 u7 fun u8=>
 U 4 29 27 u8 fun s=>
 L 30 9 1 true s fun s=>
 U 9 2 30 s fun s=>
 Φ .ret s
def W76_b5 (Φ:EP) (L0:SP) (s:St):Prop:=
 X 15 9 11 13 s fun s=>
 L 16 9 15 true s fun s=>
 Z 5 35 z9 s fun s=>
 U 9 5 16 s fun s=>
 M 17 3 s fun s=>
 L 18 9 5 true s fun s=>
 Ca Tryz.prog 76 [(s.τ 18)] 19 s fun s=>
 Lt 20 9 1 z9 [(0,(s.τ 19))] s fun s=>
 @sOp (some 21) (xApp Tryz.prog 35 9 120 (some 21) (s.τ 17) (s.τ 20) s.H) s<|.mk fun s=>
 M 3 21 s fun s=>
 J 22 .add false 13 1 s fun s=>
 M 13 22 s fun s=>
 L0 s
def W76_l6 (Φ:EP) (L0:SP) (s:St):Prop:=
 B 14 .lss false 13 12 s fun s=>
 If 14 s (W76_b5 Φ L0 s) (W76_k3 Φ s)
def W76 (Φ:EP) (s:St):Prop:=
 Y 1 35 0 s fun s=>
 Z 2 35 z9 s fun s=>
 F 6 8 1 s fun s=>
 L 7 1 6 false s fun s=>
 N 8 7 s fun s=>
 @sOp (some 9) (xMks 9 35 9 120 z9 (.int .i64 0) (s.τ 8) s.H) s<|.mk fun s=>
 M 3 9 s fun s=>
 F 10 8 1 s fun s=>
 L 11 1 10 false s fun s=>
 N 12 11 s fun s=>
 I 13 0 s fun s=>
 @sLoop s ⟨fun L0 s=>W76_l6 Φ L0 s⟩
theorem W76_rs (τ:Nat → AV) (H:Heap):resV Tryz.prog τ H [.cell 2 35] = rdV H 9 true (τ 2):=by kernel_rfl
theorem W76_eq:EqW Tryz.prog Tryz.f76 W76:=fun _ _=>by kernel_rfl
theorem W76_S:SpW Tryz.prog 76 31 [.cell 2 35] W76:=spW Tryz.func76 Tryz.ntmps76 W76_eq
-- 77 "penance/stacks.own"
def W77 (Φ:EP) (s:St):Prop:=
 @sOp (some 2) (xMov (.nils) s.H) s<|.mk fun s=>
 M 3 0 s fun s=>
 Ca Tryz.prog 102 [(s.τ 3),(.func 103 [])] 4 s fun s=>
 M 2 4 s fun s=>
 Φ .ret s
theorem W77_rs (τ:Nat → AV) (H:Heap):resV Tryz.prog τ H [.tmp 2] = some (τ 2):=by kernel_rfl
theorem W77_eq:EqW Tryz.prog Tryz.f77 W77:=fun _ _=>by kernel_rfl
theorem W77_S:SpW Tryz.prog 77 5 [.tmp 2] W77:=spW Tryz.func77 Tryz.ntmps77 W77_eq
-- 78 "penance/stacks.is"
def W78 (Φ:EP) (s:St):Prop:=
 V 4 false s fun s=>
 M 5 1 s fun s=>
 J 6 .geq false 5 0 s fun s=>
 M 7 6 s fun s=>
 gm 8 1 7 true s fun s=>
 gm 9 0 7 true s fun s=>
 go 10 7 true s (fun s=>(xLen (s.τ 9) s.H)) fun s=>
 go 11 7 true s (fun s=>(xBin .lss false (s.τ 8) (s.τ 10) s.H)) fun s=>
 A 12 7 11 s fun s=>
 M 4 12 s fun s=>
 Φ .ret s
theorem W78_rs (τ:Nat → AV) (H:Heap):resV Tryz.prog τ H [.tmp 4] = some (τ 4):=by kernel_rfl
theorem W78_eq:EqW Tryz.prog Tryz.f78 W78:=fun _ _=>by kernel_rfl
theorem W78_S:SpW Tryz.prog 78 13 [.tmp 4] W78:=spW Tryz.func78 Tryz.ntmps78 W78_eq
-- 79 "penance/penanceref2.Same"
def W79_b1 (Φ:EP) (s:St):Prop:=
 V 4 false s fun s=>
 Φ .ret s
def W79_k2 (Φ:EP) (s:St):Prop:=
 V 4 true s fun s=>
 Φ .ret s
def W79_b3 (Φ:EP) (L0:SP) (s:St):Prop:=
 V 4 false s fun s=>
 Φ .ret s
def W79_b4 (Φ:EP) (L0:SP) (s:St):Prop:=
 M 39 5 s fun s=>
 J 40 .add false 39 1 s fun s=>
 M 5 40 s fun s=>
 L0 s
def W79_b6 (Φ:EP) (L0:SP) (s:St):Prop:=
 F 41 3 2 s fun s=>
 L 42 1 41 false s fun s=>
 M 43 5 s fun s=>
 X 44 4 42 43 s fun s=>
 L 45 4 44 true s fun s=>
 F 46 3 3 s fun s=>
 L 47 1 46 false s fun s=>
 M 48 5 s fun s=>
 X 49 4 47 48 s fun s=>
 L 50 4 49 true s fun s=>
 C0 Tryz.prog 79 [(s.τ 45),(s.τ 50)] 51 s fun s=>
 Q 52 51 s fun s=>
 If 52 s (W79_b3 Φ L0 s) (W79_b4 Φ L0 s)
def W79_l7 (Φ:EP) (L0:SP) (s:St):Prop:=
 M 34 5 s fun s=>
 F 35 3 2 s fun s=>
 L 36 1 35 false s fun s=>
 N 37 36 s fun s=>
 B 38 .lss false 34 37 s fun s=>
 If 38 s (W79_b6 Φ L0 s) (W79_k2 Φ s)
def W79_b8 (Φ:EP) (s:St):Prop:=
 I 5 0 s fun s=>
 @sLoop s ⟨fun L0 s=>W79_l7 Φ L0 s⟩
def W79 (Φ:EP) (s:St):Prop:=
 Y 2 33 0 s fun s=>
 Y 3 33 1 s fun s=>
 V 4 false s fun s=>
 F 6 0 2 s fun s=>
 L 7 1 6 false s fun s=>
 F 8 0 3 s fun s=>
 L 9 1 8 false s fun s=>
 B 10 .neq false 7 9 s fun s=>
 M 11 10 s fun s=>
 gf 12 1 2 11 false s fun s=>
 gl 13 1 12 11 false false s fun s=>
 gf 14 1 3 11 false s fun s=>
 gl 15 1 14 11 false false s fun s=>
 go 16 11 false s (fun s=>(xBin .neq false (s.τ 13) (s.τ 15) s.H)) fun s=>
 O 17 11 16 s fun s=>
 M 18 17 s fun s=>
 gf 19 2 2 18 false s fun s=>
 gl 20 1 19 18 false false s fun s=>
 gf 21 2 3 18 false s fun s=>
 gl 22 1 21 18 false false s fun s=>
 go 23 18 false s (fun s=>(xBin .neq false (s.τ 20) (s.τ 22) s.H)) fun s=>
 O 24 18 23 s fun s=>
 M 25 24 s fun s=>
 gf 26 3 2 25 false s fun s=>
 gl 27 1 26 25 false false s fun s=>
 go 28 25 false s (fun s=>(xLen (s.τ 27) s.H)) fun s=>
 gf 29 3 3 25 false s fun s=>
 gl 30 1 29 25 false false s fun s=>
 go 31 25 false s (fun s=>(xLen (s.τ 30) s.H)) fun s=>
 go 32 25 false s (fun s=>(xBin .neq false (s.τ 28) (s.τ 31) s.H)) fun s=>
 O 33 25 32 s fun s=>
 If 33 s (W79_b1 Φ s) (W79_b8 Φ s)
theorem W79_rs (τ:Nat → AV) (H:Heap):resV Tryz.prog τ H [.tmp 4] = some (τ 4):=by kernel_rfl
theorem W79_eq:EqW Tryz.prog Tryz.f79 W79:=fun _ _=>by kernel_rfl
theorem W79_S:SpW Tryz.prog 79 53 [.tmp 4] W79:=spW Tryz.func79 Tryz.ntmps79 W79_eq
-- 80 "penance/run.nodes"
def W80 (Φ:EP) (s:St):Prop:=
 Y 1 35 0 s fun s=>
 @sOp (some 2) (xMov (.nilf) s.H) s<|.mk fun s=>
 @sOp (some 3) (xMkf 105 [(s.τ 1)] s.H) s<|.mk fun s=>
 M 2 3 s fun s=>
 Φ .ret s
theorem W80_rs (τ:Nat → AV) (H:Heap):resV Tryz.prog τ H [.tmp 2] = some (τ 2):=by kernel_rfl
theorem W80_eq:EqW Tryz.prog Tryz.f80 W80:=fun _ _=>by kernel_rfl
theorem W80_S:SpW Tryz.prog 80 4 [.tmp 2] W80:=spW Tryz.func80 Tryz.ntmps80 W80_eq
end Go.Proofs.YtnngddgaobhkiaaGreat
set_option maxRecDepth 100000
namespace Go.Proofs.YtnngddgaobhkiaaGreat
open Go Go.Am
-- 81 "(penance/term.bounds).right"
def W81_b1 (Φ:EP) (s:St):Prop:=
 V 6 false s fun s=>
 Φ .ret s
def W81_b2 (Φ:EP) (s:St):Prop:=
 V 6 false s fun s=>
 Φ .ret s
def W81_k3 (Φ:EP) (s:St):Prop:=
 V 6 true s fun s=>
 Φ .ret s
def W81_b4 (Φ:EP) (L0:SP) (s:St):Prop:=
 V 6 false s fun s=>
 Φ .ret s
def W81_b5 (Φ:EP) (L0:SP) (s:St):Prop:=
 J 93 .add false 79 1 s fun s=>
 M 79 93 s fun s=>
 L0 s
def W81_b10 (Φ:EP) (L0:SP) (s:St):Prop:=
 X 81 9 77 79 s fun s=>
 L 82 9 81 true s fun s=>
 Z 10 35 z9 s fun s=>
 U 9 10 82 s fun s=>
 L 83 3 3 true s fun s=>
 L 84 9 10 true s fun s=>
 M 85 2 s fun s=>
 M 86 85 s fun s=>
 gf 87 0 4 86 false s fun s=>
 gl 88 1 87 86 false false s fun s=>
 go 89 86 false s (fun s=>(xBin .eql false (s.τ 88) (.int .i64 3) s.H)) fun s=>
 O 90 86 89 s fun s=>
 Ca Tryz.prog 81 [(s.τ 83),(s.τ 84),(s.τ 90)] 91 s fun s=>
 Q 92 91 s fun s=>
 If 92 s (W81_b4 Φ L0 s) (W81_b5 Φ L0 s)
def W81_l11 (Φ:EP) (L0:SP) (s:St):Prop:=
 B 80 .lss false 79 78 s fun s=>
 If 80 s (W81_b10 Φ L0 s) (W81_k3 Φ s)
def W81_b12 (Φ:EP) (s:St):Prop:=
 F 76 8 4 s fun s=>
 L 77 1 76 false s fun s=>
 N 78 77 s fun s=>
 I 79 0 s fun s=>
 @sLoop s ⟨fun L0 s=>W81_l11 Φ L0 s⟩
def W81_k13 (Φ:EP) (s:St):Prop:=
 L 73 5 8 true s fun s=>
 Bd 74 [.bool false,.bool false,.bool false,.bool false,.bool false] [(0,1,(.bool true)),(1,1,(.bool true)),(2,1,(.bool true)),(3,1,(.bool true)),(4,1,(.bool true))] s fun s=>
 @sOp (some 75) (xEq true [(0,.bool),(1,.bool),(2,.bool),(3,.bool),(4,.bool)] (s.τ 73) (s.τ 74) s.H) s<|.mk fun s=>
 If 75 s (W81_b2 Φ s) (W81_b12 Φ s)
def W81_b15 (Φ:EP) (s:St):Prop:=
 F 67 4 4 s fun s=>
 L 68 4 67 true s fun s=>
 F 69 0 3 s fun s=>
 L 70 1 69 false s fun s=>
 Ca Tryz.prog 111 [(s.τ 68),(s.τ 70)] 71 s fun s=>
 @sOp (some 72) (xIxA 5 1 (s.τ 8) (.int .i64 4) s.H) s<|.mk fun s=>
 U 1 72 71 s fun s=>
 W81_k13 Φ s
def W81_k16 (Φ:EP) (s:St):Prop:=
 F 65 3 7 s fun s=>
 L 66 1 65 false s fun s=>
 If 66 s (W81_b15 Φ s) (W81_k13 Φ s)
def W81_b18 (Φ:EP) (s:St):Prop:=
 F 61 3 4 s fun s=>
 L 62 1 61 false s fun s=>
 Ca Tryz.prog 110 [(s.τ 62)] 63 s fun s=>
 @sOp (some 64) (xIxA 5 1 (s.τ 8) (.int .i64 3) s.H) s<|.mk fun s=>
 U 1 64 63 s fun s=>
 W81_k16 Φ s
def W81_b23 (Φ:EP) (s:St):Prop:=
 C0 Tryz.prog 107 [] 29 s fun u1=>
 @sChk (compat (cfp 29 107 []) (occ (u1.τ 4),[])) <| .mk <|
 F 30 0 4 u1 fun u2=>
 @sChk (compat (cfp 29 107 []) (occ (u2.τ 30),[])) <| .mk <|
 L 31 1 30 false u2 fun u3=>
 X 32 5 29 31 u3 fun u4=>
 L 33 5 32 true u4 fun u5=>
 k2 (cfp 29 107 []) 7 <|
 k1 (u1.τ 4) 7 <|
 k1 (u2.τ 30) 7 <|
 k1 (u3.τ 29) 7 <|
 k1 (u4.τ 32) 7 <|
 Z 7 166 [.int .i64 0,.int .i64 0,.bool false,.bool false,.int .i64 0] u5 fun u6=>
 U 5 7 33 u6 fun s=>
 L 34 3 3 true s fun u1=>
 F 35 0 7 u1 fun u2=>
 L 36 1 35 false u2 fun u3=>
 F 37 1 4 u3 fun u4=>
 L 38 1 37 false u4 fun u5=>
 C0 Tryz.prog 108 [(u5.τ 34),(u5.τ 36),(u5.τ 38)] 39 u5 fun u6=>
 @sChk (compat (cfp 39 108 [(u5.τ 34),(u5.τ 36),(u5.τ 38)]) (occ (u6.τ 3),[])) <| .mk <|
 L 40 3 3 true u6 fun u7=>
 @sChk (compat (cfp 39 108 [(u5.τ 34),(u5.τ 36),(u5.τ 38)]) (occ (u7.τ 7),[])) <| .mk <|
 F 41 1 7 u7 fun u8=>
 @sChk (compat (cfp 39 108 [(u5.τ 34),(u5.τ 36),(u5.τ 38)]) (occ (u8.τ 41),[])) <| .mk <|
 L 42 1 41 false u8 fun u9=>
 @sChk (compat (cfp 39 108 [(u5.τ 34),(u5.τ 36),(u5.τ 38)]) (occ (u9.τ 4),[])) <| .mk <|
 F 43 2 4 u9 fun u10=>
 @sChk (compat (cfp 39 108 [(u5.τ 34),(u5.τ 36),(u5.τ 38)]) (occ (u10.τ 43),[])) <| .mk <|
 L 44 1 43 false u10 fun u11=>
 C0 Tryz.prog 108 [(u11.τ 40),(u11.τ 42),(u11.τ 44)] 45 u11 fun u12=>
 @sChk (compat (cfp 39 108 [(u5.τ 34),(u5.τ 36),(u5.τ 38)]) (occ (u12.τ 4),[])) <| .mk <|
 @sChk (compat (cfp 45 108 [(u11.τ 40),(u11.τ 42),(u11.τ 44)]) (occ (u12.τ 4),[])) <| .mk <|
 F 46 8 4 u12 fun u13=>
 @sChk (compat (cfp 39 108 [(u5.τ 34),(u5.τ 36),(u5.τ 38)]) (occ (u13.τ 46),[])) <| .mk <|
 @sChk (compat (cfp 45 108 [(u11.τ 40),(u11.τ 42),(u11.τ 44)]) (occ (u13.τ 46),[])) <| .mk <|
 L 47 1 46 false u13 fun u14=>
 @sChk (compat (cfp 39 108 [(u5.τ 34),(u5.τ 36),(u5.τ 38)]) (occ (u14.τ 47),[])) <| .mk <|
 @sChk (compat (cfp 45 108 [(u11.τ 40),(u11.τ 42),(u11.τ 44)]) (occ (u14.τ 47),[])) <| .mk <|
 N 48 47 u14 fun u15=>
 @sChk (compat (cfp 39 108 [(u5.τ 34),(u5.τ 36),(u5.τ 38)]) (occ (u15.τ 7),[])) <| .mk <|
 @sChk (compat (cfp 45 108 [(u11.τ 40),(u11.τ 42),(u11.τ 44)]) (occ (u15.τ 7),[])) <| .mk <|
 F 49 4 7 u15 fun u16=>
 @sChk (compat (cfp 39 108 [(u5.τ 34),(u5.τ 36),(u5.τ 38)]) (occ (u16.τ 49),[])) <| .mk <|
 @sChk (compat (cfp 45 108 [(u11.τ 40),(u11.τ 42),(u11.τ 44)]) (occ (u16.τ 49),[])) <| .mk <|
 L 50 1 49 false u16 fun u17=>
 B 51 .eql false 48 50 u17 fun u18=>
 @sChk (compat (cfp 39 108 [(u5.τ 34),(u5.τ 36),(u5.τ 38)]) (occ (u18.τ 4),[])) <| .mk <|
 @sChk (compat (cfp 45 108 [(u11.τ 40),(u11.τ 42),(u11.τ 44)]) (occ (u18.τ 4),[])) <| .mk <|
 F 52 3 4 u18 fun u19=>
 @sChk (compat (cfp 39 108 [(u5.τ 34),(u5.τ 36),(u5.τ 38)]) (occ (u19.τ 52),[])) <| .mk <|
 @sChk (compat (cfp 45 108 [(u11.τ 40),(u11.τ 42),(u11.τ 44)]) (occ (u19.τ 52),[])) <| .mk <|
 L 53 1 52 false u19 fun u20=>
 @sOp (some 54) (xBin .eql false (u20.τ 53) (.str ⟨#[]⟩) u20.H) u20<|.mk fun u21=>
 @sChk (compat (cfp 39 108 [(u5.τ 34),(u5.τ 36),(u5.τ 38)]) (occ (u21.τ 4),[])) <| .mk <|
 @sChk (compat (cfp 45 108 [(u11.τ 40),(u11.τ 42),(u11.τ 44)]) (occ (u21.τ 4),[])) <| .mk <|
 F 55 4 4 u21 fun u22=>
 @sChk (compat (cfp 39 108 [(u5.τ 34),(u5.τ 36),(u5.τ 38)]) (occ (u22.τ 55),[])) <| .mk <|
 @sChk (compat (cfp 45 108 [(u11.τ 40),(u11.τ 42),(u11.τ 44)]) (occ (u22.τ 55),[])) <| .mk <|
 L 56 4 55 true u22 fun u23=>
 k3 (u12.τ 4) (cfp 57 109 [(u23.τ 56)]) <|
 k3 (u13.τ 46) (cfp 57 109 [(u23.τ 56)]) <|
 k3 (u14.τ 47) (cfp 57 109 [(u23.τ 56)]) <|
 k3 (u15.τ 7) (cfp 57 109 [(u23.τ 56)]) <|
 k3 (u16.τ 49) (cfp 57 109 [(u23.τ 56)]) <|
 k3 (u18.τ 4) (cfp 57 109 [(u23.τ 56)]) <|
 k3 (u19.τ 52) (cfp 57 109 [(u23.τ 56)]) <|
 C0 Tryz.prog 109 [(u23.τ 56)] 57 u23 fun u24=>
 Bd 58 [.bool false,.bool false,.bool false,.bool false,.bool false] [(0,1,(u24.τ 39)),(1,1,(u24.τ 45)),(2,1,(u24.τ 51)),(3,1,(u24.τ 54)),(4,1,(u24.τ 57))] u24 fun u25=>
 k1 (s.τ 3) 8 <|
 k1 (u1.τ 7) 8 <|
 k1 (u2.τ 35) 8 <|
 k1 (u3.τ 4) 8 <|
 k1 (u4.τ 37) 8 <|
 k2 (cfp 39 108 [(u5.τ 34),(u5.τ 36),(u5.τ 38)]) 8 <|
 k1 (u6.τ 3) 8 <|
 k1 (u7.τ 7) 8 <|
 k1 (u8.τ 41) 8 <|
 k1 (u9.τ 4) 8 <|
 k1 (u10.τ 43) 8 <|
 k2 (cfp 45 108 [(u11.τ 40),(u11.τ 42),(u11.τ 44)]) 8 <|
 k1 (u12.τ 4) 8 <|
 k1 (u13.τ 46) 8 <|
 k1 (u14.τ 47) 8 <|
 k1 (u15.τ 7) 8 <|
 k1 (u16.τ 49) 8 <|
 k1 (u18.τ 4) 8 <|
 k1 (u19.τ 52) 8 <|
 k1 (u21.τ 4) 8 <|
 k1 (u22.τ 55) 8 <|
 k2 (cfp 57 109 [(u23.τ 56)]) 8 <|
 Z 8 168 [.bool false,.bool false,.bool false,.bool false,.bool false] u25 fun u26=>
 U 5 8 58 u26 fun s=>
 F 59 2 7 s fun s=>
 L 60 1 59 false s fun s=>
 If 60 s (W81_b18 Φ s) (W81_k16 Φ s)
def W81 (Φ:EP) (s:St):Prop:=
 Y 3 133 0 s fun s=>
 Y 4 35 1 s fun s=>
 V 6 false s fun s=>
 F 11 0 4 s fun u1=>
 L 12 1 11 false u1 fun u2=>
 J 13 .lss false 12 0 u2 fun u3=>
 M 14 13 u3 fun u4=>
 gf 15 0 4 14 false u4 fun u5=>
 gl 16 1 15 14 false false u5 fun u6=>
 k3 (u4.τ 4) (cfp 17 107 []) <|
 k3 (u5.τ 15) (cfp 17 107 []) <|
 @sGrd (guardOf (u6.τ 14) false) (some 17) u6 ⟨fun s K=>@sCall0 Tryz.prog (.func 107 []) [] (some 17) s ⟨K⟩⟩<|.mk fun u7=>
 go 18 14 false u7 (fun s=>(xLen (s.τ 17) s.H)) fun u8=>
 go 19 14 false u8 (fun s=>(xBin .geq false (s.τ 16) (s.τ 18) s.H)) fun u9=>
 O 20 14 19 u9 fun u10=>
 M 21 20 u10 fun u11=>
 gm 22 2 21 false u11 fun u12=>
 gm 23 22 21 false u12 fun u13=>
 gf 24 0 4 23 true u13 fun u14=>
 gl 25 1 24 23 false true u14 fun u15=>
 go 26 23 true u15 (fun s=>(xBin .eql false (s.τ 25) (.int .i64 14) s.H)) fun u16=>
 go 27 21 false u16 (fun s=>(xPick (s.τ 23) (s.τ 26) (.bool false) s.H)) fun u17=>
 O 28 21 27 u17 fun s=>
 If 28 s (W81_b1 Φ s) (W81_b23 Φ s)
theorem W81_rs (τ:Nat → AV) (H:Heap):resV Tryz.prog τ H [.tmp 6] = some (τ 6):=by kernel_rfl
theorem W81_eq:EqW Tryz.prog Tryz.f81 W81:=fun _ _=>by kernel_rfl
theorem W81_S:SpW Tryz.prog 81 94 [.tmp 6] W81:=spW Tryz.func81 Tryz.ntmps81 W81_eq
-- 82 "slices.Clone[[]penance/api.Term,penance/api.Term]"
def W82_b1 (Φ:EP) (s:St):Prop:=
 @sOp (some 2) (xMov (.nils) s.H) s<|.mk fun s=>
 Φ .ret s
def W82_b2 (Φ:EP) (s:St):Prop:=
 @sOp (some 5) (xRow 5 35 9 0 z9 [] s.H) s<|.mk fun s=>
 M 6 0 s fun s=>
 @sOp (some 7) (xApp Tryz.prog 35 9 120 (some 7) (s.τ 5) (s.τ 6) s.H) s<|.mk fun s=>
 M 2 7 s fun s=>
 Φ .ret s
def W82 (Φ:EP) (s:St):Prop:=
 @sOp (some 2) (xMov (.nils) s.H) s<|.mk fun s=>
 M 3 0 s fun s=>
 @sNil false (s.τ 3) (some 4) s<|.mk fun s=>
 If 4 s (W82_b1 Φ s) (W82_b2 Φ s)
theorem W82_rs (τ:Nat → AV) (H:Heap):resV Tryz.prog τ H [.tmp 2] = some (τ 2):=by kernel_rfl
theorem W82_eq:EqW Tryz.prog Tryz.f82 W82:=fun _ _=>by kernel_rfl
theorem W82_S:SpW Tryz.prog 82 8 [.tmp 2] W82:=spW Tryz.func82 Tryz.ntmps82 W82_eq
-- 83 "penance/steps.places"
def W83 (Φ:EP) (s:St):Prop:=
 Y 1 35 0 s fun s=>
 @sOp (some 2) (xMov (.nilf) s.H) s<|.mk fun s=>
 @sOp (some 3) (xMkf 112 [(s.τ 1)] s.H) s<|.mk fun s=>
 M 2 3 s fun s=>
 Φ .ret s
theorem W83_rs (τ:Nat → AV) (H:Heap):resV Tryz.prog τ H [.tmp 2] = some (τ 2):=by kernel_rfl
theorem W83_eq:EqW Tryz.prog Tryz.f83 W83:=fun _ _=>by kernel_rfl
theorem W83_S:SpW Tryz.prog 83 4 [.tmp 2] W83:=spW Tryz.func83 Tryz.ntmps83 W83_eq
-- 84 "slices.Clone[[]penance/api.Step,penance/api.Step]"
def W84_b1 (Φ:EP) (s:St):Prop:=
 @sOp (some 2) (xMov (.nils) s.H) s<|.mk fun s=>
 Φ .ret s
def W84_b2 (Φ:EP) (s:St):Prop:=
 @sOp (some 5) (xRow 5 60 3 0 [.int .i64 0,.nils,.int .i64 0] [] s.H) s<|.mk fun s=>
 M 6 0 s fun s=>
 @sOp (some 7) (xApp Tryz.prog 60 3 40 (some 7) (s.τ 5) (s.τ 6) s.H) s<|.mk fun s=>
 M 2 7 s fun s=>
 Φ .ret s
def W84 (Φ:EP) (s:St):Prop:=
 @sOp (some 2) (xMov (.nils) s.H) s<|.mk fun s=>
 M 3 0 s fun s=>
 @sNil false (s.τ 3) (some 4) s<|.mk fun s=>
 If 4 s (W84_b1 Φ s) (W84_b2 Φ s)
theorem W84_rs (τ:Nat → AV) (H:Heap):resV Tryz.prog τ H [.tmp 2] = some (τ 2):=by kernel_rfl
theorem W84_eq:EqW Tryz.prog Tryz.f84 W84:=fun _ _=>by kernel_rfl
theorem W84_S:SpW Tryz.prog 84 8 [.tmp 2] W84:=spW Tryz.func84 Tryz.ntmps84 W84_eq
-- 85 "penance/expr.truth"
def W85_b1 (Φ:EP) (s:St):Prop:=
 I 2 1 s fun s=>
 Φ .ret s
def W85_b2 (Φ:EP) (s:St):Prop:=
 I 2 0 s fun s=>
 Φ .ret s
def W85 (Φ:EP) (s:St):Prop:=
 I 2 0 s fun s=>
 M 3 0 s fun s=>
 If 3 s (W85_b1 Φ s) (W85_b2 Φ s)
theorem W85_rs (τ:Nat → AV) (H:Heap):resV Tryz.prog τ H [.tmp 2] = some (τ 2):=by kernel_rfl
theorem W85_eq:EqW Tryz.prog Tryz.f85 W85:=fun _ _=>by kernel_rfl
theorem W85_S:SpW Tryz.prog 85 4 [.tmp 2] W85:=spW Tryz.func85 Tryz.ntmps85 W85_eq
-- 86 "penance/expr.times"
def W86_b1 (Φ:EP) (s:St):Prop:=
 I 4 0 s fun s=>
 I 5 0 s fun s=>
 Φ .ret s
def W86_b2 (Φ:EP) (s:St):Prop:=
 I 4 0 s fun s=>
 I 5 8 s fun s=>
 Φ .ret s
def W86_b3 (Φ:EP) (s:St):Prop:=
 M 25 0 s fun s=>
 M 26 1 s fun s=>
 B 27 .mul false 25 26 s fun s=>
 M 4 27 s fun s=>
 I 5 0 s fun s=>
 Φ .ret s
def W86_b6 (Φ:EP) (s:St):Prop:=
 M 19 0 s fun s=>
 J 20 .eql false 19 (-9223372036854775808) s fun s=>
 M 21 20 s fun s=>
 gm 22 1 21 false s fun s=>
 go 23 21 false s (fun s=>(xBin .eql false (s.τ 22) (.int .i64 (-9223372036854775808)) s.H)) fun s=>
 O 24 21 23 s fun s=>
 If 24 s (W86_b2 Φ s) (W86_b3 Φ s)
def W86_b7 (Φ:EP) (s:St):Prop:=
 M 36 6 s fun s=>
 M 4 36 s fun s=>
 I 5 0 s fun s=>
 Φ .ret s
def W86_b8 (Φ:EP) (s:St):Prop:=
 I 4 0 s fun s=>
 I 5 8 s fun s=>
 Φ .ret s
def W86_b9 (Φ:EP) (s:St):Prop:=
 M 28 0 s fun s=>
 M 29 1 s fun s=>
 B 30 .mul false 28 29 s fun s=>
 M 6 30 s fun s=>
 M 31 6 s fun s=>
 M 32 1 s fun s=>
 B 33 .quo false 31 32 s fun s=>
 M 34 0 s fun s=>
 B 35 .eql false 33 34 s fun s=>
 If 35 s (W86_b7 Φ s) (W86_b8 Φ s)
def W86_b12 (Φ:EP) (s:St):Prop:=
 M 13 0 s fun s=>
 J 14 .eql false 13 (-1) s fun s=>
 M 15 14 s fun s=>
 gm 16 1 15 false s fun s=>
 go 17 15 false s (fun s=>(xBin .eql false (s.τ 16) (.int .i64 (-1)) s.H)) fun s=>
 O 18 15 17 s fun s=>
 If 18 s (W86_b6 Φ s) (W86_b9 Φ s)
def W86 (Φ:EP) (s:St):Prop:=
 I 4 0 s fun s=>
 I 5 0 s fun s=>
 M 7 0 s fun s=>
 J 8 .eql false 7 0 s fun s=>
 M 9 8 s fun s=>
 gm 10 1 9 false s fun s=>
 go 11 9 false s (fun s=>(xBin .eql false (s.τ 10) (.int .i64 0) s.H)) fun s=>
 O 12 9 11 s fun s=>
 If 12 s (W86_b1 Φ s) (W86_b12 Φ s)
theorem W86_rs (τ:Nat → AV) (H:Heap):resV Tryz.prog τ H [.tmp 4,.tmp 5] = ob (ob (some (τ 4)) fun v=>ob (ob (some (τ 5)) fun v=>ob (some []) fun vs=>some (v :: vs)) fun vs=>some (v :: vs)) fun vs=>some (.tup vs):=by kernel_rfl
theorem W86_eq:EqW Tryz.prog Tryz.f86 W86:=fun _ _=>by kernel_rfl
theorem W86_S:SpW Tryz.prog 86 37 [.tmp 4,.tmp 5] W86:=spW Tryz.func86 Tryz.ntmps86 W86_eq
-- 87 "penance/expr.two"
def W87_b2 (Φ:EP) (s:St):Prop:=
 M 11 1 s fun s=>
 M 12 2 s fun s=>
 Ca Tryz.prog 86 [(s.τ 11),(s.τ 12)] 13 s fun s=>
 E 14 13 0 s fun s=>
 E 15 13 1 s fun s=>
 M 6 14 s fun s=>
 M 7 15 s fun s=>
 Φ .ret s
def W87_b4 (Φ:EP) (s:St):Prop:=
 M 18 1 s fun s=>
 M 19 2 s fun s=>
 Ca Tryz.prog 115 [(s.τ 18),(s.τ 19)] 20 s fun s=>
 E 21 20 0 s fun s=>
 E 22 20 1 s fun s=>
 M 6 21 s fun s=>
 M 7 22 s fun s=>
 Φ .ret s
def W87_b5 (Φ:EP) (s:St):Prop:=
 I 6 0 s fun s=>
 I 7 8 s fun s=>
 Φ .ret s
def W87_b6 (Φ:EP) (s:St):Prop:=
 M 29 1 s fun s=>
 M 30 2 s fun s=>
 B 31 .sub false 29 30 s fun s=>
 M 6 31 s fun s=>
 I 7 0 s fun s=>
 Φ .ret s
def W87_b7 (Φ:EP) (s:St):Prop:=
 M 27 1 s fun s=>
 J 28 .geq false 27 0 s fun s=>
 If 28 s (W87_b5 Φ s) (W87_b6 Φ s)
def W87_b9 (Φ:EP) (s:St):Prop:=
 M 32 1 s fun s=>
 M 33 2 s fun s=>
 @sOp (some 34) (xNeg (s.τ 33) s.H) s<|.mk fun s=>
 Ca Tryz.prog 115 [(s.τ 32),(s.τ 34)] 35 s fun s=>
 E 36 35 0 s fun s=>
 E 37 35 1 s fun s=>
 M 6 36 s fun s=>
 M 7 37 s fun s=>
 Φ .ret s
def W87_b10 (Φ:EP) (s:St):Prop:=
 M 25 2 s fun s=>
 J 26 .eql false 25 (-9223372036854775808) s fun s=>
 If 26 s (W87_b7 Φ s) (W87_b9 Φ s)
def W87_b11 (Φ:EP) (s:St):Prop:=
 I 6 0 s fun s=>
 I 7 9 s fun s=>
 Φ .ret s
def W87_b12 (Φ:EP) (s:St):Prop:=
 I 6 0 s fun s=>
 I 7 0 s fun s=>
 Φ .ret s
def W87_b14 (Φ:EP) (s:St):Prop:=
 M 54 1 s fun s=>
 M 55 2 s fun s=>
 Ca Tryz.prog 86 [(s.τ 54),(s.τ 55)] 56 s fun s=>
 E 57 56 0 s fun s=>
 E 58 56 1 s fun s=>
 M 6 57 s fun s=>
 M 7 58 s fun s=>
 Φ .ret s
def W87_b15 (Φ:EP) (s:St):Prop:=
 M 62 1 s fun s=>
 M 63 2 s fun s=>
 B 64 .rem false 62 63 s fun s=>
 M 6 64 s fun s=>
 I 7 0 s fun s=>
 Φ .ret s
def W87_b16 (Φ:EP) (s:St):Prop:=
 M 65 1 s fun s=>
 M 66 2 s fun s=>
 B 67 .quo false 65 66 s fun s=>
 M 6 67 s fun s=>
 I 7 0 s fun s=>
 Φ .ret s
def W87_b17 (Φ:EP) (s:St):Prop:=
 M 60 0 s fun s=>
 J 61 .eql false 60 7 s fun s=>
 M 59 61 s fun s=>
 If 59 s (W87_b15 Φ s) (W87_b16 Φ s)
def W87_b18 (Φ:EP) (s:St):Prop:=
 M 52 2 s fun s=>
 J 53 .eql false 52 (-1) s fun s=>
 M 51 53 s fun s=>
 If 51 s (W87_b14 Φ s) (W87_b17 Φ s)
def W87_b21 (Φ:EP) (s:St):Prop:=
 M 45 2 s fun s=>
 J 46 .eql false 45 (-1) s fun s=>
 M 47 46 s fun s=>
 gm 48 0 47 true s fun s=>
 go 49 47 true s (fun s=>(xBin .eql false (s.τ 48) (.int .i64 7) s.H)) fun s=>
 A 50 47 49 s fun s=>
 M 44 50 s fun s=>
 If 44 s (W87_b12 Φ s) (W87_b18 Φ s)
def W87_b22 (Φ:EP) (s:St):Prop:=
 M 42 2 s fun s=>
 J 43 .eql false 42 0 s fun s=>
 M 41 43 s fun s=>
 If 41 s (W87_b11 Φ s) (W87_b21 Φ s)
def W87_b24 (Φ:EP) (s:St):Prop:=
 M 70 1 s fun s=>
 M 71 2 s fun s=>
 B 72 .eql false 70 71 s fun s=>
 Ca Tryz.prog 85 [(s.τ 72)] 73 s fun s=>
 M 6 73 s fun s=>
 I 7 0 s fun s=>
 Φ .ret s
def W87_b26 (Φ:EP) (s:St):Prop:=
 M 76 1 s fun s=>
 M 77 2 s fun s=>
 B 78 .neq false 76 77 s fun s=>
 Ca Tryz.prog 85 [(s.τ 78)] 79 s fun s=>
 M 6 79 s fun s=>
 I 7 0 s fun s=>
 Φ .ret s
def W87_b28 (Φ:EP) (s:St):Prop:=
 M 82 1 s fun s=>
 M 83 2 s fun s=>
 B 84 .lss false 82 83 s fun s=>
 Ca Tryz.prog 85 [(s.τ 84)] 85 s fun s=>
 M 6 85 s fun s=>
 I 7 0 s fun s=>
 Φ .ret s
def W87_b30 (Φ:EP) (s:St):Prop:=
 M 88 1 s fun s=>
 M 89 2 s fun s=>
 B 90 .leq false 88 89 s fun s=>
 Ca Tryz.prog 85 [(s.τ 90)] 91 s fun s=>
 M 6 91 s fun s=>
 I 7 0 s fun s=>
 Φ .ret s
def W87_b32 (Φ:EP) (s:St):Prop:=
 M 94 1 s fun s=>
 M 95 2 s fun s=>
 B 96 .gtr false 94 95 s fun s=>
 Ca Tryz.prog 85 [(s.τ 96)] 97 s fun s=>
 M 6 97 s fun s=>
 I 7 0 s fun s=>
 Φ .ret s
def W87_b34 (Φ:EP) (s:St):Prop:=
 M 98 1 s fun s=>
 M 99 2 s fun s=>
 B 100 .geq false 98 99 s fun s=>
 Ca Tryz.prog 85 [(s.τ 100)] 101 s fun s=>
 M 6 101 s fun s=>
 I 7 0 s fun s=>
 Φ .ret s
def W87_b35 (Φ:EP) (s:St):Prop:=
 J 93 .eql false 8 14 s fun s=>
 M 92 93 s fun s=>
 If 92 s (W87_b32 Φ s) (W87_b34 Φ s)
def W87_b36 (Φ:EP) (s:St):Prop:=
 J 87 .eql false 8 13 s fun s=>
 M 86 87 s fun s=>
 If 86 s (W87_b30 Φ s) (W87_b35 Φ s)
def W87_b37 (Φ:EP) (s:St):Prop:=
 J 81 .eql false 8 12 s fun s=>
 M 80 81 s fun s=>
 If 80 s (W87_b28 Φ s) (W87_b36 Φ s)
def W87_b38 (Φ:EP) (s:St):Prop:=
 J 75 .eql false 8 11 s fun s=>
 M 74 75 s fun s=>
 If 74 s (W87_b26 Φ s) (W87_b37 Φ s)
def W87_b39 (Φ:EP) (s:St):Prop:=
 J 69 .eql false 8 10 s fun s=>
 M 68 69 s fun s=>
 If 68 s (W87_b24 Φ s) (W87_b38 Φ s)
def W87_k40 (Φ:EP) (s:St):Prop:=
 If 38 s (W87_b22 Φ s) (W87_b39 Φ s)
def W87_b41 (Φ:EP) (s:St):Prop:=
 J 40 .eql false 8 7 s fun s=>
 M 38 40 s fun s=>
 W87_k40 Φ s
def W87_b42 (Φ:EP) (s:St):Prop:=
 J 39 .eql false 8 6 s fun s=>
 M 38 39 s fun s=>
 If 38 s (W87_k40 Φ s) (W87_b41 Φ s)
def W87_b43 (Φ:EP) (s:St):Prop:=
 J 24 .eql false 8 9 s fun s=>
 M 23 24 s fun s=>
 If 23 s (W87_b10 Φ s) (W87_b42 Φ s)
def W87_b44 (Φ:EP) (s:St):Prop:=
 J 17 .eql false 8 8 s fun s=>
 M 16 17 s fun s=>
 If 16 s (W87_b4 Φ s) (W87_b43 Φ s)
def W87 (Φ:EP) (s:St):Prop:=
 I 6 0 s fun s=>
 I 7 0 s fun s=>
 M 8 0 s fun s=>
 J 10 .eql false 8 5 s fun s=>
 M 9 10 s fun s=>
 If 9 s (W87_b2 Φ s) (W87_b44 Φ s)
theorem W87_rs (τ:Nat → AV) (H:Heap):resV Tryz.prog τ H [.tmp 6,.tmp 7] = ob (ob (some (τ 6)) fun v=>ob (ob (some (τ 7)) fun v=>ob (some []) fun vs=>some (v :: vs)) fun vs=>some (v :: vs)) fun vs=>some (.tup vs):=by kernel_rfl
theorem W87_eq:EqW Tryz.prog Tryz.f87 W87:=fun _ _=>by kernel_rfl
theorem W87_S:SpW Tryz.prog 87 102 [.tmp 6,.tmp 7] W87:=spW Tryz.func87 Tryz.ntmps87 W87_eq
-- 88 "penance/stacks.ownTerm"
def W88 (Φ:EP) (s:St):Prop:=
 Y 1 35 0 s fun s=>
 Z 2 35 z9 s fun s=>
 F 3 4 1 s fun u1=>
 L 4 4 3 true u1 fun u2=>
 C0 Tryz.prog 116 [(u2.τ 4)] 5 u2 fun u3=>
 @sChk (compat (cfp 5 116 [(u2.τ 4)]) (occ (u3.τ 1),[])) <| .mk <|
 F 6 8 1 u3 fun u4=>
 @sChk (compat (cfp 5 116 [(u2.τ 4)]) (occ (u4.τ 6),[])) <| .mk <|
 L 7 1 6 false u4 fun u5=>
 C0 Tryz.prog 104 [(u5.τ 7),(.func 88 [])] 8 u5 fun u6=>
 @sChk (compat ([8] ++ withM (occ (.func 104 []) ++ occL [(u5.τ 7),(.func 88 [])]),[8] ++ withM (occ (.func 104 []) ++ occL [(u5.τ 7),(.func 88 [])])) (occ (u6.τ 1),[])) <| .mk <|
 F 9 4 1 u6 fun u7=>
 U 4 9 5 u7 fun u8=>
 F 10 8 1 u8 fun u9=>
 U 1 10 8 u9 fun s=>
 L 11 9 1 true s fun s=>
 U 9 2 11 s fun s=>
 Φ .ret s
theorem W88_rs (τ:Nat → AV) (H:Heap):resV Tryz.prog τ H [.cell 2 35] = rdV H 9 true (τ 2):=by kernel_rfl
theorem W88_eq:EqW Tryz.prog Tryz.f88 W88:=fun _ _=>by kernel_rfl
theorem W88_S:SpW Tryz.prog 88 12 [.cell 2 35] W88:=spW Tryz.func88 Tryz.ntmps88 W88_eq
-- 91 "penance/penanceref5.of"
def W91_b1 (Φ:EP) (s:St):Prop:=
 Bd 6 [.bool false,.bool false,.bool false,.bool false,.int .i64 0] [(0,1,(.bool true)),(2,1,(.bool true))] s fun s=>
 U 5 2 6 s fun s=>
 Φ .ret s
def W91_b2 (Φ:EP) (s:St):Prop:=
 Bd 9 [.bool false,.bool false,.bool false,.bool false,.int .i64 0] [(0,1,(.bool true)),(3,1,(.bool true))] s fun s=>
 U 5 2 9 s fun s=>
 Φ .ret s
def W91_b3 (Φ:EP) (s:St):Prop:=
 Bd 12 [.bool false,.bool false,.bool false,.bool false,.int .i64 0] [(0,1,(.bool true)),(4,1,(.int .i64 1))] s fun s=>
 U 5 2 12 s fun s=>
 Φ .ret s
def W91_b4 (Φ:EP) (s:St):Prop:=
 Bd 17 [.bool false,.bool false,.bool false,.bool false,.int .i64 0] [(0,1,(.bool true))] s fun s=>
 U 5 2 17 s fun s=>
 Φ .ret s
def W91_b5 (Φ:EP) (s:St):Prop:=
 Bd 20 [.bool false,.bool false,.bool false,.bool false,.int .i64 0] [(0,1,(.bool true)),(1,1,(.bool true))] s fun s=>
 U 5 2 20 s fun s=>
 Φ .ret s
def W91_b6 (Φ:EP) (s:St):Prop:=
 Bd 23 [.bool false,.bool false,.bool false,.bool false,.int .i64 0] [(4,1,(.int .i64 1))] s fun s=>
 U 5 2 23 s fun s=>
 Φ .ret s
def W91_b7 (Φ:EP) (s:St):Prop:=
 Bd 26 [.bool false,.bool false,.bool false,.bool false,.int .i64 0] [(3,1,(.bool true)),(4,1,(.int .i64 2))] s fun s=>
 U 5 2 26 s fun s=>
 Φ .ret s
def W91_b8 (Φ:EP) (s:St):Prop:=
 Bd 31 [.bool false,.bool false,.bool false,.bool false,.int .i64 0] [(4,1,(.int .i64 2))] s fun s=>
 U 5 2 31 s fun s=>
 Φ .ret s
def W91_b9 (Φ:EP) (s:St):Prop:=
 Bd 34 [.bool false,.bool false,.bool false,.bool false,.int .i64 0] [(0,1,(.bool true)),(1,1,(.bool true)),(2,1,(.bool true))] s fun s=>
 U 5 2 34 s fun s=>
 Φ .ret s
def W91_b10 (Φ:EP) (s:St):Prop:=
 Bd 35 [.bool false,.bool false,.bool false,.bool false,.int .i64 0] [] s fun s=>
 U 5 2 35 s fun s=>
 Φ .ret s
def W91_b11 (Φ:EP) (s:St):Prop:=
 J 33 .eql false 3 14 s fun s=>
 M 32 33 s fun s=>
 If 32 s (W91_b9 Φ s) (W91_b10 Φ s)
def W91_k12 (Φ:EP) (s:St):Prop:=
 If 27 s (W91_b8 Φ s) (W91_b11 Φ s)
def W91_b13 (Φ:EP) (s:St):Prop:=
 J 30 .eql false 3 12 s fun s=>
 M 27 30 s fun s=>
 W91_k12 Φ s
def W91_b14 (Φ:EP) (s:St):Prop:=
 J 29 .eql false 3 11 s fun s=>
 M 27 29 s fun s=>
 If 27 s (W91_k12 Φ s) (W91_b13 Φ s)
def W91_b15 (Φ:EP) (s:St):Prop:=
 J 28 .eql false 3 10 s fun s=>
 M 27 28 s fun s=>
 If 27 s (W91_k12 Φ s) (W91_b14 Φ s)
def W91_b16 (Φ:EP) (s:St):Prop:=
 J 25 .eql false 3 9 s fun s=>
 M 24 25 s fun s=>
 If 24 s (W91_b7 Φ s) (W91_b15 Φ s)
def W91_b17 (Φ:EP) (s:St):Prop:=
 J 22 .eql false 3 7 s fun s=>
 M 21 22 s fun s=>
 If 21 s (W91_b6 Φ s) (W91_b16 Φ s)
def W91_b18 (Φ:EP) (s:St):Prop:=
 J 19 .eql false 3 6 s fun s=>
 M 18 19 s fun s=>
 If 18 s (W91_b5 Φ s) (W91_b17 Φ s)
def W91_k19 (Φ:EP) (s:St):Prop:=
 If 13 s (W91_b4 Φ s) (W91_b18 Φ s)
def W91_b20 (Φ:EP) (s:St):Prop:=
 J 16 .eql false 3 13 s fun s=>
 M 13 16 s fun s=>
 W91_k19 Φ s
def W91_b21 (Φ:EP) (s:St):Prop:=
 J 15 .eql false 3 5 s fun s=>
 M 13 15 s fun s=>
 If 13 s (W91_k19 Φ s) (W91_b20 Φ s)
def W91_b22 (Φ:EP) (s:St):Prop:=
 J 14 .eql false 3 4 s fun s=>
 M 13 14 s fun s=>
 If 13 s (W91_k19 Φ s) (W91_b21 Φ s)
def W91_b23 (Φ:EP) (s:St):Prop:=
 J 11 .eql false 3 3 s fun s=>
 M 10 11 s fun s=>
 If 10 s (W91_b3 Φ s) (W91_b22 Φ s)
def W91_b24 (Φ:EP) (s:St):Prop:=
 J 8 .eql false 3 2 s fun s=>
 M 7 8 s fun s=>
 If 7 s (W91_b2 Φ s) (W91_b23 Φ s)
def W91 (Φ:EP) (s:St):Prop:=
 Z 2 149 [.bool false,.bool false,.bool false,.bool false,.int .i64 0] s fun s=>
 M 3 0 s fun s=>
 J 5 .eql false 3 1 s fun s=>
 M 4 5 s fun s=>
 If 4 s (W91_b1 Φ s) (W91_b24 Φ s)
theorem W91_rs (τ:Nat → AV) (H:Heap):resV Tryz.prog τ H [.cell 2 149] = rdV H 5 true (τ 2):=by kernel_rfl
theorem W91_eq:EqW Tryz.prog Tryz.f91 W91:=fun _ _=>by kernel_rfl
theorem W91_S:SpW Tryz.prog 91 36 [.cell 2 149] W91:=spW Tryz.func91 Tryz.ntmps91 W91_eq
-- 92 "penance/penanceref5.numbers"
def W92_b2 (Φ:EP) (s:St):Prop:=
 F 13 1 4 s fun s=>
 L 14 1 13 false s fun s=>
 M 15 1 s fun s=>
 Ca Tryz.prog 124 [(s.τ 14),(.int .i64 (-1)),(s.τ 15)] 16 s fun s=>
 M 8 16 s fun s=>
 Φ .ret s
def W92_b4 (Φ:EP) (s:St):Prop:=
 F 19 1 4 s fun s=>
 L 20 1 19 false s fun s=>
 M 21 1 s fun s=>
 Ca Tryz.prog 124 [(s.τ 20),(.int .i64 0),(s.τ 21)] 22 s fun s=>
 M 8 22 s fun s=>
 Φ .ret s
def W92_b6 (Φ:EP) (s:St):Prop:=
 F 27 1 4 s fun s=>
 L 28 1 27 false s fun s=>
 M 29 2 s fun s=>
 Ca Tryz.prog 124 [(s.τ 28),(.int .i64 0),(s.τ 29)] 30 s fun s=>
 M 8 30 s fun s=>
 Φ .ret s
def W92_b12 (Φ:EP) (s:St):Prop:=
 F 33 1 4 s fun s=>
 L 34 1 33 false s fun s=>
 M 35 2 s fun s=>
 Ca Tryz.prog 124 [(s.τ 34),(.int .i64 0),(s.τ 35)] 36 s fun s=>
 M 37 36 s fun s=>
 gf 38 2 4 37 true s fun s=>
 gl 39 1 38 37 false true s fun s=>
 gm 40 2 37 true s fun s=>
 @sGrd (guardOf (s.τ 37) true) (some 41) s ⟨fun s K=>@sCall Tryz.prog (.func 124 []) [(s.τ 39),(.int .i64 0),(s.τ 40)] (some 41) s ⟨K⟩⟩<|.mk fun s=>
 A 42 37 41 s fun s=>
 M 8 42 s fun s=>
 Φ .ret s
def W92_b14 (Φ:EP) (s:St):Prop:=
 F 45 1 4 s fun s=>
 L 46 1 45 false s fun s=>
 M 47 3 s fun s=>
 Ca Tryz.prog 124 [(s.τ 46),(.int .i64 0),(s.τ 47)] 48 s fun s=>
 M 8 48 s fun s=>
 Φ .ret s
def W92_b19 (Φ:EP) (s:St):Prop:=
 F 51 1 4 s fun s=>
 L 52 1 51 false s fun s=>
 J 53 .geq false 52 0 s fun s=>
 M 54 53 s fun s=>
 gf 55 2 4 54 true s fun s=>
 gl 56 1 55 54 false true s fun s=>
 gm 57 1 54 true s fun s=>
 @sGrd (guardOf (s.τ 54) true) (some 58) s ⟨fun s K=>@sCall Tryz.prog (.func 124 []) [(s.τ 56),(.int .i64 (-1)),(s.τ 57)] (some 58) s ⟨K⟩⟩<|.mk fun s=>
 A 59 54 58 s fun s=>
 M 8 59 s fun s=>
 Φ .ret s
def W92_b20 (Φ:EP) (s:St):Prop:=
 V 8 true s fun s=>
 Φ .ret s
def W92_b21 (Φ:EP) (s:St):Prop:=
 J 50 .eql false 10 14 s fun s=>
 M 49 50 s fun s=>
 If 49 s (W92_b19 Φ s) (W92_b20 Φ s)
def W92_b22 (Φ:EP) (s:St):Prop:=
 J 44 .eql false 10 13 s fun s=>
 M 43 44 s fun s=>
 If 43 s (W92_b14 Φ s) (W92_b21 Φ s)
def W92_b23 (Φ:EP) (s:St):Prop:=
 J 32 .eql false 10 6 s fun s=>
 M 31 32 s fun s=>
 If 31 s (W92_b12 Φ s) (W92_b22 Φ s)
def W92_k24 (Φ:EP) (s:St):Prop:=
 If 23 s (W92_b6 Φ s) (W92_b23 Φ s)
def W92_b25 (Φ:EP) (s:St):Prop:=
 J 26 .eql false 10 5 s fun s=>
 M 23 26 s fun s=>
 W92_k24 Φ s
def W92_b26 (Φ:EP) (s:St):Prop:=
 J 25 .eql false 10 4 s fun s=>
 M 23 25 s fun s=>
 If 23 s (W92_k24 Φ s) (W92_b25 Φ s)
def W92_b27 (Φ:EP) (s:St):Prop:=
 J 24 .eql false 10 3 s fun s=>
 M 23 24 s fun s=>
 If 23 s (W92_k24 Φ s) (W92_b26 Φ s)
def W92_b28 (Φ:EP) (s:St):Prop:=
 J 18 .eql false 10 2 s fun s=>
 M 17 18 s fun s=>
 If 17 s (W92_b4 Φ s) (W92_b27 Φ s)
def W92 (Φ:EP) (s:St):Prop:=
 Y 4 35 0 s fun s=>
 V 8 false s fun s=>
 F 9 0 4 s fun s=>
 L 10 1 9 false s fun s=>
 J 12 .eql false 10 1 s fun s=>
 M 11 12 s fun s=>
 If 11 s (W92_b2 Φ s) (W92_b28 Φ s)
theorem W92_rs (τ:Nat → AV) (H:Heap):resV Tryz.prog τ H [.tmp 8] = some (τ 8):=by kernel_rfl
theorem W92_eq:EqW Tryz.prog Tryz.f92 W92:=fun _ _=>by kernel_rfl
theorem W92_S:SpW Tryz.prog 92 60 [.tmp 8] W92:=spW Tryz.func92 Tryz.ntmps92 W92_eq
-- 93 "penance/penanceref1.Name"
def W93_b1 (Φ:EP) (s:St):Prop:=
 V 2 false s fun s=>
 Φ .ret s
def W93_k2 (Φ:EP) (s:St):Prop:=
 V 2 true s fun s=>
 Φ .ret s
def W93_b3 (Φ:EP) (L0:SP) (s:St):Prop:=
 V 2 false s fun s=>
 Φ .ret s
def W93_b4 (Φ:EP) (L0:SP) (s:St):Prop:=
 M 20 3 s fun s=>
 J 21 .add false 20 1 s fun s=>
 M 3 21 s fun s=>
 L0 s
def W93_b6 (Φ:EP) (L0:SP) (s:St):Prop:=
 M 22 0 s fun s=>
 M 23 3 s fun s=>
 @sOp (some 24) (xSix (s.τ 22) (s.τ 23) s.H) s<|.mk fun s=>
 M 25 3 s fun s=>
 J 26 .eql false 25 0 s fun s=>
 Ca Tryz.prog 126 [(s.τ 24),(s.τ 26)] 27 s fun s=>
 Q 28 27 s fun s=>
 If 28 s (W93_b3 Φ L0 s) (W93_b4 Φ L0 s)
def W93_l7 (Φ:EP) (L0:SP) (s:St):Prop:=
 M 16 3 s fun s=>
 M 17 0 s fun s=>
 @sOp (some 18) (xSlen (s.τ 17) s.H) s<|.mk fun s=>
 B 19 .lss false 16 18 s fun s=>
 If 19 s (W93_b6 Φ L0 s) (W93_k2 Φ s)
def W93_b8 (Φ:EP) (s:St):Prop:=
 I 3 0 s fun s=>
 @sLoop s ⟨fun L0 s=>W93_l7 Φ L0 s⟩
def W93 (Φ:EP) (s:St):Prop:=
 V 2 false s fun s=>
 M 4 0 s fun s=>
 @sOp (some 5) (xSlen (s.τ 4) s.H) s<|.mk fun s=>
 J 6 .lss false 5 1 s fun s=>
 M 7 6 s fun s=>
 gm 8 0 7 false s fun s=>
 go 9 7 false s (fun s=>(xSlen (s.τ 8) s.H)) fun s=>
 go 10 7 false s (fun s=>(xBin .gtr false (s.τ 9) (.int .i64 20) s.H)) fun s=>
 O 11 7 10 s fun s=>
 M 12 11 s fun s=>
 gm 13 0 12 false s fun s=>
 @sGrd (guardOf (s.τ 12) false) (some 14) s ⟨fun s K=>@sCall Tryz.prog (.func 125 []) [(s.τ 13)] (some 14) s ⟨K⟩⟩<|.mk fun s=>
 O 15 12 14 s fun s=>
 If 15 s (W93_b1 Φ s) (W93_b8 Φ s)
theorem W93_rs (τ:Nat → AV) (H:Heap):resV Tryz.prog τ H [.tmp 2] = some (τ 2):=by kernel_rfl
theorem W93_eq:EqW Tryz.prog Tryz.f93 W93:=fun _ _=>by kernel_rfl
theorem W93_S:SpW Tryz.prog 93 29 [.tmp 2] W93:=spW Tryz.func93 Tryz.ntmps93 W93_eq
-- 94 "penance/penanceref2.Right"
def W94_b1 (Φ:EP) (s:St):Prop:=
 V 4 false s fun s=>
 Φ .ret s
def W94_k2 (Φ:EP) (s:St):Prop:=
 V 4 true s fun s=>
 Φ .ret s
def W94_b3 (Φ:EP) (L0:SP) (s:St):Prop:=
 V 4 false s fun s=>
 Φ .ret s
def W94_b4 (Φ:EP) (L0:SP) (s:St):Prop:=
 M 74 6 s fun s=>
 J 75 .add false 74 1 s fun s=>
 M 6 75 s fun s=>
 L0 s
def W94_b6 (Φ:EP) (L0:SP) (s:St):Prop:=
 F 76 3 2 s fun s=>
 L 77 1 76 false s fun s=>
 M 78 6 s fun s=>
 X 79 4 77 78 s fun s=>
 L 80 4 79 true s fun s=>
 M 81 1 s fun s=>
 Ca Tryz.prog 94 [(s.τ 80),(s.τ 81)] 82 s fun s=>
 Q 83 82 s fun s=>
 If 83 s (W94_b3 Φ L0 s) (W94_b4 Φ L0 s)
def W94_l7 (Φ:EP) (L0:SP) (s:St):Prop:=
 M 71 6 s fun s=>
 M 72 5 s fun s=>
 B 73 .lss false 71 72 s fun s=>
 If 73 s (W94_b6 Φ L0 s) (W94_k2 Φ s)
def W94_b8 (Φ:EP) (s:St):Prop:=
 I 6 0 s fun s=>
 @sLoop s ⟨fun L0 s=>W94_l7 Φ L0 s⟩
def W94_k14 (Φ:EP) (s:St):Prop:=
 F 61 1 2 s fun s=>
 L 62 1 61 false s fun s=>
 J 63 .neq false 62 0 s fun s=>
 M 64 63 s fun s=>
 gf 65 3 2 64 false s fun s=>
 gl 66 1 65 64 false false s fun s=>
 go 67 64 false s (fun s=>(xLen (s.τ 66) s.H)) fun s=>
 gm 68 5 64 false s fun s=>
 go 69 64 false s (fun s=>(xBin .neq false (s.τ 67) (s.τ 68) s.H)) fun s=>
 O 70 64 69 s fun s=>
 If 70 s (W94_b1 Φ s) (W94_b8 Φ s)
def W94_b15 (Φ:EP) (s:St):Prop:=
 V 4 false s fun s=>
 Φ .ret s
def W94_b20 (Φ:EP) (s:St):Prop:=
 F 15 1 2 s fun s=>
 L 16 1 15 false s fun s=>
 J 17 .geq false 16 0 s fun s=>
 M 18 17 s fun s=>
 gf 19 3 2 18 true s fun s=>
 gl 20 1 19 18 false true s fun s=>
 go 21 18 true s (fun s=>(xLen (s.τ 20) s.H)) fun s=>
 go 22 18 true s (fun s=>(xBin .eql false (s.τ 21) (.int .i64 0) s.H)) fun s=>
 A 23 18 22 s fun s=>
 M 4 23 s fun s=>
 Φ .ret s
def W94_b29 (Φ:EP) (s:St):Prop:=
 F 28 1 2 s fun s=>
 L 29 1 28 false s fun s=>
 J 30 .geq false 29 0 s fun s=>
 M 31 30 s fun s=>
 gf 32 1 2 31 true s fun s=>
 gl 33 1 32 31 false true s fun s=>
 gm 34 1 31 true s fun s=>
 go 35 31 true s (fun s=>(xBin .lss false (s.τ 33) (s.τ 34) s.H)) fun s=>
 A 36 31 35 s fun s=>
 M 37 36 s fun s=>
 gf 38 3 2 37 true s fun s=>
 gl 39 1 38 37 false true s fun s=>
 go 40 37 true s (fun s=>(xLen (s.τ 39) s.H)) fun s=>
 go 41 37 true s (fun s=>(xBin .eql false (s.τ 40) (.int .i64 0) s.H)) fun s=>
 A 42 37 41 s fun s=>
 M 4 42 s fun s=>
 Φ .ret s
def W94_b30 (Φ:EP) (s:St):Prop:=
 I 5 1 s fun s=>
 W94_k14 Φ s
def W94_b31 (Φ:EP) (s:St):Prop:=
 V 4 false s fun s=>
 Φ .ret s
def W94_b35 (Φ:EP) (s:St):Prop:=
 F 53 0 2 s fun s=>
 L 54 1 53 false s fun s=>
 J 55 .lss false 54 5 s fun s=>
 M 56 55 s fun s=>
 gf 57 0 2 56 false s fun s=>
 gl 58 1 57 56 false false s fun s=>
 go 59 56 false s (fun s=>(xBin .gtr false (s.τ 58) (.int .i64 17) s.H)) fun s=>
 O 60 56 59 s fun s=>
 M 52 60 s fun s=>
 If 52 s (W94_b31 Φ s) (W94_k14 Φ s)
def W94_b39 (Φ:EP) (s:St):Prop:=
 F 44 0 2 s fun s=>
 L 45 1 44 false s fun s=>
 J 46 .eql false 45 3 s fun s=>
 M 47 46 s fun s=>
 gf 48 0 2 47 false s fun s=>
 gl 49 1 48 47 false false s fun s=>
 go 50 47 false s (fun s=>(xBin .eql false (s.τ 49) (.int .i64 4) s.H)) fun s=>
 O 51 47 50 s fun s=>
 M 43 51 s fun s=>
 If 43 s (W94_b30 Φ s) (W94_b35 Φ s)
def W94_b40 (Φ:EP) (s:St):Prop:=
 F 25 0 2 s fun s=>
 L 26 1 25 false s fun s=>
 J 27 .eql false 26 2 s fun s=>
 M 24 27 s fun s=>
 If 24 s (W94_b29 Φ s) (W94_b39 Φ s)
def W94_b41 (Φ:EP) (s:St):Prop:=
 F 12 0 2 s fun s=>
 L 13 1 12 false s fun s=>
 J 14 .eql false 13 1 s fun s=>
 M 11 14 s fun s=>
 If 11 s (W94_b20 Φ s) (W94_b40 Φ s)
def W94 (Φ:EP) (s:St):Prop:=
 Y 2 33 0 s fun s=>
 V 4 false s fun s=>
 I 5 2 s fun s=>
 F 8 2 2 s fun s=>
 L 9 1 8 false s fun s=>
 @sOp (some 10) (xBin .neq false (s.τ 9) (.str ⟨#[]⟩) s.H) s<|.mk fun s=>
 M 7 10 s fun s=>
 If 7 s (W94_b15 Φ s) (W94_b41 Φ s)
theorem W94_rs (τ:Nat → AV) (H:Heap):resV Tryz.prog τ H [.tmp 4] = some (τ 4):=by kernel_rfl
theorem W94_eq:EqW Tryz.prog Tryz.f94 W94:=fun _ _=>by kernel_rfl
theorem W94_S:SpW Tryz.prog 94 84 [.tmp 4] W94:=spW Tryz.func94 Tryz.ntmps94 W94_eq
-- 95 "penance/penancelaw2.size"
def W95_b1 (Φ:EP) (s:St):Prop:=
 I 4 1000 s fun s=>
 Φ .ret s
def W95_k2 (Φ:EP) (s:St):Prop:=
 M 30 5 s fun s=>
 M 4 30 s fun s=>
 Φ .ret s
def W95_b4 (Φ:EP) (L0:SP) (s:St):Prop:=
 M 19 5 s fun s=>
 J 20 .add false 19 1 s fun s=>
 M 21 0 s fun s=>
 M 22 6 s fun s=>
 X 23 3 21 22 s fun s=>
 F 24 2 23 s fun s=>
 L 25 1 24 false s fun s=>
 M 26 1 s fun s=>
 J 27 .add false 26 1 s fun s=>
 Ca Tryz.prog 95 [(s.τ 25),(s.τ 27)] 28 s fun s=>
 B 29 .add false 20 28 s fun s=>
 M 5 29 s fun s=>
 M 17 6 s fun s=>
 J 18 .add false 17 1 s fun s=>
 M 6 18 s fun s=>
 L0 s
def W95_l7 (Φ:EP) (L0:SP) (s:St):Prop:=
 M 9 6 s fun s=>
 M 10 0 s fun s=>
 N 11 10 s fun s=>
 B 12 .lss false 9 11 s fun s=>
 M 13 12 s fun s=>
 gm 14 5 13 true s fun s=>
 go 15 13 true s (fun s=>(xBin .leq false (s.τ 14) (.int .i64 20) s.H)) fun s=>
 A 16 13 15 s fun s=>
 If 16 s (W95_b4 Φ L0 s) (W95_k2 Φ s)
def W95_b8 (Φ:EP) (s:St):Prop:=
 I 5 0 s fun s=>
 I 6 0 s fun s=>
 @sLoop s ⟨fun L0 s=>W95_l7 Φ L0 s⟩
def W95 (Φ:EP) (s:St):Prop:=
 I 4 0 s fun s=>
 M 7 1 s fun s=>
 J 8 .gtr false 7 8 s fun s=>
 If 8 s (W95_b1 Φ s) (W95_b8 Φ s)
theorem W95_rs (τ:Nat → AV) (H:Heap):resV Tryz.prog τ H [.tmp 4] = some (τ 4):=by kernel_rfl
theorem W95_eq:EqW Tryz.prog Tryz.f95 W95:=fun _ _=>by kernel_rfl
theorem W95_S:SpW Tryz.prog 95 31 [.tmp 4] W95:=spW Tryz.func95 Tryz.ntmps95 W95_eq
-- 96 "(*penance/penanceref4.lower).at"
def W96_k1 (Φ:EP) (s:St):Prop:=
 M 16 7 s fun s=>
 M 6 16 s fun s=>
 Φ .ret s
def W96_b2 (Φ:EP) (s:St):Prop:=
 M 13 0 s fun s=>
 @sOp (some 14) (xNil (s.τ 13) s.H) s<|.mk fun s=>
 F 15 3 14 s fun s=>
 @sOp none (xStore 1 (s.τ 15) (.bool true) s.H) s<|.mk fun s=>
 W96_k1 Φ s
def W96 (Φ:EP) (s:St):Prop:=
 I 6 0 s fun s=>
 M 8 1 s fun s=>
 M 9 2 s fun s=>
 Ca Tryz.prog 67 [(s.τ 8),(s.τ 9)] 10 s fun s=>
 M 7 10 s fun s=>
 M 11 7 s fun s=>
 J 12 .lss false 11 0 s fun s=>
 If 12 s (W96_b2 Φ s) (W96_k1 Φ s)
theorem W96_rs (τ:Nat → AV) (H:Heap):resV Tryz.prog τ H [.tmp 6] = some (τ 6):=by kernel_rfl
theorem W96_eq:EqW Tryz.prog Tryz.f96 W96:=fun _ _=>by kernel_rfl
theorem W96_S:SpW Tryz.prog 96 17 [.tmp 6] W96:=spW Tryz.func96 Tryz.ntmps96 W96_eq
-- 97 "(*penance/penanceref4.lower).expr"
def W97_k1 (Φ:EP) (s:St):Prop:=
 L 43 4 5 true s fun s=>
 U 4 4 43 s fun s=>
 Φ .ret s
def W97_b3 (Φ:EP) (L0:SP) (s:St):Prop:=
 F 31 3 5 s fun u1=>
 L 32 1 31 false u1 fun u2=>
 M 33 0 u2 fun u3=>
 F 34 3 3 u3 fun u4=>
 L 35 1 34 false u4 fun u5=>
 M 36 6 u5 fun u6=>
 X 37 4 35 36 u6 fun u7=>
 L 38 4 37 true u7 fun u8=>
 k3 (s.τ 5) (cfp 39 97 [(u8.τ 33),(u8.τ 38)]) <|
 k3 (u1.τ 31) (cfp 39 97 [(u8.τ 33),(u8.τ 38)]) <|
 C0 Tryz.prog 97 [(u8.τ 33),(u8.τ 38)] 39 u8 fun u9=>
 k3 (s.τ 5) ([40] ++ occL [(u9.τ 39)],[40] ++ occL [(u9.τ 39)]) <|
 k3 (u1.τ 31) ([40] ++ occL [(u9.τ 39)],[40] ++ occL [(u9.τ 39)]) <|
 Lt 40 4 1 z4 [(0,(u9.τ 39))] u9 fun u10=>
 @sOp (some 41) (xApp Tryz.prog 33 4 56 (some 41) (u10.τ 32) (u10.τ 40) u10.H) u10<|.mk fun u11=>
 F 42 3 5 u11 fun u12=>
 U 1 42 41 u12 fun s=>
 M 29 6 s fun s=>
 J 30 .add false 29 1 s fun s=>
 M 6 30 s fun s=>
 L0 s
def W97_l4 (Φ:EP) (L0:SP) (s:St):Prop:=
 M 24 6 s fun s=>
 F 25 3 3 s fun s=>
 L 26 1 25 false s fun s=>
 N 27 26 s fun s=>
 B 28 .lss false 24 27 s fun s=>
 If 28 s (W97_b3 Φ L0 s) (W97_k1 Φ s)
def W97_k5 (Φ:EP) (s:St):Prop:=
 I 6 0 s fun s=>
 @sLoop s ⟨fun L0 s=>W97_l4 Φ L0 s⟩
def W97_b7 (Φ:EP) (s:St):Prop:=
 M 15 0 s fun s=>
 M 16 0 s fun s=>
 @sOp (some 17) (xNil (s.τ 16) s.H) s<|.mk fun s=>
 F 18 0 17 s fun s=>
 L 19 1 18 false s fun s=>
 F 20 2 3 s fun s=>
 L 21 1 20 false s fun s=>
 C0 Tryz.prog 96 [(s.τ 15),(s.τ 19),(s.τ 21)] 22 s fun s=>
 F 23 1 5 s fun s=>
 U 1 23 22 s fun s=>
 W97_k5 Φ s
def W97 (Φ:EP) (s:St):Prop:=
 Y 3 33 1 s fun s=>
 Z 4 33 z4 s fun s=>
 F 7 0 3 s fun s=>
 L 8 1 7 false s fun s=>
 F 9 1 3 s fun s=>
 L 10 1 9 false s fun s=>
 Bd 11 z4 [(0,1,(s.τ 8)),(1,1,(s.τ 10))] s fun s=>
 Z 5 33 z4 s fun s=>
 U 4 5 11 s fun s=>
 F 12 0 3 s fun s=>
 L 13 1 12 false s fun s=>
 J 14 .eql false 13 2 s fun s=>
 If 14 s (W97_b7 Φ s) (W97_k5 Φ s)
theorem W97_rs (τ:Nat → AV) (H:Heap):resV Tryz.prog τ H [.cell 4 33] = rdV H 4 true (τ 4):=by kernel_rfl
theorem W97_eq:EqW Tryz.prog Tryz.f97 W97:=fun _ _=>by kernel_rfl
theorem W97_S:SpW Tryz.prog 97 44 [.cell 4 33] W97:=spW Tryz.func97 Tryz.ntmps97 W97_eq
-- 98 "penance/penanceref4.fronts"
def W98_k1 (Φ:EP) (s:St):Prop:=
 M 37 4 s fun s=>
 M 2 37 s fun s=>
 Φ .ret s
def W98_b3 (Φ:EP) (L0:SP) (s:St):Prop:=
 M 18 3 s fun s=>
 @sOp (some 19) (xNil (s.τ 18) s.H) s<|.mk fun s=>
 F 20 0 19 s fun s=>
 L 21 1 20 false s fun s=>
 N 22 21 s fun s=>
 @sMks (some 23) (fun k=>xMks k 4 1 1 [.bool false] (s.τ 22) (s.τ 22) s.H) s<|.mk fun s=>
 M 6 23 s fun s=>
 M 24 3 s fun s=>
 F 25 2 1 s fun s=>
 L 26 1 25 false s fun s=>
 M 27 5 s fun s=>
 X 28 9 26 27 s fun s=>
 F 29 1 28 s fun s=>
 L 30 8 29 true s fun s=>
 M 31 6 s fun s=>
 Ca Tryz.prog 128 [(s.τ 24),(s.τ 30),(s.τ 31)] 32 s fun s=>
 M 33 4 s fun s=>
 M 34 6 s fun s=>
 @sLit (some 35) (xLit 1 1 [.nils] [(0,(s.τ 34))] s.H) (xLitR 1 1 [.nils] [(0,(s.τ 34))] s.H) s<|.mk fun s=>
 @sOp (some 36) (xApp Tryz.prog 157 1 24 (some 36) (s.τ 33) (s.τ 35) s.H) s<|.mk fun s=>
 M 4 36 s fun s=>
 M 16 5 s fun s=>
 J 17 .add false 16 1 s fun s=>
 M 5 17 s fun s=>
 L0 s
def W98_l4 (Φ:EP) (L0:SP) (s:St):Prop:=
 M 9 5 s fun s=>
 M 10 3 s fun s=>
 @sOp (some 11) (xNil (s.τ 10) s.H) s<|.mk fun s=>
 F 12 0 11 s fun s=>
 L 13 1 12 false s fun s=>
 N 14 13 s fun s=>
 B 15 .lss false 9 14 s fun s=>
 If 15 s (W98_b3 Φ L0 s) (W98_k1 Φ s)
def W98 (Φ:EP) (s:St):Prop:=
 Y 1 76 0 s fun s=>
 @sOp (some 2) (xMov (.nils) s.H) s<|.mk fun s=>
 L 7 3 1 true s fun s=>
 Ca Tryz.prog 127 [(s.τ 7)] 8 s fun s=>
 M 3 8 s fun s=>
 @sOp (some 4) (xMov (.nils) s.H) s<|.mk fun s=>
 I 5 0 s fun s=>
 @sLoop s ⟨fun L0 s=>W98_l4 Φ L0 s⟩
theorem W98_rs (τ:Nat → AV) (H:Heap):resV Tryz.prog τ H [.tmp 2] = some (τ 2):=by kernel_rfl
theorem W98_eq:EqW Tryz.prog Tryz.f98 W98:=fun _ _=>by kernel_rfl
theorem W98_S:SpW Tryz.prog 98 38 [.tmp 2] W98:=spW Tryz.func98 Tryz.ntmps98 W98_eq
-- 99 "(penance/penancelaw3.Raw).part"
def W99_b2 (Φ:EP) (s:St):Prop:=
 F 16 4 3 s fun s=>
 L 17 1 16 false s fun s=>
 M 18 1 s fun s=>
 X 19 5 17 18 s fun s=>
 L 20 5 19 true s fun s=>
 M 21 2 s fun s=>
 J 22 .add false 21 1 s fun s=>
 Ca Tryz.prog 74 [(s.τ 20),(s.τ 22)] 23 s fun s=>
 U 8 6 23 s fun s=>
 Φ .ret s
def W99_b3 (Φ:EP) (s:St):Prop:=
 Bd 24 [.int .i64 0,.str ⟨#[]⟩,.str ⟨#[]⟩,.int .i64 0,.int .i64 0,.str ⟨#[]⟩,.nils,.nils] [(0,1,(.int .i64 0))] s fun s=>
 U 8 6 24 s fun s=>
 Φ .ret s
def W99 (Φ:EP) (s:St):Prop:=
 Y 3 69 0 s fun s=>
 Z 6 80 [.int .i64 0,.str ⟨#[]⟩,.str ⟨#[]⟩,.int .i64 0,.int .i64 0,.str ⟨#[]⟩,.nils,.nils] s fun s=>
 M 7 1 s fun s=>
 F 8 4 3 s fun s=>
 L 9 1 8 false s fun s=>
 N 10 9 s fun s=>
 B 11 .lss false 7 10 s fun s=>
 M 12 11 s fun s=>
 gm 13 2 12 true s fun s=>
 go 14 12 true s (fun s=>(xBin .lss false (s.τ 13) (.int .i64 6) s.H)) fun s=>
 A 15 12 14 s fun s=>
 If 15 s (W99_b2 Φ s) (W99_b3 Φ s)
theorem W99_rs (τ:Nat → AV) (H:Heap):resV Tryz.prog τ H [.cell 6 80] = rdV H 8 true (τ 6):=by kernel_rfl
theorem W99_eq:EqW Tryz.prog Tryz.f99 W99:=fun _ _=>by kernel_rfl
theorem W99_S:SpW Tryz.prog 99 25 [.cell 6 80] W99:=spW Tryz.func99 Tryz.ntmps99 W99_eq
-- 100 "penance/penancelaw2.One"
def W100_b1 (Φ:EP) (s:St):Prop:=
 Bd 8 z4 [(0,1,(.int .i64 1)),(1,1,(.int .i64 1))] s fun s=>
 U 4 4 8 s fun s=>
 Φ .ret s
def W100_b3 (Φ:EP) (s:St):Prop:=
 M 9 0 s fun s=>
 @sOp (some 10) (xIx 3 (s.τ 9) (.int .i64 0) s.H) s<|.mk fun s=>
 L 11 3 10 true s fun s=>
 M 12 1 s fun s=>
 Ca Tryz.prog 129 [(s.τ 11),(s.τ 12)] 13 s fun s=>
 U 4 4 13 s fun s=>
 Φ .ret s
def W100 (Φ:EP) (s:St):Prop:=
 Z 4 33 z4 s fun s=>
 M 5 0 s fun s=>
 N 6 5 s fun s=>
 J 7 .eql false 6 0 s fun s=>
 If 7 s (W100_b1 Φ s) (W100_b3 Φ s)
theorem W100_rs (τ:Nat → AV) (H:Heap):resV Tryz.prog τ H [.cell 4 33] = rdV H 4 true (τ 4):=by kernel_rfl
theorem W100_eq:EqW Tryz.prog Tryz.f100 W100:=fun _ _=>by kernel_rfl
theorem W100_S:SpW Tryz.prog 100 14 [.cell 4 33] W100:=spW Tryz.func100 Tryz.ntmps100 W100_eq
-- 101 "penance/term.ownExpr"
def W101_k2 (Φ:EP) (s:St):Prop:=
 M 23 3 s fun s=>
 Ca Tryz.prog 130 [(s.τ 23)] 24 s fun s=>
 F 25 3 1 s fun s=>
 U 1 25 24 s fun s=>
 L 26 4 1 true s fun s=>
 U 4 2 26 s fun s=>
 Φ .ret s
def W101_b4 (Φ:EP) (L0:SP) (s:St):Prop:=
 X 15 4 11 13 s fun s=>
 L 16 4 15 true s fun s=>
 Z 5 33 z4 s fun s=>
 U 4 5 16 s fun s=>
 M 17 3 s fun s=>
 L 18 4 5 true s fun s=>
 Ca Tryz.prog 101 [(s.τ 18)] 19 s fun s=>
 Lt 20 4 1 z4 [(0,(s.τ 19))] s fun s=>
 @sOp (some 21) (xApp Tryz.prog 33 4 56 (some 21) (s.τ 17) (s.τ 20) s.H) s<|.mk fun s=>
 M 3 21 s fun s=>
 J 22 .add false 13 1 s fun s=>
 M 13 22 s fun s=>
 L0 s
def W101_l5 (Φ:EP) (L0:SP) (s:St):Prop:=
 B 14 .lss false 13 12 s fun s=>
 If 14 s (W101_b4 Φ L0 s) (W101_k2 Φ s)
def W101 (Φ:EP) (s:St):Prop:=
 Y 1 33 0 s fun s=>
 Z 2 33 z4 s fun s=>
 F 6 3 1 s fun s=>
 L 7 1 6 false s fun s=>
 N 8 7 s fun s=>
 @sOp (some 9) (xMks 9 33 4 56 z4 (.int .i64 0) (s.τ 8) s.H) s<|.mk fun s=>
 M 3 9 s fun s=>
 F 10 3 1 s fun s=>
 L 11 1 10 false s fun s=>
 N 12 11 s fun s=>
 I 13 0 s fun s=>
 @sLoop s ⟨fun L0 s=>W101_l5 Φ L0 s⟩
theorem W101_rs (τ:Nat → AV) (H:Heap):resV Tryz.prog τ H [.cell 2 33] = rdV H 4 true (τ 2):=by kernel_rfl
theorem W101_eq:EqW Tryz.prog Tryz.f101 W101:=fun _ _=>by kernel_rfl
theorem W101_S:SpW Tryz.prog 101 27 [.cell 2 33] W101:=spW Tryz.func101 Tryz.ntmps101 W101_eq
-- 102 "penance/stacks.mapped[[]penance/api.Term]"
def W102_k2 (Φ:EP) (s:St):Prop:=
 M 22 5 s fun s=>
 N 23 22 s fun s=>
 M 8 23 s fun s=>
 M 24 5 s fun s=>
 M 25 8 s fun s=>
 M 26 8 s fun s=>
 @sOp (some 27) (xSl3 1 (s.τ 24) (s.τ 25) (s.τ 26) (frz s.H (s.τ 24))) s<|.mk fun s=>
 Ca Tryz.prog 131 [(s.τ 27)] 28 s fun s=>
 M 4 28 s fun s=>
 Φ .ret s
def W102_b4 (Φ:EP) (L0:SP) (s:St):Prop:=
 X 13 1 9 11 s fun s=>
 L 14 1 13 false s fun s=>
 M 7 14 s fun s=>
 M 15 5 s fun s=>
 M 16 1 s fun s=>
 M 17 7 s fun s=>
 @sCall Tryz.prog (s.τ 16) [(s.τ 17)] (some 18) s<|.mk fun s=>
 @sLit (some 19) (xLit 1 1 [.nils] [(0,(s.τ 18))] s.H) (xLitR 1 1 [.nils] [(0,(s.τ 18))] s.H) s<|.mk fun s=>
 @sOp (some 20) (xApp Tryz.prog 27 1 24 (some 20) (s.τ 15) (s.τ 19) s.H) s<|.mk fun s=>
 M 5 20 s fun s=>
 J 21 .add false 11 1 s fun s=>
 M 11 21 s fun s=>
 L0 s
def W102_l5 (Φ:EP) (L0:SP) (s:St):Prop:=
 B 12 .lss false 11 10 s fun s=>
 If 12 s (W102_b4 Φ L0 s) (W102_k2 Φ s)
def W102 (Φ:EP) (s:St):Prop:=
 @sOp (some 4) (xMov (.nils) s.H) s<|.mk fun s=>
 @sOp (some 5) (xMov (.nils) s.H) s<|.mk fun s=>
 M 9 0 s fun s=>
 N 10 9 s fun s=>
 I 11 0 s fun s=>
 @sLoop s ⟨fun L0 s=>W102_l5 Φ L0 s⟩
theorem W102_rs (τ:Nat → AV) (H:Heap):resV Tryz.prog τ H [.tmp 4] = some (τ 4):=by kernel_rfl
theorem W102_eq:EqW Tryz.prog Tryz.f102 W102:=fun _ _=>by kernel_rfl
theorem W102_S:SpW Tryz.prog 102 29 [.tmp 4] W102:=spW Tryz.func102 Tryz.ntmps102 W102_eq
-- 103 "penance/stacks.own$1"
def W103 (Φ:EP) (s:St):Prop:=
 @sOp (some 2) (xMov (.nils) s.H) s<|.mk fun s=>
 M 3 0 s fun s=>
 Ca Tryz.prog 104 [(s.τ 3),(.func 88 [])] 4 s fun s=>
 M 2 4 s fun s=>
 Φ .ret s
theorem W103_rs (τ:Nat → AV) (H:Heap):resV Tryz.prog τ H [.tmp 2] = some (τ 2):=by kernel_rfl
theorem W103_eq:EqW Tryz.prog Tryz.f103 W103:=fun _ _=>by kernel_rfl
theorem W103_S:SpW Tryz.prog 103 5 [.tmp 2] W103:=spW Tryz.func103 Tryz.ntmps103 W103_eq
-- 104 "penance/stacks.mapped[penance/api.Term]"
def W104_k2 (Φ:EP) (s:St):Prop:=
 M 22 5 s fun s=>
 N 23 22 s fun s=>
 M 8 23 s fun s=>
 M 24 5 s fun s=>
 M 25 8 s fun s=>
 M 26 8 s fun s=>
 @sOp (some 27) (xSl3 9 (s.τ 24) (s.τ 25) (s.τ 26) (frz s.H (s.τ 24))) s<|.mk fun s=>
 Ca Tryz.prog 82 [(s.τ 27)] 28 s fun s=>
 M 4 28 s fun s=>
 Φ .ret s
def W104_b4 (Φ:EP) (L0:SP) (s:St):Prop:=
 X 13 9 9 11 s fun s=>
 L 14 9 13 true s fun s=>
 Z 7 35 z9 s fun s=>
 U 9 7 14 s fun s=>
 M 15 5 s fun s=>
 M 16 1 s fun s=>
 L 17 9 7 true s fun s=>
 @sCall Tryz.prog (s.τ 16) [(s.τ 17)] (some 18) s<|.mk fun s=>
 Lt 19 9 1 z9 [(0,(s.τ 18))] s fun s=>
 @sOp (some 20) (xApp Tryz.prog 35 9 120 (some 20) (s.τ 15) (s.τ 19) s.H) s<|.mk fun s=>
 M 5 20 s fun s=>
 J 21 .add false 11 1 s fun s=>
 M 11 21 s fun s=>
 L0 s
def W104_l5 (Φ:EP) (L0:SP) (s:St):Prop:=
 B 12 .lss false 11 10 s fun s=>
 If 12 s (W104_b4 Φ L0 s) (W104_k2 Φ s)
def W104 (Φ:EP) (s:St):Prop:=
 @sOp (some 4) (xMov (.nils) s.H) s<|.mk fun s=>
 @sOp (some 5) (xMov (.nils) s.H) s<|.mk fun s=>
 M 9 0 s fun s=>
 N 10 9 s fun s=>
 I 11 0 s fun s=>
 @sLoop s ⟨fun L0 s=>W104_l5 Φ L0 s⟩
theorem W104_rs (τ:Nat → AV) (H:Heap):resV Tryz.prog τ H [.tmp 4] = some (τ 4):=by kernel_rfl
theorem W104_eq:EqW Tryz.prog Tryz.f104 W104:=fun _ _=>by kernel_rfl
theorem W104_S:SpW Tryz.prog 104 29 [.tmp 4] W104:=spW Tryz.func104 Tryz.ntmps104 W104_eq
-- 105 "penance/run.nodes$1"
def W105 (Φ:EP) (s:St):Prop:=
 L 3 9 1 true s fun s=>
 M 4 0 s fun s=>
 Ca Tryz.prog 106 [(s.τ 3),(s.τ 4)] 5 s fun s=>
 Φ .normal s
theorem W105_rs (τ:Nat → AV) (H:Heap):resV Tryz.prog τ H [] = ob (some []) fun vs=>some (.tup vs):=by kernel_rfl
theorem W105_eq:EqW Tryz.prog Tryz.f105 W105:=fun _ _=>by kernel_rfl
theorem W105_S:SpW Tryz.prog 105 6 [] W105:=spW Tryz.func105 Tryz.ntmps105 W105_eq
-- 106 "penance/run.walk"
def W106_b1 (Φ:EP) (s:St):Prop:=
 V 4 false s fun s=>
 Φ .ret s
def W106_k2 (Φ:EP) (s:St):Prop:=
 V 4 true s fun s=>
 Φ .ret s
def W106_b3 (Φ:EP) (L0:SP) (s:St):Prop:=
 V 4 false s fun s=>
 Φ .ret s
def W106_b4 (Φ:EP) (L0:SP) (s:St):Prop:=
 J 22 .add false 14 1 s fun s=>
 M 14 22 s fun s=>
 L0 s
def W106_b6 (Φ:EP) (L0:SP) (s:St):Prop:=
 X 16 9 12 14 s fun s=>
 L 17 9 16 true s fun s=>
 Z 6 35 z9 s fun s=>
 U 9 6 17 s fun s=>
 L 18 9 6 true s fun s=>
 M 19 1 s fun s=>
 Ca Tryz.prog 106 [(s.τ 18),(s.τ 19)] 20 s fun s=>
 Q 21 20 s fun s=>
 If 21 s (W106_b3 Φ L0 s) (W106_b4 Φ L0 s)
def W106_l7 (Φ:EP) (L0:SP) (s:St):Prop:=
 B 15 .lss false 14 13 s fun s=>
 If 15 s (W106_b6 Φ L0 s) (W106_k2 Φ s)
def W106_b8 (Φ:EP) (s:St):Prop:=
 F 11 8 2 s fun s=>
 L 12 1 11 false s fun s=>
 N 13 12 s fun s=>
 I 14 0 s fun s=>
 @sLoop s ⟨fun L0 s=>W106_l7 Φ L0 s⟩
def W106 (Φ:EP) (s:St):Prop:=
 Y 2 35 0 s fun s=>
 V 4 false s fun s=>
 M 7 1 s fun s=>
 L 8 9 2 true s fun s=>
 @sCall Tryz.prog (s.τ 7) [(s.τ 8)] (some 9) s<|.mk fun s=>
 Q 10 9 s fun s=>
 If 10 s (W106_b1 Φ s) (W106_b8 Φ s)
theorem W106_rs (τ:Nat → AV) (H:Heap):resV Tryz.prog τ H [.tmp 4] = some (τ 4):=by kernel_rfl
theorem W106_eq:EqW Tryz.prog Tryz.f106 W106:=fun _ _=>by kernel_rfl
theorem W106_S:SpW Tryz.prog 106 23 [.tmp 4] W106:=spW Tryz.func106 Tryz.ntmps106 W106_eq
-- 107 "penance/term.shapes"
def W107 (Φ:EP) (s:St):Prop:=
 @sOp (some 0) (xMov (.nils) s.H) s<|.mk fun s=>
 Bd 1 [.int .i64 0,.int .i64 0,.bool false,.bool false,.int .i64 0] [] s fun s=>
 Bd 2 [.int .i64 0,.int .i64 0,.bool false,.bool false,.int .i64 0] [(0,1,(.int .i64 2)),(2,1,(.bool true))] s fun s=>
 Bd 3 [.int .i64 0,.int .i64 0,.bool false,.bool false,.int .i64 0] [(0,1,(.int .i64 1)),(3,1,(.bool true))] s fun s=>
 Bd 4 [.int .i64 0,.int .i64 0,.bool false,.bool false,.int .i64 0] [(0,1,(.int .i64 3)),(4,1,(.int .i64 1))] s fun s=>
 Bd 5 [.int .i64 0,.int .i64 0,.bool false,.bool false,.int .i64 0] [(0,1,(.int .i64 3))] s fun s=>
 Bd 6 [.int .i64 0,.int .i64 0,.bool false,.bool false,.int .i64 0] [(0,1,(.int .i64 3))] s fun s=>
 Bd 7 [.int .i64 0,.int .i64 0,.bool false,.bool false,.int .i64 0] [(0,1,(.int .i64 3)),(1,1,(.int .i64 3))] s fun s=>
 Bd 8 [.int .i64 0,.int .i64 0,.bool false,.bool false,.int .i64 0] [(4,1,(.int .i64 1))] s fun s=>
 Bd 9 [.int .i64 0,.int .i64 0,.bool false,.bool false,.int .i64 0] [] s fun s=>
 Bd 10 [.int .i64 0,.int .i64 0,.bool false,.bool false,.int .i64 0] [(3,1,(.bool true)),(4,1,(.int .i64 2))] s fun s=>
 Bd 11 [.int .i64 0,.int .i64 0,.bool false,.bool false,.int .i64 0] [(4,1,(.int .i64 2))] s fun s=>
 Bd 12 [.int .i64 0,.int .i64 0,.bool false,.bool false,.int .i64 0] [(4,1,(.int .i64 2))] s fun s=>
 Bd 13 [.int .i64 0,.int .i64 0,.bool false,.bool false,.int .i64 0] [(4,1,(.int .i64 2))] s fun s=>
 Bd 14 [.int .i64 0,.int .i64 0,.bool false,.bool false,.int .i64 0] [(0,1,(.int .i64 4))] s fun s=>
 Bd 15 [.int .i64 0,.int .i64 0,.bool false,.bool false,.int .i64 0] [(0,1,(.int .i64 5)),(1,1,(.int .i64 2)),(2,1,(.bool true))] s fun s=>
 Lt 16 5 15 [.int .i64 0,.int .i64 0,.bool false,.bool false,.int .i64 0] [(0,(s.τ 1)),(1,(s.τ 2)),(2,(s.τ 3)),(3,(s.τ 4)),(4,(s.τ 5)),(5,(s.τ 6)),(6,(s.τ 7)),(7,(s.τ 8)),(8,(s.τ 9)),(9,(s.τ 10)),(10,(s.τ 11)),(11,(s.τ 12)),(12,(s.τ 13)),(13,(s.τ 14)),(14,(s.τ 15))] s fun s=>
 M 0 16 s fun s=>
 Φ .ret s
theorem W107_rs (τ:Nat → AV) (H:Heap):resV Tryz.prog τ H [.tmp 0] = some (τ 0):=by kernel_rfl
theorem W107_eq:EqW Tryz.prog Tryz.f107 W107:=fun _ _=>by kernel_rfl
theorem W107_S:SpW Tryz.prog 107 17 [.tmp 0] W107:=spW Tryz.func107 Tryz.ntmps107 W107_eq
-- 108 "(penance/term.bounds).number"
def W108_b5 (Φ:EP) (s:St):Prop:=
 M 10 2 s fun s=>
 J 11 .geq false 10 0 s fun s=>
 M 12 11 s fun s=>
 gm 13 2 12 true s fun s=>
 gf 14 0 3 12 true s fun s=>
 gl 15 1 14 12 false true s fun s=>
 go 16 12 true s (fun s=>(xBin .lss false (s.τ 13) (s.τ 15) s.H)) fun s=>
 A 17 12 16 s fun s=>
 M 6 17 s fun s=>
 Φ .ret s
def W108_b10 (Φ:EP) (s:St):Prop:=
 M 20 2 s fun s=>
 J 21 .geq false 20 (-1) s fun s=>
 M 22 21 s fun s=>
 gm 23 2 22 true s fun s=>
 gf 24 0 3 22 true s fun s=>
 gl 25 1 24 22 false true s fun s=>
 go 26 22 true s (fun s=>(xBin .lss false (s.τ 23) (s.τ 25) s.H)) fun s=>
 A 27 22 26 s fun s=>
 M 6 27 s fun s=>
 Φ .ret s
def W108_b15 (Φ:EP) (s:St):Prop:=
 M 30 2 s fun s=>
 J 31 .geq false 30 0 s fun s=>
 M 32 31 s fun s=>
 gm 33 2 32 true s fun s=>
 gf 34 1 3 32 true s fun s=>
 gl 35 1 34 32 false true s fun s=>
 go 36 32 true s (fun s=>(xBin .lss false (s.τ 33) (s.τ 35) s.H)) fun s=>
 A 37 32 36 s fun s=>
 M 6 37 s fun s=>
 Φ .ret s
def W108_b20 (Φ:EP) (s:St):Prop:=
 M 40 2 s fun s=>
 J 41 .geq false 40 0 s fun s=>
 M 42 41 s fun s=>
 gm 43 2 42 true s fun s=>
 gf 44 2 3 42 true s fun s=>
 gl 45 1 44 42 false true s fun s=>
 go 46 42 true s (fun s=>(xBin .lss false (s.τ 43) (s.τ 45) s.H)) fun s=>
 A 47 42 46 s fun s=>
 M 6 47 s fun s=>
 Φ .ret s
def W108_b21 (Φ:EP) (s:St):Prop:=
 M 50 2 s fun s=>
 J 51 .geq false 50 0 s fun s=>
 M 6 51 s fun s=>
 Φ .ret s
def W108_b22 (Φ:EP) (s:St):Prop:=
 M 52 2 s fun s=>
 J 53 .eql false 52 0 s fun s=>
 M 6 53 s fun s=>
 Φ .ret s
def W108_b23 (Φ:EP) (s:St):Prop:=
 J 49 .eql false 7 5 s fun s=>
 M 48 49 s fun s=>
 If 48 s (W108_b21 Φ s) (W108_b22 Φ s)
def W108_b24 (Φ:EP) (s:St):Prop:=
 J 39 .eql false 7 4 s fun s=>
 M 38 39 s fun s=>
 If 38 s (W108_b20 Φ s) (W108_b23 Φ s)
def W108_b25 (Φ:EP) (s:St):Prop:=
 J 29 .eql false 7 3 s fun s=>
 M 28 29 s fun s=>
 If 28 s (W108_b15 Φ s) (W108_b24 Φ s)
def W108_b26 (Φ:EP) (s:St):Prop:=
 J 19 .eql false 7 2 s fun s=>
 M 18 19 s fun s=>
 If 18 s (W108_b10 Φ s) (W108_b25 Φ s)
def W108 (Φ:EP) (s:St):Prop:=
 Y 3 133 0 s fun s=>
 V 6 false s fun s=>
 M 7 1 s fun s=>
 J 9 .eql false 7 1 s fun s=>
 M 8 9 s fun s=>
 If 8 s (W108_b5 Φ s) (W108_b26 Φ s)
theorem W108_rs (τ:Nat → AV) (H:Heap):resV Tryz.prog τ H [.tmp 6] = some (τ 6):=by kernel_rfl
theorem W108_eq:EqW Tryz.prog Tryz.f108 W108:=fun _ _=>by kernel_rfl
theorem W108_S:SpW Tryz.prog 108 54 [.tmp 6] W108:=spW Tryz.func108 Tryz.ntmps108 W108_eq
-- 109 "penance/term.none"
def W109 (Φ:EP) (s:St):Prop:=
 Y 1 33 0 s fun s=>
 V 2 false s fun s=>
 F 3 0 1 s fun s=>
 L 4 1 3 false s fun s=>
 J 5 .eql false 4 0 s fun s=>
 M 6 5 s fun s=>
 gf 7 1 1 6 true s fun s=>
 gl 8 1 7 6 false true s fun s=>
 go 9 6 true s (fun s=>(xBin .eql false (s.τ 8) (.int .i64 0) s.H)) fun s=>
 A 10 6 9 s fun s=>
 M 11 10 s fun s=>
 gf 12 2 1 11 true s fun s=>
 gl 13 1 12 11 false true s fun s=>
 go 14 11 true s (fun s=>(xBin .eql false (s.τ 13) (.str ⟨#[]⟩) s.H)) fun s=>
 A 15 11 14 s fun s=>
 M 16 15 s fun s=>
 gf 17 3 1 16 true s fun s=>
 gl 18 1 17 16 false true s fun s=>
 go 19 16 true s (fun s=>(xLen (s.τ 18) s.H)) fun s=>
 go 20 16 true s (fun s=>(xBin .eql false (s.τ 19) (.int .i64 0) s.H)) fun s=>
 A 21 16 20 s fun s=>
 M 2 21 s fun s=>
 Φ .ret s
theorem W109_rs (τ:Nat → AV) (H:Heap):resV Tryz.prog τ H [.tmp 2] = some (τ 2):=by kernel_rfl
theorem W109_eq:EqW Tryz.prog Tryz.f109 W109:=fun _ _=>by kernel_rfl
theorem W109_S:SpW Tryz.prog 109 22 [.tmp 2] W109:=spW Tryz.func109 Tryz.ntmps109 W109_eq
-- 110 "penance/lex.Name"
def W110_b1 (Φ:EP) (s:St):Prop:=
 V 2 false s fun s=>
 Φ .ret s
def W110_k2 (Φ:EP) (s:St):Prop:=
 V 2 true s fun s=>
 Φ .ret s
def W110_b3 (Φ:EP) (L0:SP) (s:St):Prop:=
 V 2 false s fun s=>
 Φ .ret s
def W110_b16 (Φ:EP) (L0:SP) (s:St):Prop:=
 E 21 19 1 s fun s=>
 E 22 19 2 s fun s=>
 M 3 21 s fun s=>
 M 4 22 s fun s=>
 M 23 4 s fun s=>
 @sOp (some 24) (xBin .gtr false (s.τ 23) (.int .i32 127) s.H) s<|.mk fun s=>
 M 25 24 s fun s=>
 gm 26 3 25 false s fun s=>
 go 27 25 false s (fun s=>(xBin .eql false (s.τ 26) (.int .i64 0) s.H)) fun s=>
 gm 28 27 25 false s fun s=>
 gm 29 4 28 true s fun s=>
 go 30 28 true s (fun s=>(xConv .u8 (s.τ 29) s.H)) fun s=>
 @sGrd (guardOf (s.τ 28) true) (some 31) s ⟨fun s K=>@sCall Tryz.prog (.func 133 []) [(s.τ 30)] (some 31) s ⟨K⟩⟩<|.mk fun s=>
 go 32 28 true s (fun s=>(xNot (s.τ 31) s.H)) fun s=>
 go 33 25 false s (fun s=>(xPick (s.τ 28) (s.τ 32) (.bool false) s.H)) fun s=>
 O 34 25 33 s fun s=>
 M 35 34 s fun s=>
 gm 36 4 35 false s fun s=>
 go 37 35 false s (fun s=>(xConv .u8 (s.τ 36) s.H)) fun s=>
 @sGrd (guardOf (s.τ 35) false) (some 38) s ⟨fun s K=>@sCall Tryz.prog (.func 134 []) [(s.τ 37)] (some 38) s ⟨K⟩⟩<|.mk fun s=>
 go 39 35 false s (fun s=>(xNot (s.τ 38) s.H)) fun s=>
 O 40 35 39 s fun s=>
 If 40 s (W110_b3 Φ L0 s) (L0 s)
def W110_l17 (Φ:EP) (L0:SP) (s:St):Prop:=
 @sOp (some 19) (xNxt (s.τ 18) s.H) s<|.mk fun s=>
 E 20 19 0 s fun s=>
 If 20 s (W110_b16 Φ L0 s) (W110_k2 Φ s)
def W110_b18 (Φ:EP) (s:St):Prop:=
 M 17 0 s fun s=>
 @sOp (some 18) (xRng 18 (s.τ 17) s.H) s<|.mk fun s=>
 @sLoop s ⟨fun L0 s=>W110_l17 Φ L0 s⟩
def W110 (Φ:EP) (s:St):Prop:=
 V 2 false s fun s=>
 M 5 0 s fun s=>
 @sOp (some 6) (xSlen (s.τ 5) s.H) s<|.mk fun s=>
 J 7 .lss false 6 1 s fun s=>
 M 8 7 s fun s=>
 gm 9 0 8 false s fun s=>
 go 10 8 false s (fun s=>(xSlen (s.τ 9) s.H)) fun s=>
 go 11 8 false s (fun s=>(xBin .gtr false (s.τ 10) (.int .i64 20) s.H)) fun s=>
 O 12 8 11 s fun s=>
 M 13 12 s fun s=>
 gm 14 0 13 false s fun s=>
 @sGrd (guardOf (s.τ 13) false) (some 15) s ⟨fun s K=>@sCall Tryz.prog (.func 132 []) [(s.τ 14)] (some 15) s ⟨K⟩⟩<|.mk fun s=>
 O 16 13 15 s fun s=>
 If 16 s (W110_b1 Φ s) (W110_b18 Φ s)
theorem W110_rs (τ:Nat → AV) (H:Heap):resV Tryz.prog τ H [.tmp 2] = some (τ 2):=by kernel_rfl
theorem W110_eq:EqW Tryz.prog Tryz.f110 W110:=fun _ _=>by kernel_rfl
theorem W110_S:SpW Tryz.prog 110 41 [.tmp 2] W110:=spW Tryz.func110 Tryz.ntmps110 W110_eq
end Go.Proofs.YtnngddgaobhkiaaGreat
