import Derived.Test.YtnngddgaobhkiaaGreatGA6
import Derived.Test.YtnngddgaobhkiaaGreatProg
import Derived.KernelRfl
set_option linter.unusedVariables false
set_option maxRecDepth 100000
namespace Go.Proofs.YtnngddgaobhkiaaGreat
open Go Go.Am
-- 9 "penance/penancelaw8.RunTells"
def W9_b1 (Φ:EP) (s:St):Prop:=
 V 8 false s fun s=>
 Φ .ret s
def W9_b2 (Φ:EP) (s:St):Prop:=
 V 8 true s fun s=>
 Φ .ret s
def W9_k3 (Φ:EP) (s:St):Prop:=
 V 8 true s fun s=>
 Φ .ret s
def W9_k4 (Φ:EP) (L0:SP) (s:St):Prop:=
 M 46 11 s fun s=>
 J 47 .add false 46 1 s fun s=>
 M 11 47 s fun s=>
 L0 s
def W9_b5 (Φ:EP) (L0:SP) (s:St):Prop:=
 V 8 false s fun s=>
 Φ .ret s
def W9_b6 (Φ:EP) (L0:SP) (s:St):Prop:=
 L 193 13 25 true s fun s=>
 U 13 10 193 s fun s=>
 W9_k4 Φ L0 s
def W9_b8 (Φ:EP) (L0:SP) (s:St):Prop:=
 L 198 13 10 true s fun s=>
 M 199 12 s fun s=>
 @sOp (some 200) (xIx 1 (s.τ 199) (.int .i64 0) s.H) s<|.mk fun s=>
 L 201 1 200 false s fun s=>
 M 202 2 s fun s=>
 C0 Tryz.prog 20 [(s.τ 198),(s.τ 201),(s.τ 202)] 203 s fun s=>
 M 197 203 s fun s=>
 E 204 197 0 s fun s=>
 E 205 197 1 s fun s=>
 E 206 197 2 s fun s=>
 U 13 10 204 s fun s=>
 W9_k4 Φ L0 s
def W9_b9 (Φ:EP) (L0:SP) (s:St):Prop:=
 M 194 12 s fun s=>
 N 195 194 s fun s=>
 J 196 .gtr false 195 0 s fun s=>
 If 196 s (W9_b8 Φ L0 s) (W9_k4 Φ L0 s)
def W9_b12 (Φ:EP) (L0:SP) (s:St):Prop:=
 L 179 4 9 true s fun u1=>
 L 180 13 10 true u1 fun u2=>
 M 181 1 u2 fun u3=>
 M 182 11 u3 fun u4=>
 X 183 1 181 182 u4 fun u5=>
 L 184 1 183 false u5 fun u6=>
 k3 (s.τ 9) (cfp 185 18 [(u6.τ 184),(.int .i64 3)]) <|
 k3 (u1.τ 10) (cfp 185 18 [(u6.τ 184),(.int .i64 3)]) <|
 C0 Tryz.prog 18 [(u6.τ 184),(.int .i64 3)] 185 u6 fun u7=>
 C0 Tryz.prog 22 [(u7.τ 179),(u7.τ 180),(u7.τ 185)] 186 u7 fun u8=>
 M 178 186 u8 fun u9=>
 E 187 178 0 u9 fun u10=>
 E 188 178 1 u10 fun u11=>
 E 189 178 2 u11 fun u12=>
 E 190 178 3 u12 fun u13=>
 k1 (s.τ 9) 25 <|
 k1 (u1.τ 10) 25 <|
 k1 (u4.τ 181) 25 <|
 k1 (u5.τ 183) 25 <|
 k2 (cfp 185 18 [(u6.τ 184),(.int .i64 3)]) 25 <|
 k2 (cfp 186 22 [(u7.τ 179),(u7.τ 180),(u7.τ 185)]) 25 <|
 Z 25 38 z13 u13 fun u14=>
 k1 (s.τ 9) 26 <|
 k1 (u1.τ 10) 26 <|
 k1 (u4.τ 181) 26 <|
 k1 (u5.τ 183) 26 <|
 k2 (cfp 185 18 [(u6.τ 184),(.int .i64 3)]) 26 <|
 k2 (cfp 186 22 [(u7.τ 179),(u7.τ 180),(u7.τ 185)]) 26 <|
 k2 ([25],[25]) 26 <|
 Z 26 44 z3 u14 fun u15=>
 U 13 25 187 u15 fun u16=>
 U 3 26 188 u16 fun u17=>
 M 27 189 u17 fun u18=>
 M 28 190 u18 fun s=>
 M 191 28 s fun s=>
 J 192 .eql false 191 0 s fun s=>
 If 192 s (W9_b6 Φ L0 s) (W9_b9 Φ L0 s)
def W9_k15 (Φ:EP) (L0:SP) (s:St):Prop:=
 L 165 4 9 true s fun u1=>
 L 166 13 10 true u1 fun u2=>
 F 167 12 10 u2 fun u3=>
 L 168 1 167 false u3 fun u4=>
 M 169 3 u4 fun u5=>
 k3 (s.τ 9) (cfp 170 18 [(u5.τ 169),(.int .i64 9)]) <|
 k3 (u1.τ 10) (cfp 170 18 [(u5.τ 169),(.int .i64 9)]) <|
 k3 (u2.τ 10) (cfp 170 18 [(u5.τ 169),(.int .i64 9)]) <|
 k3 (u3.τ 167) (cfp 170 18 [(u5.τ 169),(.int .i64 9)]) <|
 C0 Tryz.prog 18 [(u5.τ 169),(.int .i64 9)] 170 u5 fun u6=>
 B 171 .add false 168 170 u6 fun u7=>
 M 172 2 u7 fun u8=>
 C0 Tryz.prog 19 [(u8.τ 165),(u8.τ 166),(u8.τ 171),(u8.τ 172)] 173 u8 fun u9=>
 M 164 173 u9 fun u10=>
 E 174 164 0 u10 fun u11=>
 E 175 164 1 u11 fun u12=>
 E 176 164 2 u12 fun u13=>
 k1 (s.τ 9) 22 <|
 k1 (u1.τ 10) 22 <|
 k1 (u2.τ 10) 22 <|
 k1 (u3.τ 167) 22 <|
 k2 (cfp 170 18 [(u5.τ 169),(.int .i64 9)]) 22 <|
 k2 (cfp 173 19 [(u8.τ 165),(u8.τ 166),(u8.τ 171),(u8.τ 172)]) 22 <|
 Z 22 38 z13 u13 fun u14=>
 k1 (s.τ 9) 23 <|
 k1 (u1.τ 10) 23 <|
 k1 (u2.τ 10) 23 <|
 k1 (u3.τ 167) 23 <|
 k2 (cfp 170 18 [(u5.τ 169),(.int .i64 9)]) 23 <|
 k2 (cfp 173 19 [(u8.τ 165),(u8.τ 166),(u8.τ 171),(u8.τ 172)]) 23 <|
 k2 ([22],[22]) 23 <|
 Z 23 44 z3 u14 fun u15=>
 U 13 22 174 u15 fun u16=>
 U 3 23 175 u16 fun u17=>
 M 24 176 u17 fun s=>
 M 177 24 s fun s=>
 If 177 s (W9_b5 Φ L0 s) (W9_b12 Φ L0 s)
def W9_k16 (Φ:EP) (L0:SP) (L1:SP) (s:St):Prop:=
 M 55 13 s fun s=>
 J 56 .add false 55 1 s fun s=>
 M 13 56 s fun s=>
 L1 s
def W9_b17 (Φ:EP) (L0:SP) (L1:SP) (s:St):Prop:=
 V 8 false s fun s=>
 Φ .ret s
def W9_b18 (Φ:EP) (L0:SP) (L1:SP) (s:St):Prop:=
 V 8 false s fun s=>
 Φ .ret s
def W9_b19 (Φ:EP) (L0:SP) (L1:SP) (s:St):Prop:=
 V 8 false s fun s=>
 Φ .ret s
def W9_b21 (Φ:EP) (L0:SP) (L1:SP) (s:St):Prop:=
 L 152 4 9 true s fun u1=>
 L 153 13 14 true u1 fun u2=>
 M 154 12 u2 fun u3=>
 M 155 13 u3 fun u4=>
 X 156 1 154 155 u4 fun u5=>
 L 157 1 156 false u5 fun u6=>
 M 158 2 u6 fun u7=>
 C0 Tryz.prog 19 [(u7.τ 152),(u7.τ 153),(u7.τ 157),(u7.τ 158)] 159 u7 fun u8=>
 M 151 159 u8 fun u9=>
 E 160 151 0 u9 fun u10=>
 E 161 151 1 u10 fun u11=>
 E 162 151 2 u11 fun u12=>
 k1 (s.τ 9) 19 <|
 k1 (u1.τ 14) 19 <|
 k1 (u4.τ 154) 19 <|
 k1 (u5.τ 156) 19 <|
 k2 (cfp 159 19 [(u7.τ 152),(u7.τ 153),(u7.τ 157),(u7.τ 158)]) 19 <|
 Z 19 38 z13 u12 fun u13=>
 k1 (s.τ 9) 20 <|
 k1 (u1.τ 14) 20 <|
 k1 (u4.τ 154) 20 <|
 k1 (u5.τ 156) 20 <|
 k2 (cfp 159 19 [(u7.τ 152),(u7.τ 153),(u7.τ 157),(u7.τ 158)]) 20 <|
 k2 ([19],[19]) 20 <|
 Z 20 44 z3 u13 fun u14=>
 U 13 19 160 u14 fun u15=>
 U 3 20 161 u15 fun u16=>
 M 21 162 u16 fun s=>
 M 163 21 s fun s=>
 If 163 s (W9_b19 Φ L0 L1 s) (W9_k16 Φ L0 L1 s)
def W9_k22 (Φ:EP) (L0:SP) (L1:SP) (s:St):Prop:=
 M 149 17 s fun s=>
 J 150 .gtr false 149 1 s fun s=>
 If 150 s (W9_b18 Φ L0 L1 s) (W9_b21 Φ L0 L1 s)
def W9_k23 (Φ:EP) (L0:SP) (L1:SP) (L2:SP) (s:St):Prop:=
 M 127 18 s fun s=>
 J 128 .add false 127 1 s fun s=>
 M 18 128 s fun s=>
 L2 s
def W9_b24 (Φ:EP) (L0:SP) (L1:SP) (L2:SP) (s:St):Prop:=
 V 8 false s fun s=>
 Φ .ret s
def W9_b25 (Φ:EP) (L0:SP) (L1:SP) (L2:SP) (s:St):Prop:=
 M 140 17 s fun s=>
 J 141 .add false 140 1 s fun s=>
 M 17 141 s fun s=>
 F 142 9 14 s fun s=>
 L 143 1 142 false s fun s=>
 M 144 18 s fun s=>
 X 145 1 143 144 s fun s=>
 L 146 1 145 false s fun s=>
 M 147 2 s fun s=>
 B 148 .neq false 146 147 s fun s=>
 If 148 s (W9_b24 Φ L0 L1 L2 s) (W9_k23 Φ L0 L1 L2 s)
def W9_b26 (Φ:EP) (L0:SP) (L1:SP) (L2:SP) (s:St):Prop:=
 F 129 9 14 s fun s=>
 L 130 1 129 false s fun s=>
 M 131 18 s fun s=>
 X 132 1 130 131 s fun s=>
 L 133 1 132 false s fun s=>
 F 134 9 10 s fun s=>
 L 135 1 134 false s fun s=>
 M 136 18 s fun s=>
 X 137 1 135 136 s fun s=>
 L 138 1 137 false s fun s=>
 B 139 .neq false 133 138 s fun s=>
 If 139 s (W9_b25 Φ L0 L1 L2 s) (W9_k23 Φ L0 L1 L2 s)
def W9_l27 (Φ:EP) (L0:SP) (L1:SP) (L2:SP) (s:St):Prop:=
 M 122 18 s fun s=>
 F 123 9 10 s fun s=>
 L 124 1 123 false s fun s=>
 N 125 124 s fun s=>
 B 126 .lss false 122 125 s fun s=>
 If 126 s (W9_b26 Φ L0 L1 L2 s) (W9_k22 Φ L0 L1 s)
def W9_b28 (Φ:EP) (L0:SP) (L1:SP) (s:St):Prop:=
 I 17 0 s fun s=>
 I 18 0 s fun s=>
 @sLoop s ⟨fun L2 s=>W9_l27 Φ L0 L1 L2 s⟩
def W9_b67 (Φ:EP) (L0:SP) (L1:SP) (s:St):Prop:=
 L 58 4 9 true s fun u1=>
 L 59 13 10 true u1 fun u2=>
 M 60 12 u2 fun u3=>
 M 61 13 u3 fun u4=>
 X 62 1 60 61 u4 fun u5=>
 L 63 1 62 false u5 fun u6=>
 M 64 2 u6 fun u7=>
 C0 Tryz.prog 19 [(u7.τ 58),(u7.τ 59),(u7.τ 63),(u7.τ 64)] 65 u7 fun u8=>
 M 57 65 u8 fun u9=>
 E 66 57 0 u9 fun u10=>
 E 67 57 1 u10 fun u11=>
 E 68 57 2 u11 fun u12=>
 k1 (s.τ 9) 14 <|
 k1 (u1.τ 10) 14 <|
 k1 (u4.τ 60) 14 <|
 k1 (u5.τ 62) 14 <|
 k2 (cfp 65 19 [(u7.τ 58),(u7.τ 59),(u7.τ 63),(u7.τ 64)]) 14 <|
 Z 14 38 z13 u12 fun u13=>
 k1 (s.τ 9) 15 <|
 k1 (u1.τ 10) 15 <|
 k1 (u4.τ 60) 15 <|
 k1 (u5.τ 62) 15 <|
 k2 (cfp 65 19 [(u7.τ 58),(u7.τ 59),(u7.τ 63),(u7.τ 64)]) 15 <|
 k2 ([14],[14]) 15 <|
 Z 15 44 z3 u13 fun u14=>
 U 13 14 66 u14 fun u15=>
 U 3 15 67 u15 fun u16=>
 M 16 68 u16 fun s=>
 M 69 16 s fun s=>
 Q 70 69 s fun s=>
 M 71 70 s fun s=>
 gf 72 1 15 71 false s fun s=>
 gl 73 1 72 71 false false s fun s=>
 gm 74 12 71 false s fun s=>
 gm 75 13 71 false s fun s=>
 go 76 71 false s (fun s=>(xIx 1 (s.τ 74) (s.τ 75) s.H)) fun s=>
 gl 77 1 76 71 false false s fun s=>
 go 78 71 false s (fun s=>(xBin .neq false (s.τ 73) (s.τ 77) s.H)) fun s=>
 O 79 71 78 s fun s=>
 M 80 79 s fun s=>
 gf 81 2 15 80 false s fun s=>
 gl 82 1 81 80 false false s fun s=>
 gm 83 2 80 false s fun s=>
 go 84 80 false s (fun s=>(xBin .neq false (s.τ 82) (s.τ 83) s.H)) fun s=>
 O 85 80 84 s fun s=>
 M 86 85 s fun s=>
 gf 87 0 15 86 false s fun s=>
 gl 88 1 87 86 false false s fun s=>
 go 89 86 false s (fun s=>(xBin .eql false (s.τ 88) (.str ⟨#[]⟩) s.H)) fun s=>
 O 90 86 89 s fun s=>
 M 91 90 s fun s=>
 gf 92 11 14 91 false s fun s=>
 gl 93 1 92 91 false false s fun s=>
 gf 94 11 10 91 false s fun s=>
 gl 95 1 94 91 false false s fun s=>
 go 96 91 false s (fun s=>(xBin .neq false (s.τ 93) (s.τ 95) s.H)) fun s=>
 O 97 91 96 s fun s=>
 M 98 97 s fun s=>
 gf 99 12 14 98 false s fun s=>
 gl 100 1 99 98 false false s fun s=>
 gf 101 12 10 98 false s fun s=>
 gl 102 1 101 98 false false s fun s=>
 go 103 98 false s (fun s=>(xBin .neq false (s.τ 100) (s.τ 102) s.H)) fun s=>
 O 104 98 103 s fun s=>
 M 105 104 s fun s=>
 gf 106 10 14 105 false s fun s=>
 gl 107 1 106 105 false false s fun s=>
 gf 108 10 10 105 false s fun s=>
 gl 109 1 108 105 false false s fun s=>
 @sGrd (guardOf (s.τ 105) false) (some 110) s ⟨fun s K=>@sCall0 Tryz.prog (.func 28 []) [(s.τ 107),(s.τ 109)] (some 110) s ⟨K⟩⟩<|.mk fun s=>
 go 111 105 false s (fun s=>(xNot (s.τ 110) s.H)) fun s=>
 O 112 105 111 s fun s=>
 M 113 112 s fun s=>
 gf 114 9 14 113 false s fun s=>
 gl 115 1 114 113 false false s fun s=>
 go 116 113 false s (fun s=>(xLen (s.τ 115) s.H)) fun s=>
 gf 117 9 10 113 false s fun s=>
 gl 118 1 117 113 false false s fun s=>
 go 119 113 false s (fun s=>(xLen (s.τ 118) s.H)) fun s=>
 go 120 113 false s (fun s=>(xBin .neq false (s.τ 116) (s.τ 119) s.H)) fun s=>
 O 121 113 120 s fun s=>
 If 121 s (W9_b17 Φ L0 L1 s) (W9_b28 Φ L0 L1 s)
def W9_l68 (Φ:EP) (L0:SP) (L1:SP) (s:St):Prop:=
 M 51 13 s fun s=>
 M 52 12 s fun s=>
 N 53 52 s fun s=>
 B 54 .lss false 51 53 s fun s=>
 If 54 s (W9_b67 Φ L0 L1 s) (W9_k15 Φ L0 s)
def W9_b70 (Φ:EP) (L0:SP) (s:St):Prop:=
 F 48 0 10 s fun s=>
 L 49 9 48 true s fun s=>
 Ca Tryz.prog 26 [(s.τ 49)] 50 s fun s=>
 M 12 50 s fun s=>
 I 13 0 s fun s=>
 @sLoop s ⟨fun L1 s=>W9_l68 Φ L0 L1 s⟩
def W9_l73 (Φ:EP) (L0:SP) (s:St):Prop:=
 M 38 11 s fun s=>
 M 39 1 s fun s=>
 N 40 39 s fun s=>
 B 41 .lss false 38 40 s fun s=>
 M 42 41 s fun s=>
 gm 43 11 42 true s fun s=>
 go 44 42 true s (fun s=>(xBin .lss false (s.τ 43) (.int .i64 25) s.H)) fun s=>
 A 45 42 44 s fun s=>
 If 45 s (W9_b70 Φ L0 s) (W9_k3 Φ s)
def W9_b76 (Φ:EP) (s:St):Prop:=
 L 34 3 4 true s fun s=>
 Ca Tryz.prog 13 [(s.τ 34)] 35 s fun s=>
 Z 9 29 [.nils,.int .i64 0,.nils,.int .i64 0] s fun s=>
 U 4 9 35 s fun s=>
 L 36 4 9 true s fun s=>
 Ca Tryz.prog 15 [(s.τ 36)] 37 s fun s=>
 Z 10 38 z13 s fun s=>
 U 13 10 37 s fun s=>
 I 11 0 s fun s=>
 @sLoop s ⟨fun L0 s=>W9_l73 Φ L0 s⟩
def W9_b78 (Φ:EP) (s:St):Prop:=
 L 31 3 4 true s fun s=>
 Ca Tryz.prog 12 [(s.τ 31)] 32 s fun s=>
 Q 33 32 s fun s=>
 If 33 s (W9_b2 Φ s) (W9_b76 Φ s)
def W9 (Φ:EP) (s:St):Prop:=
 Y 4 24 0 s fun s=>
 V 8 false s fun s=>
 Ca Tryz.prog 11 [] 29 s fun s=>
 Q 30 29 s fun s=>
 If 30 s (W9_b1 Φ s) (W9_b78 Φ s)
theorem W9_rs (τ:Nat → AV) (H:Heap):resV Tryz.prog τ H [.tmp 8] = some (τ 8):=by kernel_rfl
theorem W9_eq:EqW Tryz.prog Tryz.f9 W9:=fun _ _=>by kernel_rfl
theorem W9_S:SpW Tryz.prog 9 207 [.tmp 8] W9:=spW Tryz.func9 Tryz.ntmps9 W9_eq
end Go.Proofs.YtnngddgaobhkiaaGreat
set_option maxRecDepth 100000
namespace Go.Proofs.YtnngddgaobhkiaaGreat
open Go Go.Am
-- 11 "penance/penancelaw8.known"
def W11 (Φ:EP) (s:St):Prop:=
 V 0 false s fun s=>
 Bd 14 z9 [(0,1,(.int .i64 1)),(1,1,(.int .i64 (-1))),(3,1,(.str ⟨#[112,97,121]⟩))] s fun s=>
 Lt 15 9 1 z9 [(0,(s.τ 14))] s fun s=>
 Bd 16 [.nils,.int .i64 0,.nils,.int .i64 0] [(2,1,(s.τ 15))] s fun s=>
 Z 1 29 [.nils,.int .i64 0,.nils,.int .i64 0] s fun s=>
 U 4 1 16 s fun s=>
 L 17 4 1 true s fun s=>
 Ca Tryz.prog 14 [(s.τ 17)] 18 s fun s=>
 Z 2 38 z13 s fun s=>
 U 13 2 18 s fun s=>
 L 20 4 1 true s fun s=>
 L 21 13 2 true s fun s=>
 Ca Tryz.prog 21 [(s.τ 20),(s.τ 21),(.int .i64 0)] 22 s fun s=>
 M 19 22 s fun s=>
 E 23 19 0 s fun s=>
 E 24 19 1 s fun s=>
 E 25 19 2 s fun s=>
 E 26 19 3 s fun s=>
 Z 3 38 z13 s fun s=>
 Z 4 44 z3 s fun s=>
 U 13 3 23 s fun s=>
 U 3 4 24 s fun s=>
 M 5 25 s fun s=>
 M 6 26 s fun s=>
 L 28 4 1 true s fun s=>
 L 29 13 2 true s fun s=>
 Ca Tryz.prog 21 [(s.τ 28),(s.τ 29),(.int .i64 1)] 30 s fun s=>
 M 27 30 s fun s=>
 E 31 27 0 s fun s=>
 E 32 27 1 s fun s=>
 E 33 27 2 s fun s=>
 E 34 27 3 s fun s=>
 Z 7 38 z13 s fun s=>
 Z 8 44 z3 s fun s=>
 U 13 7 31 s fun s=>
 U 3 8 32 s fun s=>
 M 9 33 s fun s=>
 M 10 34 s fun s=>
 L 36 4 1 true s fun s=>
 L 37 13 3 true s fun s=>
 Ca Tryz.prog 19 [(s.τ 36),(s.τ 37),(.int .i64 0),(.int .i64 7)] 38 s fun s=>
 M 35 38 s fun s=>
 E 39 35 0 s fun s=>
 E 40 35 1 s fun s=>
 E 41 35 2 s fun s=>
 Z 11 38 z13 s fun s=>
 Z 12 44 z3 s fun s=>
 U 13 11 39 s fun s=>
 U 3 12 40 s fun s=>
 M 13 41 s fun s=>
 L 42 4 1 true s fun s=>
 Ca Tryz.prog 17 [(s.τ 42)] 43 s fun s=>
 M 44 43 s fun s=>
 gm 45 6 44 true s fun s=>
 go 46 44 true s (fun s=>(xBin .eql false (s.τ 45) (.int .i64 0) s.H)) fun s=>
 A 47 44 46 s fun s=>
 M 48 47 s fun s=>
 gm 49 5 48 true s fun s=>
 A 50 48 49 s fun s=>
 M 51 50 s fun s=>
 gf 52 0 4 51 true s fun s=>
 gl 53 1 52 51 false true s fun s=>
 go 54 51 true s (fun s=>(xBin .eql false (s.τ 53) (.str ⟨#[112,97,121]⟩) s.H)) fun s=>
 A 55 51 54 s fun s=>
 M 56 55 s fun s=>
 gf 57 12 3 56 true s fun s=>
 gl 58 1 57 56 false true s fun s=>
 go 59 56 true s (fun s=>(xBin .eql false (s.τ 58) (.int .i64 1) s.H)) fun s=>
 A 60 56 59 s fun s=>
 M 61 60 s fun s=>
 gm 62 10 61 true s fun s=>
 go 63 61 true s (fun s=>(xBin .eql false (s.τ 62) (.int .i64 12) s.H)) fun s=>
 A 64 61 63 s fun s=>
 M 65 64 s fun s=>
 gm 66 13 65 true s fun s=>
 A 67 65 66 s fun s=>
 M 68 67 s fun s=>
 gf 69 2 12 68 true s fun s=>
 gl 70 1 69 68 false true s fun s=>
 go 71 68 true s (fun s=>(xBin .eql false (s.τ 70) (.int .i64 7) s.H)) fun s=>
 A 72 68 71 s fun s=>
 M 73 72 s fun s=>
 gf 74 0 11 73 true s fun s=>
 gf 75 0 74 73 true s fun s=>
 gl 76 1 75 73 false true s fun s=>
 go 77 73 true s (fun s=>(xBin .eql false (s.τ 76) (.int .i64 0) s.H)) fun s=>
 A 78 73 77 s fun s=>
 M 0 78 s fun s=>
 Φ .ret s
theorem W11_rs (τ:Nat → AV) (H:Heap):resV Tryz.prog τ H [.tmp 0] = some (τ 0):=by kernel_rfl
theorem W11_eq:EqW Tryz.prog Tryz.f11 W11:=fun _ _=>by kernel_rfl
theorem W11_S:SpW Tryz.prog 11 79 [.tmp 0] W11:=spW Tryz.func11 Tryz.ntmps11 W11_eq
-- 12 "(penance/penancelaw3.Shape).Few"
def W12_k3 (Φ:EP) (s:St):Prop:=
 F 20 2 1 s fun s=>
 L 21 1 20 false s fun s=>
 N 22 21 s fun s=>
 J 23 .leq false 22 5 s fun s=>
 M 24 23 s fun s=>
 gm 25 3 24 true s fun s=>
 go 26 24 true s (fun s=>(xBin .leq false (s.τ 25) (.int .i64 40) s.H)) fun s=>
 A 27 24 26 s fun s=>
 M 2 27 s fun s=>
 Φ .ret s
def W12_b5 (Φ:EP) (L0:SP) (s:St):Prop:=
 M 12 3 s fun s=>
 F 13 2 1 s fun s=>
 L 14 1 13 false s fun s=>
 M 15 4 s fun s=>
 X 16 5 14 15 s fun s=>
 L 17 5 16 true s fun s=>
 Ca Tryz.prog 29 [(s.τ 17),(.int .i64 0)] 18 s fun s=>
 B 19 .add false 12 18 s fun s=>
 M 3 19 s fun s=>
 M 10 4 s fun s=>
 J 11 .add false 10 1 s fun s=>
 M 4 11 s fun s=>
 L0 s
def W12_l6 (Φ:EP) (L0:SP) (s:St):Prop:=
 M 5 4 s fun s=>
 F 6 2 1 s fun s=>
 L 7 1 6 false s fun s=>
 N 8 7 s fun s=>
 B 9 .lss false 5 8 s fun s=>
 If 9 s (W12_b5 Φ L0 s) (W12_k3 Φ s)
def W12 (Φ:EP) (s:St):Prop:=
 Y 1 24 0 s fun s=>
 V 2 false s fun s=>
 I 3 0 s fun s=>
 I 4 0 s fun s=>
 @sLoop s ⟨fun L0 s=>W12_l6 Φ L0 s⟩
theorem W12_rs (τ:Nat → AV) (H:Heap):resV Tryz.prog τ H [.tmp 2] = some (τ 2):=by kernel_rfl
theorem W12_eq:EqW Tryz.prog Tryz.f12 W12:=fun _ _=>by kernel_rfl
theorem W12_S:SpW Tryz.prog 12 28 [.tmp 2] W12:=spW Tryz.func12 Tryz.ntmps12 W12_eq
-- 13 "penance/penancelaw8.Core"
def W13_b1 (Φ:EP) (s:St):Prop:=
 Lt 45 1 3 [.int .i64 0] [(0,(.int .i64 0)),(1,(.int .i64 0)),(2,(.int .i64 0))] s fun s=>
 Bd 46 z9 [(0,1,(.int .i64 1)),(1,1,(.int .i64 0)),(3,1,(.str ⟨#[112,97,121]⟩))] s fun s=>
 Lt 47 9 1 z9 [(0,(s.τ 46))] s fun s=>
 Bd 48 [.nils,.int .i64 0,.nils,.int .i64 0] [(0,1,(s.τ 45)),(1,1,(.int .i64 2)),(2,1,(s.τ 47))] s fun s=>
 U 4 2 48 s fun s=>
 Φ .ret s
def W13_b2 (Φ:EP) (s:St):Prop:=
 L 49 4 3 true s fun s=>
 U 4 2 49 s fun s=>
 Φ .ret s
def W13_k3 (Φ:EP) (s:St):Prop:=
 M 43 4 s fun s=>
 J 44 .neq false 43 0 s fun s=>
 If 44 s (W13_b1 Φ s) (W13_b2 Φ s)
def W13_k5 (Φ:EP) (s:St):Prop:=
 L 39 3 5 true s fun s=>
 Ca Tryz.prog 30 [(s.τ 39)] 40 s fun s=>
 M 38 40 s fun s=>
 E 41 38 0 s fun s=>
 E 42 38 1 s fun s=>
 U 4 3 41 s fun s=>
 M 4 42 s fun s=>
 W13_k3 Φ s
def W13_b6 (Φ:EP) (L0:SP) (s:St):Prop:=
 F 24 2 5 s fun u1=>
 L 25 1 24 false u1 fun u2=>
 M 26 6 u2 fun u3=>
 Bd 27 [.int .i64 0,.str ⟨#[]⟩,.str ⟨#[]⟩,.int .i64 0,.int .i64 0,.str ⟨#[]⟩,.nils,.nils] [(0,1,(.int .i64 1)),(1,1,(.str ⟨#[112,97,121]⟩)),(2,1,(.str ⟨#[120]⟩))] u3 fun u4=>
 F 28 2 5 u4 fun u5=>
 L 29 1 28 false u5 fun u6=>
 M 30 6 u6 fun u7=>
 X 31 9 29 30 u7 fun u8=>
 F 32 1 31 u8 fun u9=>
 L 33 8 32 true u9 fun u10=>
 k3 (s.τ 5) ([34] ++ occL [(u10.τ 27),(u10.τ 33)],[34] ++ occL [(u10.τ 27),(u10.τ 33)]) <|
 k3 (u1.τ 24) ([34] ++ occL [(u10.τ 27),(u10.τ 33)],[34] ++ occL [(u10.τ 27),(u10.τ 33)]) <|
 Lt 34 8 2 [.int .i64 0,.str ⟨#[]⟩,.str ⟨#[]⟩,.int .i64 0,.int .i64 0,.str ⟨#[]⟩,.nils,.nils] [(0,(u10.τ 27)),(1,(u10.τ 33))] u10 fun u11=>
 Bd 35 [.int .i64 0,.str ⟨#[]⟩,.str ⟨#[]⟩,.int .i64 0,.int .i64 0,.str ⟨#[]⟩,.nils,.nils] [(0,1,(.int .i64 12)),(7,1,(u11.τ 34))] u11 fun u12=>
 X 36 9 25 26 u12 fun u13=>
 F 37 1 36 u13 fun u14=>
 U 8 37 35 u14 fun s=>
 M 22 6 s fun s=>
 J 23 .add false 22 1 s fun s=>
 M 6 23 s fun s=>
 L0 s
def W13_l7 (Φ:EP) (L0:SP) (s:St):Prop:=
 M 17 6 s fun s=>
 F 18 2 5 s fun s=>
 L 19 1 18 false s fun s=>
 N 20 19 s fun s=>
 B 21 .lss false 17 20 s fun s=>
 If 21 s (W13_b6 Φ L0 s) (W13_k5 Φ s)
def W13_b9 (Φ:EP) (s:St):Prop:=
 L 15 3 1 true s fun s=>
 Ca Tryz.prog 31 [(s.τ 15)] 16 s fun s=>
 Z 5 76 [.nils,.nils,.nils] s fun s=>
 U 3 5 16 s fun s=>
 I 6 0 s fun s=>
 @sLoop s ⟨fun L0 s=>W13_l7 Φ L0 s⟩
def W13 (Φ:EP) (s:St):Prop:=
 Y 1 24 0 s fun s=>
 Z 2 29 [.nils,.int .i64 0,.nils,.int .i64 0] s fun s=>
 L 8 3 1 true s fun s=>
 Ca Tryz.prog 31 [(s.τ 8)] 9 s fun s=>
 Ca Tryz.prog 30 [(s.τ 9)] 10 s fun s=>
 M 7 10 s fun s=>
 E 11 7 0 s fun s=>
 E 12 7 1 s fun s=>
 Z 3 29 [.nils,.int .i64 0,.nils,.int .i64 0] s fun s=>
 U 4 3 11 s fun s=>
 M 4 12 s fun s=>
 M 13 4 s fun s=>
 J 14 .neq false 13 0 s fun s=>
 If 14 s (W13_b9 Φ s) (W13_k3 Φ s)
theorem W13_rs (τ:Nat → AV) (H:Heap):resV Tryz.prog τ H [.cell 2 29] = rdV H 4 true (τ 2):=by kernel_rfl
theorem W13_eq:EqW Tryz.prog Tryz.f13 W13:=fun _ _=>by kernel_rfl
theorem W13_S:SpW Tryz.prog 13 50 [.cell 2 29] W13:=spW Tryz.func13 Tryz.ntmps13 W13_eq
-- 14 "penance/run.Begin"
def W14 (Φ:EP) (s:St):Prop:=
 Y 1 29 0 s fun s=>
 Z 2 38 z13 s fun s=>
 F 3 2 1 s fun u1=>
 L 4 1 3 false u1 fun u2=>
 F 5 3 1 u2 fun u3=>
 L 6 1 5 false u3 fun u4=>
 X 7 9 4 6 u4 fun u5=>
 L 8 9 7 true u5 fun u6=>
 C0 Tryz.prog 32 [(u6.τ 8)] 9 u6 fun u7=>
 @sChk (compat (cfp 9 32 [(u6.τ 8)]) (occ (u7.τ 1),[])) <| .mk <|
 F 10 0 1 u7 fun u8=>
 @sChk (compat (cfp 9 32 [(u6.τ 8)]) (occ (u8.τ 10),[])) <| .mk <|
 L 11 1 10 false u8 fun u9=>
 C0 Tryz.prog 33 [(u9.τ 11)] 12 u9 fun u10=>
 @sChk (compat (cfp 9 32 [(u6.τ 8)]) (occ (u10.τ 1),[])) <| .mk <|
 @sChk (compat (cfp 12 33 [(u9.τ 11)]) (occ (u10.τ 1),[])) <| .mk <|
 F 13 1 1 u10 fun u11=>
 @sChk (compat (cfp 9 32 [(u6.τ 8)]) (occ (u11.τ 13),[])) <| .mk <|
 @sChk (compat (cfp 12 33 [(u9.τ 11)]) (occ (u11.τ 13),[])) <| .mk <|
 L 14 1 13 false u11 fun u12=>
 k1 (s.τ 1) 15 <|
 k1 (u1.τ 3) 15 <|
 k1 (u2.τ 1) 15 <|
 k1 (u3.τ 5) 15 <|
 k1 (u4.τ 4) 15 <|
 k1 (u5.τ 7) 15 <|
 k2 (cfp 9 32 [(u6.τ 8)]) 15 <|
 k1 (u7.τ 1) 15 <|
 k1 (u8.τ 10) 15 <|
 k2 (cfp 12 33 [(u9.τ 11)]) 15 <|
 @sOp (some 15) (xMks 15 27 1 24 [.nils] (u12.τ 14) (u12.τ 14) u12.H) u12<|.mk fun u13=>
 C0 Tryz.prog 34 [(u13.τ 15),(.int .i64 0),(.int .i64 0)] 16 u13 fun u14=>
 Bd 17 z13 [(0,9,(u14.τ 9)),(9,1,(u14.τ 12)),(10,1,(u14.τ 16))] u14 fun u15=>
 U 13 2 17 u15 fun s=>
 Φ .ret s
theorem W14_rs (τ:Nat → AV) (H:Heap):resV Tryz.prog τ H [.cell 2 38] = rdV H 13 true (τ 2):=by kernel_rfl
theorem W14_eq:EqW Tryz.prog Tryz.f14 W14:=fun _ _=>by kernel_rfl
theorem W14_S:SpW Tryz.prog 14 18 [.cell 2 38] W14:=spW Tryz.func14 Tryz.ntmps14 W14_eq
-- 15 "penance/penanceref8.Begin"
def W15 (Φ:EP) (s:St):Prop:=
 Y 1 29 0 s fun s=>
 Z 2 38 z13 s fun s=>
 F 3 2 1 s fun u1=>
 L 4 1 3 false u1 fun u2=>
 F 5 3 1 u2 fun u3=>
 L 6 1 5 false u3 fun u4=>
 X 7 9 4 6 u4 fun u5=>
 L 8 9 7 true u5 fun u6=>
 C0 Tryz.prog 35 [(u6.τ 8)] 9 u6 fun u7=>
 k3 (s.τ 1) ([10] ++ occL [],[10] ++ occL []) <|
 k3 (u1.τ 3) ([10] ++ occL [],[10] ++ occL []) <|
 k3 (u2.τ 1) ([10] ++ occL [],[10] ++ occL []) <|
 k3 (u3.τ 5) ([10] ++ occL [],[10] ++ occL []) <|
 k3 (u4.τ 4) ([10] ++ occL [],[10] ++ occL []) <|
 k3 (u5.τ 7) ([10] ++ occL [],[10] ++ occL []) <|
 @sChk (compat (cfp 9 35 [(u6.τ 8)]) ([10] ++ occL [],[10] ++ occL [])) <| .mk <|
 @sOp (some 10) (xRow 10 3 1 0 [.int .i64 0] [] u7.H) u7<|.mk fun u8=>
 @sChk (compat (cfp 9 35 [(u6.τ 8)]) (occ (u8.τ 1),[])) <| .mk <|
 @sChk (compat ([10] ++ occL [],[10] ++ occL []) (occ (u8.τ 1),[])) <| .mk <|
 F 11 0 1 u8 fun u9=>
 @sChk (compat (cfp 9 35 [(u6.τ 8)]) (occ (u9.τ 11),[])) <| .mk <|
 @sChk (compat ([10] ++ occL [],[10] ++ occL []) (occ (u9.τ 11),[])) <| .mk <|
 L 12 1 11 false u9 fun u10=>
 @sOp (some 13) (xApp Tryz.prog 3 1 8 (some 13) (u10.τ 10) (u10.τ 12) u10.H) u10<|.mk fun u11=>
 @sChk (compat (cfp 9 35 [(u6.τ 8)]) (occ (u11.τ 1),[])) <| .mk <|
 @sChk (compat ([10] ++ occL [],[10] ++ occL []) (occ (u11.τ 1),[])) <| .mk <|
 @sChk (compat ([13] ++ (occ (u10.τ 10) ++ occ (u10.τ 12)),[13] ++ occ (u10.τ 10)) (occ (u11.τ 1),[])) <| .mk <|
 F 14 1 1 u11 fun u12=>
 @sChk (compat (cfp 9 35 [(u6.τ 8)]) (occ (u12.τ 14),[])) <| .mk <|
 @sChk (compat ([10] ++ occL [],[10] ++ occL []) (occ (u12.τ 14),[])) <| .mk <|
 @sChk (compat ([13] ++ (occ (u10.τ 10) ++ occ (u10.τ 12)),[13] ++ occ (u10.τ 10)) (occ (u12.τ 14),[])) <| .mk <|
 L 15 1 14 false u12 fun u13=>
 k1 (s.τ 1) 16 <|
 k1 (u1.τ 3) 16 <|
 k1 (u2.τ 1) 16 <|
 k1 (u3.τ 5) 16 <|
 k1 (u4.τ 4) 16 <|
 k1 (u5.τ 7) 16 <|
 k2 (cfp 9 35 [(u6.τ 8)]) 16 <|
 k2 ([10] ++ occL [],[10] ++ occL []) 16 <|
 k1 (u8.τ 1) 16 <|
 k1 (u9.τ 11) 16 <|
 k2 ([13] ++ (occ (u10.τ 10) ++ occ (u10.τ 12)),[13] ++ occ (u10.τ 10)) 16 <|
 @sOp (some 16) (xMks 16 27 1 24 [.nils] (u13.τ 15) (u13.τ 15) u13.H) u13<|.mk fun u14=>
 Bd 17 z13 [(0,9,(u14.τ 9)),(9,1,(u14.τ 13)),(10,1,(u14.τ 16))] u14 fun u15=>
 U 13 2 17 u15 fun s=>
 Φ .ret s
theorem W15_rs (τ:Nat → AV) (H:Heap):resV Tryz.prog τ H [.cell 2 38] = rdV H 13 true (τ 2):=by kernel_rfl
theorem W15_eq:EqW Tryz.prog Tryz.f15 W15:=fun _ _=>by kernel_rfl
theorem W15_S:SpW Tryz.prog 15 18 [.cell 2 38] W15:=spW Tryz.func15 Tryz.ntmps15 W15_eq
-- 17 "penance/run.Check"
def W17_b1 (Φ:EP) (s:St):Prop:=
 V 2 false s fun s=>
 Φ .ret s
def W17_k2 (Φ:EP) (s:St):Prop:=
 V 2 true s fun s=>
 Φ .ret s
def W17_b3 (Φ:EP) (L0:SP) (s:St):Prop:=
 V 2 false s fun s=>
 Φ .ret s
def W17_b4 (Φ:EP) (L0:SP) (s:St):Prop:=
 J 71 .add false 47 1 s fun s=>
 M 47 71 s fun s=>
 L0 s
def W17_b19 (Φ:EP) (L0:SP) (s:St):Prop:=
 X 49 9 45 47 s fun s=>
 L 50 9 49 true s fun s=>
 Z 4 35 z9 s fun s=>
 U 9 4 50 s fun s=>
 L 51 9 4 true s fun s=>
 Ca Tryz.prog 38 [(s.τ 51)] 52 s fun s=>
 J 53 .gtr false 52 2000 s fun s=>
 M 54 53 s fun s=>
 gl 55 9 4 54 true false s fun s=>
 @sGrd (guardOf (s.τ 54) false) (some 56) s ⟨fun s K=>@sCall Tryz.prog (.func 39 []) [(s.τ 55)] (some 56) s ⟨K⟩⟩<|.mk fun s=>
 O 57 54 56 s fun s=>
 M 58 57 s fun s=>
 gl 59 9 4 58 true false s fun s=>
 gf 60 0 1 58 false s fun s=>
 gl 61 1 60 58 false false s fun s=>
 go 62 58 false s (fun s=>(xLen (s.τ 61) s.H)) fun s=>
 gf 63 1 1 58 false s fun s=>
 gl 64 1 63 58 false false s fun s=>
 gf 65 2 1 58 false s fun s=>
 gl 66 1 65 58 false false s fun s=>
 go 67 58 false s (fun s=>(xLen (s.τ 66) s.H)) fun s=>
 @sGrd (guardOf (s.τ 58) false) (some 68) s ⟨fun s K=>@sCall Tryz.prog (.func 40 []) [(s.τ 59),(s.τ 62),(s.τ 64),(s.τ 67)] (some 68) s ⟨K⟩⟩<|.mk fun s=>
 go 69 58 false s (fun s=>(xNot (s.τ 68) s.H)) fun s=>
 O 70 58 69 s fun s=>
 If 70 s (W17_b3 Φ L0 s) (W17_b4 Φ L0 s)
def W17_l20 (Φ:EP) (L0:SP) (s:St):Prop:=
 B 48 .lss false 47 46 s fun s=>
 If 48 s (W17_b19 Φ L0 s) (W17_k2 Φ s)
def W17_b21 (Φ:EP) (s:St):Prop:=
 F 44 2 1 s fun s=>
 L 45 1 44 false s fun s=>
 N 46 45 s fun s=>
 I 47 0 s fun s=>
 @sLoop s ⟨fun L0 s=>W17_l20 Φ L0 s⟩
def W17 (Φ:EP) (s:St):Prop:=
 Y 1 29 0 s fun s=>
 V 2 false s fun s=>
 F 5 0 1 s fun s=>
 L 6 1 5 false s fun s=>
 N 7 6 s fun s=>
 J 8 .gtr false 7 20 s fun s=>
 M 9 8 s fun s=>
 gf 10 1 1 9 false s fun s=>
 gl 11 1 10 9 false false s fun s=>
 go 12 9 false s (fun s=>(xBin .lss false (s.τ 11) (.int .i64 0) s.H)) fun s=>
 O 13 9 12 s fun s=>
 M 14 13 s fun s=>
 gf 15 1 1 14 false s fun s=>
 gl 16 1 15 14 false false s fun s=>
 go 17 14 false s (fun s=>(xBin .gtr false (s.τ 16) (.int .i64 10) s.H)) fun s=>
 O 18 14 17 s fun s=>
 M 19 18 s fun s=>
 gf 20 2 1 19 false s fun s=>
 gl 21 1 20 19 false false s fun s=>
 go 22 19 false s (fun s=>(xLen (s.τ 21) s.H)) fun s=>
 go 23 19 false s (fun s=>(xBin .lss false (s.τ 22) (.int .i64 1) s.H)) fun s=>
 O 24 19 23 s fun s=>
 M 25 24 s fun s=>
 gf 26 2 1 25 false s fun s=>
 gl 27 1 26 25 false false s fun s=>
 go 28 25 false s (fun s=>(xLen (s.τ 27) s.H)) fun s=>
 go 29 25 false s (fun s=>(xBin .gtr false (s.τ 28) (.int .i64 20) s.H)) fun s=>
 O 30 25 29 s fun s=>
 M 31 30 s fun s=>
 gf 32 3 1 31 false s fun s=>
 gl 33 1 32 31 false false s fun s=>
 go 34 31 false s (fun s=>(xBin .lss false (s.τ 33) (.int .i64 0) s.H)) fun s=>
 O 35 31 34 s fun s=>
 M 36 35 s fun s=>
 gf 37 3 1 36 false s fun s=>
 gl 38 1 37 36 false false s fun s=>
 gf 39 2 1 36 false s fun s=>
 gl 40 1 39 36 false false s fun s=>
 go 41 36 false s (fun s=>(xLen (s.τ 40) s.H)) fun s=>
 go 42 36 false s (fun s=>(xBin .geq false (s.τ 38) (s.τ 41) s.H)) fun s=>
 O 43 36 42 s fun s=>
 If 43 s (W17_b1 Φ s) (W17_b21 Φ s)
theorem W17_rs (τ:Nat → AV) (H:Heap):resV Tryz.prog τ H [.tmp 2] = some (τ 2):=by kernel_rfl
theorem W17_eq:EqW Tryz.prog Tryz.f17 W17:=fun _ _=>by kernel_rfl
theorem W17_S:SpW Tryz.prog 17 72 [.tmp 2] W17:=spW Tryz.func17 Tryz.ntmps17 W17_eq
-- 18 "penance/penancelaw8.within"
def W18_k1 (Φ:EP) (s:St):Prop:=
 M 14 5 s fun s=>
 M 4 14 s fun s=>
 Φ .ret s
def W18_b2 (Φ:EP) (s:St):Prop:=
 M 11 5 s fun s=>
 M 12 1 s fun s=>
 B 13 .add false 11 12 s fun s=>
 M 5 13 s fun s=>
 W18_k1 Φ s
def W18 (Φ:EP) (s:St):Prop:=
 I 4 0 s fun s=>
 M 6 0 s fun s=>
 M 7 1 s fun s=>
 B 8 .rem false 6 7 s fun s=>
 M 5 8 s fun s=>
 M 9 5 s fun s=>
 J 10 .lss false 9 0 s fun s=>
 If 10 s (W18_b2 Φ s) (W18_k1 Φ s)
theorem W18_rs (τ:Nat → AV) (H:Heap):resV Tryz.prog τ H [.tmp 4] = some (τ 4):=by kernel_rfl
theorem W18_eq:EqW Tryz.prog Tryz.f18 W18:=fun _ _=>by kernel_rfl
theorem W18_S:SpW Tryz.prog 18 15 [.tmp 4] W18:=spW Tryz.func18 Tryz.ntmps18 W18_eq
-- 19 "penance/run.Tell"
def W19_b1 (Φ:EP) (s:St):Prop:=
 Bd 24 z13 [] s fun s=>
 Bd 25 z3 [] s fun s=>
 U 13 8 24 s fun s=>
 U 3 9 25 s fun s=>
 V 10 false s fun s=>
 Φ .ret s
def W19_k4 (Φ:EP) (s:St):Prop:=
 F 47 0 8 s fun s=>
 L 48 9 47 true s fun s=>
 M 49 11 s fun s=>
 Bd 50 z9 [] s fun s=>
 Ca Tryz.prog 44 [(s.τ 48),(s.τ 49),(s.τ 50)] 51 s fun s=>
 Ca Tryz.prog 32 [(s.τ 51)] 52 s fun s=>
 F 53 0 8 s fun s=>
 U 9 53 52 s fun s=>
 L 54 13 8 true s fun u1=>
 F 55 3 12 u1 fun u2=>
 L 56 1 55 false u2 fun u3=>
 M 57 2 u3 fun u4=>
 M 58 3 u4 fun u5=>
 Bd 59 z3 [(0,1,(u5.τ 56)),(1,1,(u5.τ 57)),(2,1,(u5.τ 58))] u5 fun u6=>
 k3 (u1.τ 12) (occ (u6.τ 8),occ (u6.τ 8)) <|
 k3 (u2.τ 55) (occ (u6.τ 8),occ (u6.τ 8)) <|
 U 13 8 54 u6 fun u7=>
 U 3 9 59 u7 fun u8=>
 V 10 true u8 fun s=>
 Φ .ret s
def W19_b5 (Φ:EP) (s:St):Prop:=
 F 41 9 8 s fun s=>
 L 42 1 41 false s fun s=>
 F 43 2 12 s fun s=>
 L 44 1 43 false s fun s=>
 M 45 3 s fun s=>
 X 46 1 42 44 s fun s=>
 U 1 46 45 s fun s=>
 W19_k4 Φ s
def W19_b13 (Φ:EP) (s:St):Prop:=
 F 26 0 8 s fun s=>
 L 27 9 26 true s fun s=>
 M 28 11 s fun s=>
 Ca Tryz.prog 43 [(s.τ 27),(s.τ 28)] 29 s fun s=>
 Z 12 35 z9 s fun s=>
 U 9 12 29 s fun s=>
 F 30 2 12 s fun s=>
 L 31 1 30 false s fun s=>
 J 32 .geq false 31 0 s fun s=>
 M 33 32 s fun s=>
 gf 34 2 12 33 true s fun s=>
 gl 35 1 34 33 false true s fun s=>
 gf 36 9 8 33 true s fun s=>
 gl 37 1 36 33 false true s fun s=>
 go 38 33 true s (fun s=>(xLen (s.τ 37) s.H)) fun s=>
 go 39 33 true s (fun s=>(xBin .lss false (s.τ 35) (s.τ 38) s.H)) fun s=>
 A 40 33 39 s fun s=>
 If 40 s (W19_b5 Φ s) (W19_k4 Φ s)
def W19 (Φ:EP) (s:St):Prop:=
 Y 4 29 0 s fun s=>
 Y 5 38 1 s fun s=>
 Z 8 38 z13 s fun s=>
 Z 9 44 z3 s fun s=>
 V 10 false s fun s=>
 L 13 13 5 true s fun s=>
 Ca Tryz.prog 41 [(s.τ 13)] 14 s fun s=>
 U 13 8 14 s fun s=>
 F 16 0 8 s fun s=>
 L 17 9 16 true s fun s=>
 M 18 2 s fun s=>
 Ca Tryz.prog 42 [(s.τ 17),(s.τ 18)] 19 s fun s=>
 M 15 19 s fun s=>
 E 20 15 0 s fun s=>
 E 21 15 1 s fun s=>
 M 11 20 s fun s=>
 M 10 21 s fun s=>
 M 22 10 s fun s=>
 Q 23 22 s fun s=>
 If 23 s (W19_b1 Φ s) (W19_b13 Φ s)
theorem W19_rs (τ:Nat → AV) (H:Heap):resV Tryz.prog τ H [.cell 8 38,.cell 9 44,.tmp 10] = ob (ob (rdV H 13 true (τ 8)) fun v=>ob (ob (rdV H 3 true (τ 9)) fun v=>ob (ob (some (τ 10)) fun v=>ob (some []) fun vs=>some (v :: vs)) fun vs=>some (v :: vs)) fun vs=>some (v :: vs)) fun vs=>some (.tup vs):=by kernel_rfl
theorem W19_eq:EqW Tryz.prog Tryz.f19 W19:=fun _ _=>by kernel_rfl
theorem W19_S:SpW Tryz.prog 19 60 [.cell 8 38,.cell 9 44,.tmp 10] W19:=spW Tryz.func19 Tryz.ntmps19 W19_eq
-- 20 "penance/penanceref8.Tell"
def W20_b1 (Φ:EP) (s:St):Prop:=
 Bd 23 z13 [] s fun s=>
 Bd 24 z3 [] s fun s=>
 U 13 6 23 s fun s=>
 U 3 7 24 s fun s=>
 V 8 false s fun s=>
 Φ .ret s
def W20_k2 (Φ:EP) (s:St):Prop:=
 L 43 13 12 true s fun u1=>
 F 44 3 10 u1 fun u2=>
 L 45 1 44 false u2 fun u3=>
 M 46 1 u3 fun u4=>
 M 47 2 u4 fun u5=>
 Bd 48 z3 [(0,1,(u5.τ 45)),(1,1,(u5.τ 46)),(2,1,(u5.τ 47))] u5 fun u6=>
 k3 (u1.τ 10) (occ (u6.τ 6),occ (u6.τ 6)) <|
 k3 (u2.τ 44) (occ (u6.τ 6),occ (u6.τ 6)) <|
 U 13 6 43 u6 fun u7=>
 U 3 7 48 u7 fun u8=>
 V 8 true u8 fun s=>
 Φ .ret s
def W20_b3 (Φ:EP) (s:St):Prop:=
 F 37 9 12 s fun s=>
 L 38 1 37 false s fun s=>
 F 39 2 10 s fun s=>
 L 40 1 39 false s fun s=>
 M 41 2 s fun s=>
 X 42 1 38 40 s fun s=>
 U 1 42 41 s fun s=>
 W20_k2 Φ s
def W20_b5 (Φ:EP) (s:St):Prop:=
 L 25 13 3 true s fun s=>
 Z 12 38 z13 s fun s=>
 U 13 12 25 s fun s=>
 @sOp (some 26) (xRow 26 3 1 0 [.int .i64 0] [] s.H) s<|.mk fun s=>
 F 27 9 3 s fun s=>
 L 28 1 27 false s fun s=>
 @sOp (some 29) (xApp Tryz.prog 3 1 8 (some 29) (s.τ 26) (s.τ 28) s.H) s<|.mk fun s=>
 F 30 9 12 s fun s=>
 U 1 30 29 s fun s=>
 L 31 9 9 true s fun s=>
 Ca Tryz.prog 35 [(s.τ 31)] 32 s fun s=>
 F 33 0 12 s fun s=>
 U 9 33 32 s fun s=>
 F 34 2 10 s fun s=>
 L 35 1 34 false s fun s=>
 J 36 .geq false 35 0 s fun s=>
 If 36 s (W20_b3 Φ s) (W20_k2 Φ s)
def W20 (Φ:EP) (s:St):Prop:=
 Y 3 38 0 s fun s=>
 Z 6 38 z13 s fun s=>
 Z 7 44 z3 s fun s=>
 V 8 false s fun s=>
 F 14 0 3 s fun s=>
 L 15 9 14 true s fun s=>
 M 16 1 s fun s=>
 Ca Tryz.prog 45 [(s.τ 15),(s.τ 16)] 17 s fun s=>
 M 13 17 s fun s=>
 E 18 13 0 s fun s=>
 E 19 13 1 s fun s=>
 E 20 13 2 s fun s=>
 Z 9 35 z9 s fun s=>
 Z 10 35 z9 s fun s=>
 U 9 9 18 s fun s=>
 U 9 10 19 s fun s=>
 M 11 20 s fun s=>
 M 21 11 s fun s=>
 Q 22 21 s fun s=>
 If 22 s (W20_b1 Φ s) (W20_b5 Φ s)
theorem W20_rs (τ:Nat → AV) (H:Heap):resV Tryz.prog τ H [.cell 6 38,.cell 7 44,.tmp 8] = ob (ob (rdV H 13 true (τ 6)) fun v=>ob (ob (rdV H 3 true (τ 7)) fun v=>ob (ob (some (τ 8)) fun v=>ob (some []) fun vs=>some (v :: vs)) fun vs=>some (v :: vs)) fun vs=>some (v :: vs)) fun vs=>some (.tup vs):=by kernel_rfl
theorem W20_eq:EqW Tryz.prog Tryz.f20 W20:=fun _ _=>by kernel_rfl
theorem W20_S:SpW Tryz.prog 20 49 [.cell 6 38,.cell 7 44,.tmp 8] W20:=spW Tryz.func20 Tryz.ntmps20 W20_eq
-- 21 "penance/run.Do"
def W21_b1 (Φ:EP) (J0:Nat → SP) (s:St):Prop:=
 Bd 28 z13 [] s fun s=>
 Bd 29 z3 [] s fun s=>
 U 13 6 28 s fun s=>
 U 3 7 29 s fun s=>
 V 8 false s fun s=>
 I 9 12 s fun s=>
 Φ .ret s
def W21_b2 (Φ:EP) (J0:Nat → SP) (s:St):Prop:=
 Bd 34 z13 [] s fun s=>
 Bd 35 z3 [] s fun s=>
 U 13 6 34 s fun s=>
 U 3 7 35 s fun s=>
 V 8 false s fun s=>
 I 9 10 s fun s=>
 Φ .ret s
def W21_b3 (Φ:EP) (J0:Nat → SP) (s:St):Prop:=
 I 9 11 s fun s=>
 J0 0 s
def W21_b4 (Φ:EP) (J0:Nat → SP) (s:St):Prop:=
 L 190 13 6 true s fun u1=>
 L 191 3 7 true u1 fun u2=>
 M 192 8 u2 fun u3=>
 k3 (u1.τ 7) (occ (u3.τ 6),occ (u3.τ 6)) <|
 U 13 6 190 u3 fun u4=>
 U 3 7 191 u4 fun u5=>
 M 8 192 u5 fun u6=>
 I 9 0 u6 fun s=>
 Φ .ret s
def W21_k9 (Φ:EP) (J0:Nat → SP) (s:St):Prop:=
 F 171 0 6 s fun s=>
 L 172 9 171 true s fun s=>
 M 173 13 s fun s=>
 L 174 9 14 true s fun s=>
 Ca Tryz.prog 44 [(s.τ 172),(s.τ 173),(s.τ 174)] 175 s fun s=>
 Ca Tryz.prog 32 [(s.τ 175)] 176 s fun s=>
 F 177 0 6 s fun s=>
 U 9 177 176 s fun s=>
 F 178 11 6 s fun s=>
 L 179 1 178 false s fun s=>
 J 180 .add false 179 1 s fun s=>
 F 181 11 6 s fun s=>
 U 1 181 180 s fun s=>
 F 182 0 6 s fun u1=>
 L 183 9 182 true u1 fun u2=>
 C0 Tryz.prog 38 [(u2.τ 183)] 184 u2 fun u3=>
 @sChk (compat (cfp 184 38 [(u2.τ 183)]) (occ (u3.τ 6),[])) <| .mk <|
 F 185 10 6 u3 fun u4=>
 @sChk (compat (cfp 184 38 [(u2.τ 183)]) (occ (u4.τ 185),[])) <| .mk <|
 L 186 1 185 false u4 fun u5=>
 C0 Tryz.prog 52 [(u5.τ 186)] 187 u5 fun u6=>
 B 188 .add false 184 187 u6 fun u7=>
 J 189 .gtr false 188 2000 u7 fun s=>
 If 189 s (W21_b3 Φ J0 s) (W21_b4 Φ J0 s)
def W21_b10 (Φ:EP) (J0:Nat → SP) (s:St):Prop:=
 F 72 12 6 s fun s=>
 L 73 1 72 false s fun s=>
 F 74 1 12 s fun s=>
 L 75 1 74 false s fun s=>
 F 76 3 12 s fun s=>
 L 77 1 76 false s fun s=>
 Bd 78 z9 [(0,1,(.int .i64 14)),(1,1,(s.τ 73)),(2,1,(s.τ 75)),(3,1,(s.τ 77))] s fun s=>
 U 9 14 78 s fun s=>
 F 79 3 12 s fun s=>
 L 80 1 79 false s fun s=>
 F 81 12 6 s fun s=>
 L 82 1 81 false s fun s=>
 Bd 83 z3 [(0,1,(s.τ 80)),(1,1,(s.τ 82))] s fun s=>
 U 3 7 83 s fun s=>
 V 8 true s fun s=>
 F 84 12 6 s fun s=>
 L 85 1 84 false s fun s=>
 J 86 .add false 85 1 s fun s=>
 F 87 12 6 s fun s=>
 U 1 87 86 s fun s=>
 W21_k9 Φ J0 s
def W21_b11 (Φ:EP) (J0:Nat → SP) (s:St):Prop:=
 F 90 9 6 s fun s=>
 L 91 1 90 false s fun s=>
 F 92 1 12 s fun s=>
 L 93 1 92 false s fun s=>
 M 94 15 s fun s=>
 X 95 1 91 93 s fun s=>
 U 1 95 94 s fun s=>
 W21_k9 Φ J0 s
def W21_b13 (Φ:EP) (J0:Nat → SP) (s:St):Prop:=
 F 98 10 6 s fun s=>
 L 99 1 98 false s fun s=>
 F 100 1 12 s fun s=>
 L 101 1 100 false s fun s=>
 F 102 8 12 s fun s=>
 L 103 1 102 false s fun s=>
 @sOp (some 104) (xIx 9 (s.τ 103) (.int .i64 0) s.H) s<|.mk fun s=>
 L 105 9 104 true s fun s=>
 C0 Tryz.prog 48 [(s.τ 99),(s.τ 101),(s.τ 105)] 106 s fun s=>
 F 107 10 6 s fun s=>
 U 1 107 106 s fun s=>
 W21_k9 Φ J0 s
def W21_b15 (Φ:EP) (J0:Nat → SP) (s:St):Prop:=
 F 111 10 6 s fun s=>
 L 112 1 111 false s fun s=>
 F 113 1 12 s fun s=>
 L 114 1 113 false s fun s=>
 Ca Tryz.prog 49 [(s.τ 112),(s.τ 114)] 115 s fun s=>
 M 110 115 s fun s=>
 E 116 110 0 s fun s=>
 E 117 110 1 s fun s=>
 U 9 14 116 s fun s=>
 F 118 10 6 s fun s=>
 U 1 118 117 s fun s=>
 W21_k9 Φ J0 s
def W21_b17 (Φ:EP) (J0:Nat → SP) (s:St):Prop:=
 F 121 10 6 s fun s=>
 L 122 1 121 false s fun s=>
 F 123 1 12 s fun s=>
 L 124 1 123 false s fun s=>
 Ca Tryz.prog 50 [(s.τ 122),(s.τ 124)] 125 s fun s=>
 F 126 10 6 s fun s=>
 U 1 126 125 s fun s=>
 W21_k9 Φ J0 s
def W21_b19 (Φ:EP) (J0:Nat → SP) (s:St):Prop:=
 F 129 10 6 s fun s=>
 L 130 1 129 false s fun s=>
 F 131 1 12 s fun s=>
 L 132 1 131 false s fun s=>
 F 133 2 12 s fun s=>
 L 134 1 133 false s fun s=>
 Ca Tryz.prog 34 [(s.τ 130),(s.τ 132),(s.τ 134)] 135 s fun s=>
 F 136 10 6 s fun s=>
 U 1 136 135 s fun s=>
 W21_k9 Φ J0 s
def W21_b20 (Φ:EP) (J0:Nat → SP) (s:St):Prop:=
 F 145 8 12 s fun s=>
 L 146 1 145 false s fun s=>
 @sOp (some 147) (xIx 9 (s.τ 146) (.int .i64 0) s.H) s<|.mk fun s=>
 L 148 9 147 true s fun s=>
 U 9 14 148 s fun s=>
 W21_k9 Φ J0 s
def W21_b21 (Φ:EP) (J0:Nat → SP) (s:St):Prop:=
 F 139 8 12 s fun s=>
 L 140 1 139 false s fun s=>
 @sOp (some 141) (xIx 9 (s.τ 140) (.int .i64 1) s.H) s<|.mk fun s=>
 L 142 9 141 true s fun s=>
 U 9 14 142 s fun s=>
 M 143 15 s fun s=>
 J 144 .neq false 143 0 s fun s=>
 If 144 s (W21_b20 Φ J0 s) (W21_k9 Φ J0 s)
def W21_b22 (Φ:EP) (J0:Nat → SP) (s:St):Prop:=
 F 151 8 12 s fun s=>
 L 152 1 151 false s fun s=>
 F 153 2 11 s fun s=>
 L 154 1 153 false s fun s=>
 X 155 9 152 154 s fun s=>
 L 156 9 155 true s fun s=>
 U 9 14 156 s fun s=>
 W21_k9 Φ J0 s
def W21_b23 (Φ:EP) (J0:Nat → SP) (s:St):Prop:=
 F 159 2 3 s fun s=>
 L 160 1 159 false s fun s=>
 F 161 1 12 s fun s=>
 L 162 1 161 false s fun s=>
 X 163 9 160 162 s fun s=>
 L 164 9 163 true s fun s=>
 U 9 14 164 s fun s=>
 W21_k9 Φ J0 s
def W21_b25 (Φ:EP) (J0:Nat → SP) (s:St):Prop:=
 F 167 0 6 s fun s=>
 L 168 9 167 true s fun s=>
 M 169 13 s fun s=>
 Ca Tryz.prog 51 [(s.τ 168),(s.τ 169)] 170 s fun s=>
 M 13 170 s fun s=>
 W21_k9 Φ J0 s
def W21_b26 (Φ:EP) (J0:Nat → SP) (s:St):Prop:=
 J 166 .eql false 69 8 s fun s=>
 M 165 166 s fun s=>
 If 165 s (W21_b25 Φ J0 s) (W21_k9 Φ J0 s)
def W21_b27 (Φ:EP) (J0:Nat → SP) (s:St):Prop:=
 J 158 .eql false 69 13 s fun s=>
 M 157 158 s fun s=>
 If 157 s (W21_b23 Φ J0 s) (W21_b26 Φ J0 s)
def W21_b28 (Φ:EP) (J0:Nat → SP) (s:St):Prop:=
 J 150 .eql false 69 10 s fun s=>
 M 149 150 s fun s=>
 If 149 s (W21_b22 Φ J0 s) (W21_b27 Φ J0 s)
def W21_b29 (Φ:EP) (J0:Nat → SP) (s:St):Prop:=
 J 138 .eql false 69 9 s fun s=>
 M 137 138 s fun s=>
 If 137 s (W21_b21 Φ J0 s) (W21_b28 Φ J0 s)
def W21_b30 (Φ:EP) (J0:Nat → SP) (s:St):Prop:=
 J 128 .eql false 69 6 s fun s=>
 M 127 128 s fun s=>
 If 127 s (W21_b19 Φ J0 s) (W21_b29 Φ J0 s)
def W21_b31 (Φ:EP) (J0:Nat → SP) (s:St):Prop:=
 J 120 .eql false 69 5 s fun s=>
 M 119 120 s fun s=>
 If 119 s (W21_b17 Φ J0 s) (W21_b30 Φ J0 s)
def W21_b32 (Φ:EP) (J0:Nat → SP) (s:St):Prop:=
 J 109 .eql false 69 4 s fun s=>
 M 108 109 s fun s=>
 If 108 s (W21_b15 Φ J0 s) (W21_b31 Φ J0 s)
def W21_b33 (Φ:EP) (J0:Nat → SP) (s:St):Prop:=
 J 97 .eql false 69 3 s fun s=>
 M 96 97 s fun s=>
 If 96 s (W21_b13 Φ J0 s) (W21_b32 Φ J0 s)
def W21_b34 (Φ:EP) (J0:Nat → SP) (s:St):Prop:=
 J 89 .eql false 69 2 s fun s=>
 M 88 89 s fun s=>
 If 88 s (W21_b11 Φ J0 s) (W21_b33 Φ J0 s)
def W21_k35 (Φ:EP) (J0:Nat → SP) (s:St):Prop:=
 F 68 0 12 s fun s=>
 L 69 1 68 false s fun s=>
 J 71 .eql false 69 1 s fun s=>
 M 70 71 s fun s=>
 If 70 s (W21_b10 Φ J0 s) (W21_b34 Φ J0 s)
def W21_b37 (Φ:EP) (J0:Nat → SP) (s:St):Prop:=
 F 59 4 12 s fun s=>
 L 60 4 59 true s fun s=>
 F 61 9 6 s fun s=>
 L 62 1 61 false s fun s=>
 Ca Tryz.prog 47 [(s.τ 60),(s.τ 62)] 63 s fun s=>
 M 58 63 s fun s=>
 E 64 58 0 s fun s=>
 E 65 58 1 s fun s=>
 M 15 64 s fun s=>
 M 9 65 s fun s=>
 M 66 9 s fun s=>
 J 67 .neq false 66 0 s fun s=>
 If 67 s (J0 0 s) (W21_k35 Φ J0 s)
def W21_b43 (Φ:EP) (J0:Nat → SP) (s:St):Prop:=
 L 36 13 4 true s fun s=>
 Ca Tryz.prog 41 [(s.τ 36)] 37 s fun s=>
 U 13 6 37 s fun s=>
 M 38 10 s fun s=>
 M 39 2 s fun s=>
 X 40 3 38 39 s fun s=>
 L 41 3 40 true s fun s=>
 Z 11 60 [.int .i64 0,.nils,.int .i64 0] s fun s=>
 U 3 11 41 s fun s=>
 F 42 0 6 s fun s=>
 L 43 9 42 true s fun s=>
 F 44 1 11 s fun s=>
 L 45 1 44 false s fun s=>
 Ca Tryz.prog 43 [(s.τ 43),(s.τ 45)] 46 s fun s=>
 Z 12 35 z9 s fun s=>
 U 9 12 46 s fun s=>
 F 47 1 11 s fun s=>
 L 48 1 47 false s fun s=>
 Bd 49 z9 [] s fun s=>
 Z 14 35 z9 s fun s=>
 M 13 48 s fun s=>
 U 9 14 49 s fun s=>
 I 15 0 s fun s=>
 F 50 0 12 s fun s=>
 L 51 1 50 false s fun s=>
 J 52 .eql false 51 2 s fun s=>
 M 53 52 s fun s=>
 gf 54 0 12 53 false s fun s=>
 gl 55 1 54 53 false false s fun s=>
 go 56 53 false s (fun s=>(xBin .eql false (s.τ 55) (.int .i64 9) s.H)) fun s=>
 O 57 53 56 s fun s=>
 If 57 s (W21_b37 Φ J0 s) (W21_k35 Φ J0 s)
def W21_b44 (Φ:EP) (J0:Nat → SP) (s:St):Prop:=
 F 31 11 4 s fun s=>
 L 32 1 31 false s fun s=>
 J 33 .geq false 32 5000 s fun s=>
 M 30 33 s fun s=>
 If 30 s (W21_b2 Φ J0 s) (W21_b43 Φ J0 s)
def W21_s50 (Φ:EP) (J0:Nat → SP) (s:St):Prop:=
 F 16 0 4 s fun s=>
 L 17 9 16 true s fun s=>
 Ca Tryz.prog 46 [(s.τ 17)] 18 s fun s=>
 M 10 18 s fun s=>
 M 20 2 s fun s=>
 J 21 .lss false 20 0 s fun s=>
 M 22 21 s fun s=>
 gm 23 2 22 false s fun s=>
 gm 24 10 22 false s fun s=>
 go 25 22 false s (fun s=>(xLen (s.τ 24) s.H)) fun s=>
 go 26 22 false s (fun s=>(xBin .geq false (s.τ 23) (s.τ 25) s.H)) fun s=>
 O 27 22 26 s fun s=>
 M 19 27 s fun s=>
 If 19 s (W21_b1 Φ J0 s) (W21_b44 Φ J0 s)
def W21_g51 (Φ:EP) (J0:Nat → SP) (s:St):Prop:=
 Bd 193 z13 [] s fun s=>
 Bd 194 z3 [] s fun s=>
 M 195 9 s fun s=>
 U 13 6 193 s fun s=>
 U 3 7 194 s fun s=>
 V 8 false s fun s=>
 M 9 195 s fun s=>
 Φ .ret s
def W21 (Φ:EP) (s:St):Prop:=
 Y 3 29 0 s fun s=>
 Y 4 38 1 s fun s=>
 Z 6 38 z13 s fun s=>
 Z 7 44 z3 s fun s=>
 V 8 false s fun s=>
 I 9 0 s fun s=>
 @sScope s ⟨fun J0 s=>W21_s50 Φ J0 s⟩ ⟨[(0,fun J0 s=>W21_g51 Φ J0 s)]⟩
theorem W21_rs (τ:Nat → AV) (H:Heap):resV Tryz.prog τ H [.cell 6 38,.cell 7 44,.tmp 8,.tmp 9] = ob (ob (rdV H 13 true (τ 6)) fun v=>ob (ob (rdV H 3 true (τ 7)) fun v=>ob (ob (some (τ 8)) fun v=>ob (ob (some (τ 9)) fun v=>ob (some []) fun vs=>some (v :: vs)) fun vs=>some (v :: vs)) fun vs=>some (v :: vs)) fun vs=>some (v :: vs)) fun vs=>some (.tup vs):=by kernel_rfl
theorem W21_eq:EqW Tryz.prog Tryz.f21 W21:=fun _ _=>by kernel_rfl
theorem W21_S:SpW Tryz.prog 21 196 [.cell 6 38,.cell 7 44,.tmp 8,.tmp 9] W21:=spW Tryz.func21 Tryz.ntmps21 W21_eq
-- 22 "penance/penanceref8.Do"
def W22_b1 (Φ:EP) (s:St):Prop:=
 Bd 29 z13 [] s fun s=>
 Bd 30 z3 [] s fun s=>
 U 13 6 29 s fun s=>
 U 3 7 30 s fun s=>
 V 8 false s fun s=>
 I 9 12 s fun s=>
 Φ .ret s
def W22_b2 (Φ:EP) (s:St):Prop:=
 Bd 34 z13 [] s fun s=>
 Bd 35 z3 [] s fun s=>
 U 13 6 34 s fun s=>
 U 3 7 35 s fun s=>
 V 8 false s fun s=>
 I 9 10 s fun s=>
 Φ .ret s
def W22_b3 (Φ:EP) (s:St):Prop:=
 Bd 61 z13 [] s fun u1=>
 Bd 62 z3 [] u1 fun u2=>
 F 63 13 15 u2 fun u3=>
 L 64 1 63 false u3 fun u4=>
 k3 (u2.τ 15) (occ (u4.τ 6),occ (u4.τ 6)) <|
 k3 (u3.τ 63) (occ (u4.τ 6),occ (u4.τ 6)) <|
 U 13 6 61 u4 fun u5=>
 k3 (u2.τ 15) (occ (u5.τ 7),occ (u5.τ 7)) <|
 k3 (u3.τ 63) (occ (u5.τ 7),occ (u5.τ 7)) <|
 U 3 7 62 u5 fun u6=>
 V 8 false u6 fun u7=>
 M 9 64 u7 fun s=>
 Φ .ret s
def W22_b4 (Φ:EP) (s:St):Prop:=
 Bd 92 z13 [] s fun s=>
 Bd 93 z3 [] s fun s=>
 U 13 6 92 s fun s=>
 U 3 7 93 s fun s=>
 V 8 false s fun s=>
 I 9 11 s fun s=>
 Φ .ret s
def W22_b5 (Φ:EP) (s:St):Prop:=
 L 94 13 12 true s fun u1=>
 F 95 9 15 u1 fun u2=>
 L 96 3 95 true u2 fun u3=>
 F 97 12 15 u3 fun u4=>
 L 98 1 97 false u4 fun u5=>
 k3 (u1.τ 15) (occ (u5.τ 6),occ (u5.τ 6)) <|
 k3 (u2.τ 95) (occ (u5.τ 6),occ (u5.τ 6)) <|
 k3 (u3.τ 15) (occ (u5.τ 6),occ (u5.τ 6)) <|
 k3 (u4.τ 97) (occ (u5.τ 6),occ (u5.τ 6)) <|
 U 13 6 94 u5 fun u6=>
 k3 (u3.τ 15) (occ (u6.τ 7),occ (u6.τ 7)) <|
 k3 (u4.τ 97) (occ (u6.τ 7),occ (u6.τ 7)) <|
 U 3 7 96 u6 fun u7=>
 M 8 98 u7 fun u8=>
 I 9 0 u8 fun s=>
 Φ .ret s
def W22_k10 (Φ:EP) (s:St):Prop:=
 L 73 9 10 true s fun s=>
 M 74 13 s fun s=>
 F 75 0 15 s fun s=>
 L 76 9 75 true s fun s=>
 Ca Tryz.prog 56 [(s.τ 73),(s.τ 74),(s.τ 76)] 77 s fun s=>
 Ca Tryz.prog 35 [(s.τ 77)] 78 s fun s=>
 F 79 0 12 s fun s=>
 U 9 79 78 s fun s=>
 F 80 11 4 s fun s=>
 L 81 1 80 false s fun s=>
 J 82 .add false 81 1 s fun s=>
 F 83 11 12 s fun s=>
 U 1 83 82 s fun s=>
 F 84 0 12 s fun u1=>
 L 85 9 84 true u1 fun u2=>
 C0 Tryz.prog 57 [(u2.τ 85)] 86 u2 fun u3=>
 @sChk (compat (cfp 86 57 [(u2.τ 85)]) (occ (u3.τ 12),[])) <| .mk <|
 F 87 10 12 u3 fun u4=>
 @sChk (compat (cfp 86 57 [(u2.τ 85)]) (occ (u4.τ 87),[])) <| .mk <|
 L 88 1 87 false u4 fun u5=>
 C0 Tryz.prog 58 [(u5.τ 88)] 89 u5 fun u6=>
 B 90 .add false 86 89 u6 fun u7=>
 J 91 .gtr false 90 2000 u7 fun s=>
 If 91 s (W22_b4 Φ s) (W22_b5 Φ s)
def W22_b12 (Φ:EP) (s:St):Prop:=
 M 68 13 s fun s=>
 L 69 9 10 true s fun s=>
 M 70 13 s fun s=>
 Ca Tryz.prog 55 [(s.τ 69),(s.τ 70)] 71 s fun s=>
 @sOp (some 72) (xSlc 1 (s.τ 68) none (some (s.τ 71)) s.H) s<|.mk fun s=>
 M 13 72 s fun s=>
 W22_k10 Φ s
def W22_b13 (Φ:EP) (s:St):Prop:=
 F 65 0 14 s fun s=>
 L 66 1 65 false s fun s=>
 J 67 .eql false 66 8 s fun s=>
 If 67 s (W22_b12 Φ s) (W22_k10 Φ s)
def W22_b16 (Φ:EP) (s:St):Prop:=
 L 36 13 4 true s fun s=>
 Z 12 38 z13 s fun s=>
 U 13 12 36 s fun s=>
 @sOp (some 37) (xRow 37 3 1 0 [.int .i64 0] [] s.H) s<|.mk fun s=>
 F 38 9 4 s fun s=>
 L 39 1 38 false s fun s=>
 @sOp (some 40) (xApp Tryz.prog 3 1 8 (some 40) (s.τ 37) (s.τ 39) s.H) s<|.mk fun s=>
 F 41 9 12 s fun s=>
 U 1 41 40 s fun s=>
 M 42 11 s fun s=>
 M 43 2 s fun s=>
 X 44 3 42 43 s fun s=>
 F 45 1 44 s fun s=>
 L 46 1 45 false s fun s=>
 M 13 46 s fun s=>
 L 47 9 10 true s fun s=>
 M 48 13 s fun s=>
 Ca Tryz.prog 53 [(s.τ 47),(s.τ 48)] 49 s fun s=>
 Z 14 35 z9 s fun s=>
 U 9 14 49 s fun s=>
 L 50 4 3 true s fun u1=>
 L 51 9 14 true u1 fun u2=>
 M 52 11 u2 fun u3=>
 M 53 2 u3 fun u4=>
 X 54 3 52 53 u4 fun u5=>
 F 55 2 54 u5 fun u6=>
 L 56 1 55 false u6 fun u7=>
 C0 Tryz.prog 54 [(u7.τ 50),(u7.τ 12),(u7.τ 51),(u7.τ 56)] 57 u7 fun u8=>
 k1 (s.τ 3) 15 <|
 k1 (u1.τ 14) 15 <|
 k1 (u4.τ 52) 15 <|
 k1 (u5.τ 54) 15 <|
 k1 (u6.τ 55) 15 <|
 k2 (cfp 57 54 [(u7.τ 50),(u7.τ 12),(u7.τ 51),(u7.τ 56)]) 15 <|
 Z 15 107 z14 u8 fun u9=>
 U 14 15 57 u9 fun s=>
 F 58 13 15 s fun s=>
 L 59 1 58 false s fun s=>
 J 60 .neq false 59 0 s fun s=>
 If 60 s (W22_b3 Φ s) (W22_b13 Φ s)
def W22_b17 (Φ:EP) (s:St):Prop:=
 F 31 11 4 s fun s=>
 L 32 1 31 false s fun s=>
 J 33 .geq false 32 5000 s fun s=>
 If 33 s (W22_b2 Φ s) (W22_b16 Φ s)
def W22 (Φ:EP) (s:St):Prop:=
 Y 3 29 0 s fun s=>
 Y 4 38 1 s fun s=>
 Z 6 38 z13 s fun s=>
 Z 7 44 z3 s fun s=>
 V 8 false s fun s=>
 I 9 0 s fun s=>
 F 16 0 4 s fun s=>
 L 17 9 16 true s fun s=>
 Ca Tryz.prog 35 [(s.τ 17)] 18 s fun s=>
 Z 10 35 z9 s fun s=>
 U 9 10 18 s fun s=>
 L 19 9 10 true s fun s=>
 Ca Tryz.prog 25 [(s.τ 19)] 20 s fun s=>
 M 11 20 s fun s=>
 M 21 2 s fun s=>
 J 22 .lss false 21 0 s fun s=>
 M 23 22 s fun s=>
 gm 24 2 23 false s fun s=>
 gm 25 11 23 false s fun s=>
 go 26 23 false s (fun s=>(xLen (s.τ 25) s.H)) fun s=>
 go 27 23 false s (fun s=>(xBin .geq false (s.τ 24) (s.τ 26) s.H)) fun s=>
 O 28 23 27 s fun s=>
 If 28 s (W22_b1 Φ s) (W22_b17 Φ s)
theorem W22_rs (τ:Nat → AV) (H:Heap):resV Tryz.prog τ H [.cell 6 38,.cell 7 44,.tmp 8,.tmp 9] = ob (ob (rdV H 13 true (τ 6)) fun v=>ob (ob (rdV H 3 true (τ 7)) fun v=>ob (ob (some (τ 8)) fun v=>ob (ob (some (τ 9)) fun v=>ob (some []) fun vs=>some (v :: vs)) fun vs=>some (v :: vs)) fun vs=>some (v :: vs)) fun vs=>some (v :: vs)) fun vs=>some (.tup vs):=by kernel_rfl
theorem W22_eq:EqW Tryz.prog Tryz.f22 W22:=fun _ _=>by kernel_rfl
theorem W22_S:SpW Tryz.prog 22 99 [.cell 6 38,.cell 7 44,.tmp 8,.tmp 9] W22:=spW Tryz.func22 Tryz.ntmps22 W22_eq
-- 25 "penance/penanceref7.Enabled"
def W25 (Φ:EP) (s:St):Prop:=
 Y 1 35 0 s fun s=>
 @sOp (some 2) (xMov (.nils) s.H) s<|.mk fun s=>
 L 4 9 1 true s fun s=>
 Ca Tryz.prog 35 [(s.τ 4)] 5 s fun s=>
 Z 3 35 z9 s fun s=>
 U 9 3 5 s fun s=>
 L 6 9 3 true s fun u1=>
 L 7 9 3 true u1 fun u2=>
 k3 (s.τ 3) (cfp 8 26 [(u2.τ 7)]) <|
 C0 Tryz.prog 26 [(u2.τ 7)] 8 u2 fun u3=>
 N 9 8 u3 fun u4=>
 J 10 .eql false 9 0 u4 fun u5=>
 C0 Tryz.prog 62 [(u5.τ 6),(.nils),(u5.τ 10)] 11 u5 fun u6=>
 M 2 11 u6 fun s=>
 Φ .ret s
theorem W25_rs (τ:Nat → AV) (H:Heap):resV Tryz.prog τ H [.tmp 2] = some (τ 2):=by kernel_rfl
theorem W25_eq:EqW Tryz.prog Tryz.f25 W25:=fun _ _=>by kernel_rfl
theorem W25_S:SpW Tryz.prog 25 12 [.tmp 2] W25:=spW Tryz.func25 Tryz.ntmps25 W25_eq
-- 26 "penance/penanceref5.Waits"
def W26_b1 (Φ:EP) (s:St):Prop:=
 F 8 1 1 s fun s=>
 L 9 1 8 false s fun s=>
 Lt 10 1 1 [.int .i64 0] [(0,(s.τ 9))] s fun s=>
 M 2 10 s fun s=>
 Φ .ret s
def W26_k2 (Φ:EP) (s:St):Prop:=
 M 25 3 s fun s=>
 M 2 25 s fun s=>
 Φ .ret s
def W26_b4 (Φ:EP) (L0:SP) (s:St):Prop:=
 M 17 3 s fun s=>
 F 18 8 1 s fun s=>
 L 19 1 18 false s fun s=>
 M 20 4 s fun s=>
 X 21 9 19 20 s fun s=>
 L 22 9 21 true s fun s=>
 Ca Tryz.prog 26 [(s.τ 22)] 23 s fun s=>
 @sOp (some 24) (xApp Tryz.prog 3 1 8 (some 24) (s.τ 17) (s.τ 23) s.H) s<|.mk fun s=>
 M 3 24 s fun s=>
 M 15 4 s fun s=>
 J 16 .add false 15 1 s fun s=>
 M 4 16 s fun s=>
 L0 s
def W26_l6 (Φ:EP) (L0:SP) (s:St):Prop:=
 M 11 4 s fun s=>
 L 12 9 1 true s fun s=>
 Ca Tryz.prog 63 [(s.τ 12)] 13 s fun s=>
 B 14 .lss false 11 13 s fun s=>
 If 14 s (W26_b4 Φ L0 s) (W26_k2 Φ s)
def W26_b7 (Φ:EP) (s:St):Prop:=
 @sOp (some 3) (xMov (.nils) s.H) s<|.mk fun s=>
 I 4 0 s fun s=>
 @sLoop s ⟨fun L0 s=>W26_l6 Φ L0 s⟩
def W26 (Φ:EP) (s:St):Prop:=
 Y 1 35 0 s fun s=>
 @sOp (some 2) (xMov (.nils) s.H) s<|.mk fun s=>
 F 5 0 1 s fun s=>
 L 6 1 5 false s fun s=>
 J 7 .eql false 6 14 s fun s=>
 If 7 s (W26_b1 Φ s) (W26_b7 Φ s)
theorem W26_rs (τ:Nat → AV) (H:Heap):resV Tryz.prog τ H [.tmp 2] = some (τ 2):=by kernel_rfl
theorem W26_eq:EqW Tryz.prog Tryz.f26 W26:=fun _ _=>by kernel_rfl
theorem W26_S:SpW Tryz.prog 26 26 [.tmp 2] W26:=spW Tryz.func26 Tryz.ntmps26 W26_eq
-- 27 "penance/penanceref5.Rows"
def W27_b1 (Φ:EP) (s:St):Prop:=
 V 4 false s fun s=>
 Φ .ret s
def W27_k2 (Φ:EP) (s:St):Prop:=
 V 4 true s fun s=>
 Φ .ret s
def W27_b3 (Φ:EP) (L0:SP) (s:St):Prop:=
 V 4 false s fun s=>
 Φ .ret s
def W27_b4 (Φ:EP) (L0:SP) (s:St):Prop:=
 M 15 5 s fun s=>
 J 16 .add false 15 1 s fun s=>
 M 5 16 s fun s=>
 L0 s
def W27_b6 (Φ:EP) (L0:SP) (s:St):Prop:=
 M 17 0 s fun s=>
 M 18 5 s fun s=>
 X 19 9 17 18 s fun s=>
 L 20 9 19 true s fun s=>
 M 21 1 s fun s=>
 M 22 5 s fun s=>
 X 23 9 21 22 s fun s=>
 L 24 9 23 true s fun s=>
 C0 Tryz.prog 36 [(s.τ 20),(s.τ 24)] 25 s fun s=>
 Q 26 25 s fun s=>
 If 26 s (W27_b3 Φ L0 s) (W27_b4 Φ L0 s)
def W27_l7 (Φ:EP) (L0:SP) (s:St):Prop:=
 M 11 5 s fun s=>
 M 12 0 s fun s=>
 N 13 12 s fun s=>
 B 14 .lss false 11 13 s fun s=>
 If 14 s (W27_b6 Φ L0 s) (W27_k2 Φ s)
def W27_b8 (Φ:EP) (s:St):Prop:=
 I 5 0 s fun s=>
 @sLoop s ⟨fun L0 s=>W27_l7 Φ L0 s⟩
def W27 (Φ:EP) (s:St):Prop:=
 V 4 false s fun s=>
 M 6 0 s fun s=>
 N 7 6 s fun s=>
 M 8 1 s fun s=>
 N 9 8 s fun s=>
 B 10 .neq false 7 9 s fun s=>
 If 10 s (W27_b1 Φ s) (W27_b8 Φ s)
theorem W27_rs (τ:Nat → AV) (H:Heap):resV Tryz.prog τ H [.tmp 4] = some (τ 4):=by kernel_rfl
theorem W27_eq:EqW Tryz.prog Tryz.f27 W27:=fun _ _=>by kernel_rfl
theorem W27_S:SpW Tryz.prog 27 27 [.tmp 4] W27:=spW Tryz.func27 Tryz.ntmps27 W27_eq
-- 28 "penance/penanceref6.Same"
def W28_b1 (Φ:EP) (s:St):Prop:=
 V 4 false s fun s=>
 Φ .ret s
def W28_k2 (Φ:EP) (s:St):Prop:=
 V 4 true s fun s=>
 Φ .ret s
def W28_b3 (Φ:EP) (L0:SP) (s:St):Prop:=
 V 4 false s fun s=>
 Φ .ret s
def W28_b4 (Φ:EP) (L0:SP) (s:St):Prop:=
 M 15 5 s fun s=>
 J 16 .add false 15 1 s fun s=>
 M 5 16 s fun s=>
 L0 s
def W28_b6 (Φ:EP) (L0:SP) (s:St):Prop:=
 M 17 0 s fun s=>
 M 18 5 s fun s=>
 X 19 1 17 18 s fun s=>
 L 20 1 19 false s fun s=>
 M 21 1 s fun s=>
 M 22 5 s fun s=>
 X 23 1 21 22 s fun s=>
 L 24 1 23 false s fun s=>
 C0 Tryz.prog 27 [(s.τ 20),(s.τ 24)] 25 s fun s=>
 Q 26 25 s fun s=>
 If 26 s (W28_b3 Φ L0 s) (W28_b4 Φ L0 s)
def W28_l7 (Φ:EP) (L0:SP) (s:St):Prop:=
 M 11 5 s fun s=>
 M 12 0 s fun s=>
 N 13 12 s fun s=>
 B 14 .lss false 11 13 s fun s=>
 If 14 s (W28_b6 Φ L0 s) (W28_k2 Φ s)
def W28_b8 (Φ:EP) (s:St):Prop:=
 I 5 0 s fun s=>
 @sLoop s ⟨fun L0 s=>W28_l7 Φ L0 s⟩
def W28 (Φ:EP) (s:St):Prop:=
 V 4 false s fun s=>
 M 6 0 s fun s=>
 N 7 6 s fun s=>
 M 8 1 s fun s=>
 N 9 8 s fun s=>
 B 10 .neq false 7 9 s fun s=>
 If 10 s (W28_b1 Φ s) (W28_b8 Φ s)
theorem W28_rs (τ:Nat → AV) (H:Heap):resV Tryz.prog τ H [.tmp 4] = some (τ 4):=by kernel_rfl
theorem W28_eq:EqW Tryz.prog Tryz.f28 W28:=fun _ _=>by kernel_rfl
theorem W28_S:SpW Tryz.prog 28 27 [.tmp 4] W28:=spW Tryz.func28 Tryz.ntmps28 W28_eq
-- 29 "penance/penancelaw3.size"
def W29_b1 (Φ:EP) (s:St):Prop:=
 I 4 1000 s fun s=>
 Φ .ret s
def W29_k2 (Φ:EP) (s:St):Prop:=
 M 36 5 s fun s=>
 M 4 36 s fun s=>
 Φ .ret s
def W29_b4 (Φ:EP) (L0:SP) (s:St):Prop:=
 M 26 5 s fun s=>
 F 27 4 2 s fun s=>
 L 28 1 27 false s fun s=>
 M 29 6 s fun s=>
 X 30 5 28 29 s fun s=>
 L 31 5 30 true s fun s=>
 M 32 1 s fun s=>
 J 33 .add false 32 1 s fun s=>
 Ca Tryz.prog 29 [(s.τ 31),(s.τ 33)] 34 s fun s=>
 B 35 .add false 26 34 s fun s=>
 M 5 35 s fun s=>
 M 24 6 s fun s=>
 J 25 .add false 24 1 s fun s=>
 M 6 25 s fun s=>
 L0 s
def W29_l7 (Φ:EP) (L0:SP) (s:St):Prop:=
 M 15 6 s fun s=>
 F 16 4 2 s fun s=>
 L 17 1 16 false s fun s=>
 N 18 17 s fun s=>
 B 19 .lss false 15 18 s fun s=>
 M 20 19 s fun s=>
 gm 21 5 20 true s fun s=>
 go 22 20 true s (fun s=>(xBin .leq false (s.τ 21) (.int .i64 40) s.H)) fun s=>
 A 23 20 22 s fun s=>
 If 23 s (W29_b4 Φ L0 s) (W29_k2 Φ s)
def W29_b8 (Φ:EP) (s:St):Prop:=
 I 5 1 s fun s=>
 I 6 0 s fun s=>
 @sLoop s ⟨fun L0 s=>W29_l7 Φ L0 s⟩
def W29 (Φ:EP) (s:St):Prop:=
 Y 2 69 0 s fun s=>
 I 4 0 s fun s=>
 M 7 1 s fun s=>
 J 8 .gtr false 7 8 s fun s=>
 M 9 8 s fun s=>
 gf 10 3 2 9 false s fun s=>
 gl 11 1 10 9 false false s fun s=>
 @sGrd (guardOf (s.τ 9) false) (some 12) s ⟨fun s K=>@sCall Tryz.prog (.func 64 []) [(s.τ 11)] (some 12) s ⟨K⟩⟩<|.mk fun s=>
 go 13 9 false s (fun s=>(xNot (s.τ 12) s.H)) fun s=>
 O 14 9 13 s fun s=>
 If 14 s (W29_b1 Φ s) (W29_b8 Φ s)
theorem W29_rs (τ:Nat → AV) (H:Heap):resV Tryz.prog τ H [.tmp 4] = some (τ 4):=by kernel_rfl
theorem W29_eq:EqW Tryz.prog Tryz.f29 W29:=fun _ _=>by kernel_rfl
theorem W29_S:SpW Tryz.prog 29 37 [.tmp 4] W29:=spW Tryz.func29 Tryz.ntmps29 W29_eq
end Go.Proofs.YtnngddgaobhkiaaGreat
set_option maxRecDepth 100000
namespace Go.Proofs.YtnngddgaobhkiaaGreat
open Go Go.Am
-- 30 "penance/penanceref4.Lower"
def W30_b1 (Φ:EP) (s:St):Prop:=
 Bd 26 [.nils,.int .i64 0,.nils,.int .i64 0] [] s fun s=>
 U 4 2 26 s fun s=>
 I 3 3 s fun s=>
 Φ .ret s
def W30_b2 (Φ:EP) (s:St):Prop:=
 Bd 43 [.nils,.int .i64 0,.nils,.int .i64 0] [] s fun s=>
 U 4 2 43 s fun s=>
 I 3 5 s fun s=>
 Φ .ret s
def W30_b3 (Φ:EP) (s:St):Prop:=
 Bd 99 [.nils,.int .i64 0,.nils,.int .i64 0] [] s fun s=>
 U 4 2 99 s fun s=>
 I 3 4 s fun s=>
 Φ .ret s
def W30_b4 (Φ:EP) (s:St):Prop:=
 Bd 104 [.nils,.int .i64 0,.nils,.int .i64 0] [] s fun s=>
 U 4 2 104 s fun s=>
 I 3 6 s fun s=>
 Φ .ret s
def W30_b5 (Φ:EP) (s:St):Prop:=
 Bd 108 [.nils,.int .i64 0,.nils,.int .i64 0] [] s fun s=>
 U 4 2 108 s fun s=>
 I 3 7 s fun s=>
 Φ .ret s
def W30_b6 (Φ:EP) (s:St):Prop:=
 L 109 4 7 true s fun s=>
 U 4 2 109 s fun s=>
 I 3 0 s fun s=>
 Φ .ret s
def W30_b8 (Φ:EP) (s:St):Prop:=
 L 106 3 1 true s fun s=>
 Ca Tryz.prog 69 [(s.τ 106)] 107 s fun s=>
 M 105 107 s fun s=>
 If 105 s (W30_b5 Φ s) (W30_b6 Φ s)
def W30_b9 (Φ:EP) (s:St):Prop:=
 F 101 3 7 s fun s=>
 L 102 1 101 false s fun s=>
 J 103 .lss false 102 0 s fun s=>
 M 100 103 s fun s=>
 If 100 s (W30_b4 Φ s) (W30_b8 Φ s)
def W30_k10 (Φ:EP) (s:St):Prop:=
 M 95 6 s fun s=>
 @sOp (some 96) (xNil (s.τ 95) s.H) s<|.mk fun s=>
 F 97 3 96 s fun s=>
 L 98 1 97 false s fun s=>
 M 94 98 s fun s=>
 If 94 s (W30_b3 Φ s) (W30_b9 Φ s)
def W30_b12 (Φ:EP) (L0:SP) (s:St):Prop:=
 F 81 2 7 s fun u1=>
 L 82 1 81 false u1 fun u2=>
 M 83 6 u2 fun u3=>
 F 84 2 1 u3 fun u4=>
 L 85 1 84 false u4 fun u5=>
 M 86 9 u5 fun u6=>
 X 87 9 85 86 u6 fun u7=>
 F 88 1 87 u7 fun u8=>
 L 89 8 88 true u8 fun u9=>
 k3 (s.τ 7) (cfp 90 68 [(u9.τ 83),(u9.τ 89)]) <|
 k3 (u1.τ 81) (cfp 90 68 [(u9.τ 83),(u9.τ 89)]) <|
 C0 Tryz.prog 68 [(u9.τ 83),(u9.τ 89)] 90 u9 fun u10=>
 k3 (s.τ 7) ([91] ++ occL [(u10.τ 90)],[91] ++ occL [(u10.τ 90)]) <|
 k3 (u1.τ 81) ([91] ++ occL [(u10.τ 90)],[91] ++ occL [(u10.τ 90)]) <|
 Lt 91 9 1 z9 [(0,(u10.τ 90))] u10 fun u11=>
 @sOp (some 92) (xApp Tryz.prog 35 9 120 (some 92) (u11.τ 82) (u11.τ 91) u11.H) u11<|.mk fun u12=>
 F 93 2 7 u12 fun u13=>
 U 1 93 92 u13 fun s=>
 M 79 9 s fun s=>
 J 80 .add false 79 1 s fun s=>
 M 9 80 s fun s=>
 L0 s
def W30_l13 (Φ:EP) (L0:SP) (s:St):Prop:=
 M 74 9 s fun s=>
 F 75 2 1 s fun s=>
 L 76 1 75 false s fun s=>
 N 77 76 s fun s=>
 B 78 .lss false 74 77 s fun s=>
 If 78 s (W30_b12 Φ L0 s) (W30_k10 Φ s)
def W30_k14 (Φ:EP) (s:St):Prop:=
 I 9 0 s fun s=>
 @sLoop s ⟨fun L0 s=>W30_l13 Φ L0 s⟩
def W30_b15 (Φ:EP) (L0:SP) (s:St):Prop:=
 F 63 0 7 s fun u1=>
 L 64 1 63 false u1 fun u2=>
 F 65 0 1 u2 fun u3=>
 L 66 1 65 false u3 fun u4=>
 M 67 8 u4 fun u5=>
 X 68 2 66 67 u5 fun u6=>
 F 69 1 68 u6 fun u7=>
 L 70 1 69 false u7 fun u8=>
 k3 (s.τ 7) ([71] ++ occL [(u8.τ 70)],[71] ++ occL [(u8.τ 70)]) <|
 k3 (u1.τ 63) ([71] ++ occL [(u8.τ 70)],[71] ++ occL [(u8.τ 70)]) <|
 Lt 71 1 1 [.int .i64 0] [(0,(u8.τ 70))] u8 fun u9=>
 @sOp (some 72) (xApp Tryz.prog 3 1 8 (some 72) (u9.τ 64) (u9.τ 71) u9.H) u9<|.mk fun u10=>
 F 73 0 7 u10 fun u11=>
 U 1 73 72 u11 fun s=>
 M 61 8 s fun s=>
 J 62 .add false 61 1 s fun s=>
 M 8 62 s fun s=>
 L0 s
def W30_l16 (Φ:EP) (L0:SP) (s:St):Prop:=
 M 56 8 s fun s=>
 F 57 0 1 s fun s=>
 L 58 1 57 false s fun s=>
 N 59 58 s fun s=>
 B 60 .lss false 56 59 s fun s=>
 If 60 s (W30_b15 Φ L0 s) (W30_k14 Φ s)
def W30_b18 (Φ:EP) (s:St):Prop:=
 M 44 4 s fun s=>
 F 45 1 1 s fun s=>
 L 46 1 45 false s fun s=>
 M 47 5 s fun s=>
 Bd 48 [.nils,.nils,.nils,.bool false] [(0,1,(s.τ 44)),(1,1,(s.τ 46)),(2,1,(s.τ 47))] s fun s=>
 Y 49 118 48 s fun s=>
 M 6 49 s fun s=>
 F 50 1 1 s fun u1=>
 L 51 1 50 false u1 fun u2=>
 N 52 51 u2 fun u3=>
 M 53 5 u3 fun u4=>
 k3 (s.τ 1) ([54] ++ withM (occ (.func 67 []) ++ occL [(u4.τ 53),(.str ⟨#[109,97,105,110]⟩)]),[54] ++ withM (occ (.func 67 []) ++ occL [(u4.τ 53),(.str ⟨#[109,97,105,110]⟩)])) <|
 k3 (u1.τ 50) ([54] ++ withM (occ (.func 67 []) ++ occL [(u4.τ 53),(.str ⟨#[109,97,105,110]⟩)]),[54] ++ withM (occ (.func 67 []) ++ occL [(u4.τ 53),(.str ⟨#[109,97,105,110]⟩)])) <|
 k3 (u2.τ 51) ([54] ++ withM (occ (.func 67 []) ++ occL [(u4.τ 53),(.str ⟨#[109,97,105,110]⟩)]),[54] ++ withM (occ (.func 67 []) ++ occL [(u4.τ 53),(.str ⟨#[109,97,105,110]⟩)])) <|
 C0 Tryz.prog 67 [(u4.τ 53),(.str ⟨#[109,97,105,110]⟩)] 54 u4 fun u5=>
 Bd 55 [.nils,.int .i64 0,.nils,.int .i64 0] [(1,1,(u5.τ 52)),(3,1,(u5.τ 54))] u5 fun u6=>
 k1 (s.τ 1) 7 <|
 k1 (u1.τ 50) 7 <|
 k1 (u2.τ 51) 7 <|
 k2 ([54] ++ withM (occ (.func 67 []) ++ occL [(u4.τ 53),(.str ⟨#[109,97,105,110]⟩)]),[54] ++ withM (occ (.func 67 []) ++ occL [(u4.τ 53),(.str ⟨#[109,97,105,110]⟩)])) 7 <|
 Z 7 29 [.nils,.int .i64 0,.nils,.int .i64 0] u6 fun u7=>
 U 4 7 55 u7 fun s=>
 I 8 0 s fun s=>
 @sLoop s ⟨fun L0 s=>W30_l16 Φ L0 s⟩
def W30_b26 (Φ:EP) (s:St):Prop:=
 L 28 3 1 true s fun s=>
 Ca Tryz.prog 65 [(s.τ 28)] 29 s fun s=>
 M 27 29 s fun s=>
 E 30 27 0 s fun s=>
 E 31 27 1 s fun s=>
 M 4 30 s fun s=>
 M 5 31 s fun s=>
 M 32 4 s fun s=>
 Ca Tryz.prog 66 [(s.τ 32)] 33 s fun s=>
 M 34 33 s fun s=>
 gf 35 1 1 34 false s fun s=>
 gl 36 1 35 34 false false s fun s=>
 @sGrd (guardOf (s.τ 34) false) (some 37) s ⟨fun s K=>@sCall Tryz.prog (.func 66 []) [(s.τ 36)] (some 37) s ⟨K⟩⟩<|.mk fun s=>
 O 38 34 37 s fun s=>
 M 39 38 s fun s=>
 gm 40 5 39 false s fun s=>
 @sGrd (guardOf (s.τ 39) false) (some 41) s ⟨fun s K=>@sCall Tryz.prog (.func 66 []) [(s.τ 40)] (some 41) s ⟨K⟩⟩<|.mk fun s=>
 O 42 39 41 s fun s=>
 If 42 s (W30_b2 Φ s) (W30_b18 Φ s)
def W30 (Φ:EP) (s:St):Prop:=
 Y 1 76 0 s fun s=>
 Z 2 29 [.nils,.int .i64 0,.nils,.int .i64 0] s fun s=>
 I 3 0 s fun s=>
 F 10 0 1 s fun s=>
 L 11 1 10 false s fun s=>
 N 12 11 s fun s=>
 J 13 .gtr false 12 20 s fun s=>
 M 14 13 s fun s=>
 gf 15 1 1 14 false s fun s=>
 gl 16 1 15 14 false false s fun s=>
 go 17 14 false s (fun s=>(xLen (s.τ 16) s.H)) fun s=>
 go 18 14 false s (fun s=>(xBin .gtr false (s.τ 17) (.int .i64 10) s.H)) fun s=>
 O 19 14 18 s fun s=>
 M 20 19 s fun s=>
 gf 21 2 1 20 false s fun s=>
 gl 22 1 21 20 false false s fun s=>
 go 23 20 false s (fun s=>(xLen (s.τ 22) s.H)) fun s=>
 go 24 20 false s (fun s=>(xBin .gtr false (s.τ 23) (.int .i64 20) s.H)) fun s=>
 O 25 20 24 s fun s=>
 If 25 s (W30_b1 Φ s) (W30_b26 Φ s)
theorem W30_rs (τ:Nat → AV) (H:Heap):resV Tryz.prog τ H [.cell 2 29,.tmp 3] = ob (ob (rdV H 4 true (τ 2)) fun v=>ob (ob (some (τ 3)) fun v=>ob (some []) fun vs=>some (v :: vs)) fun vs=>some (v :: vs)) fun vs=>some (.tup vs):=by kernel_rfl
theorem W30_eq:EqW Tryz.prog Tryz.f30 W30:=fun _ _=>by kernel_rfl
theorem W30_S:SpW Tryz.prog 30 110 [.cell 2 29,.tmp 3] W30:=spW Tryz.func30 Tryz.ntmps30 W30_eq
-- 31 "(penance/penancelaw3.Shape).Make"
def W31_k1 (Φ:EP) (s:St):Prop:=
 L 57 3 3 true s fun s=>
 U 3 2 57 s fun s=>
 Φ .ret s
def W31_k2 (Φ:EP) (L0:SP) (s:St):Prop:=
 F 51 2 3 s fun s=>
 L 52 1 51 false s fun s=>
 L 53 9 6 true s fun s=>
 Lt 54 9 1 [.str ⟨#[]⟩,.int .i64 0,.str ⟨#[]⟩,.str ⟨#[]⟩,.int .i64 0,.int .i64 0,.str ⟨#[]⟩,.nils,.nils] [(0,(s.τ 53))] s fun s=>
 @sOp (some 55) (xApp Tryz.prog 82 9 136 (some 55) (s.τ 52) (s.τ 54) s.H) s<|.mk fun s=>
 F 56 2 3 s fun s=>
 U 1 56 55 s fun s=>
 M 32 5 s fun s=>
 J 33 .add false 32 1 s fun s=>
 M 5 33 s fun s=>
 L0 s
def W31_b4 (Φ:EP) (L0:SP) (s:St):Prop:=
 F 44 2 1 s fun s=>
 L 45 1 44 false s fun s=>
 M 46 5 s fun s=>
 X 47 5 45 46 s fun s=>
 L 48 5 47 true s fun s=>
 Ca Tryz.prog 74 [(s.τ 48),(.int .i64 0)] 49 s fun s=>
 F 50 1 6 s fun s=>
 U 8 50 49 s fun s=>
 W31_k2 Φ L0 s
def W31_b6 (Φ:EP) (L0:SP) (s:St):Prop:=
 Ca Tryz.prog 73 [] 34 s fun s=>
 M 35 5 s fun s=>
 X 36 1 34 35 s fun s=>
 L 37 1 36 false s fun s=>
 Bd 38 [.str ⟨#[]⟩,.int .i64 0,.str ⟨#[]⟩,.str ⟨#[]⟩,.int .i64 0,.int .i64 0,.str ⟨#[]⟩,.nils,.nils] [(0,1,(s.τ 37))] s fun s=>
 Z 6 82 [.str ⟨#[]⟩,.int .i64 0,.str ⟨#[]⟩,.str ⟨#[]⟩,.int .i64 0,.int .i64 0,.str ⟨#[]⟩,.nils,.nils] s fun s=>
 U 9 6 38 s fun s=>
 M 39 5 s fun s=>
 F 40 2 1 s fun s=>
 L 41 1 40 false s fun s=>
 N 42 41 s fun s=>
 B 43 .lss false 39 42 s fun s=>
 If 43 s (W31_b4 Φ L0 s) (W31_k2 Φ L0 s)
def W31_l7 (Φ:EP) (L0:SP) (s:St):Prop:=
 M 30 5 s fun s=>
 J 31 .lss false 30 5 s fun s=>
 If 31 s (W31_b6 Φ L0 s) (W31_k1 Φ s)
def W31_k8 (Φ:EP) (s:St):Prop:=
 I 5 0 s fun s=>
 @sLoop s ⟨fun L0 s=>W31_l7 Φ L0 s⟩
def W31_b11 (Φ:EP) (L0:SP) (s:St):Prop:=
 F 13 0 3 s fun u1=>
 L 14 1 13 false u1 fun u2=>
 k3 (s.τ 3) (cfp 15 71 []) <|
 k3 (u1.τ 13) (cfp 15 71 []) <|
 C0 Tryz.prog 71 [] 15 u2 fun u3=>
 M 16 4 u3 fun u4=>
 X 17 1 15 16 u4 fun u5=>
 L 18 1 17 false u5 fun u6=>
 @sChk (compat (cfp 15 71 []) (occ (u6.τ 1),[])) <| .mk <|
 F 19 0 1 u6 fun u7=>
 @sChk (compat (cfp 15 71 []) (occ (u7.τ 19),[])) <| .mk <|
 L 20 1 19 false u7 fun u8=>
 M 21 4 u8 fun u9=>
 J 22 .add false 21 1 u9 fun u10=>
 B 23 .quo false 20 22 u10 fun u11=>
 k3 (s.τ 3) (cfp 24 72 [(u11.τ 23),(.int .i64 9)]) <|
 k3 (u1.τ 13) (cfp 24 72 [(u11.τ 23),(.int .i64 9)]) <|
 k3 (u4.τ 15) (cfp 24 72 [(u11.τ 23),(.int .i64 9)]) <|
 k3 (u5.τ 17) (cfp 24 72 [(u11.τ 23),(.int .i64 9)]) <|
 C0 Tryz.prog 72 [(u11.τ 23),(.int .i64 9)] 24 u11 fun u12=>
 J 25 .sub false 24 4 u12 fun u13=>
 Bd 26 [.str ⟨#[]⟩,.int .i64 0] [(0,1,(u13.τ 18)),(1,1,(u13.τ 25))] u13 fun u14=>
 k3 (s.τ 3) ([27] ++ occL [(u14.τ 26)],[27] ++ occL [(u14.τ 26)]) <|
 k3 (u1.τ 13) ([27] ++ occL [(u14.τ 26)],[27] ++ occL [(u14.τ 26)]) <|
 Lt 27 2 1 [.str ⟨#[]⟩,.int .i64 0] [(0,(u14.τ 26))] u14 fun u15=>
 @sOp (some 28) (xApp Tryz.prog 121 2 24 (some 28) (u15.τ 14) (u15.τ 27) u15.H) u15<|.mk fun u16=>
 F 29 0 3 u16 fun u17=>
 U 1 29 28 u17 fun s=>
 M 11 4 s fun s=>
 J 12 .add false 11 1 s fun s=>
 M 4 12 s fun s=>
 L0 s
def W31_l12 (Φ:EP) (L0:SP) (s:St):Prop:=
 M 9 4 s fun s=>
 J 10 .lss false 9 3 s fun s=>
 If 10 s (W31_b11 Φ L0 s) (W31_k8 Φ s)
def W31 (Φ:EP) (s:St):Prop:=
 Y 1 24 0 s fun s=>
 Z 2 76 [.nils,.nils,.nils] s fun s=>
 Ca Tryz.prog 70 [] 7 s fun s=>
 Bd 8 [.nils,.nils,.nils] [(1,1,(s.τ 7))] s fun s=>
 Z 3 76 [.nils,.nils,.nils] s fun s=>
 U 3 3 8 s fun s=>
 I 4 0 s fun s=>
 @sLoop s ⟨fun L0 s=>W31_l12 Φ L0 s⟩
theorem W31_rs (τ:Nat → AV) (H:Heap):resV Tryz.prog τ H [.cell 2 76] = rdV H 3 true (τ 2):=by kernel_rfl
theorem W31_eq:EqW Tryz.prog Tryz.f31 W31:=fun _ _=>by kernel_rfl
theorem W31_S:SpW Tryz.prog 31 58 [.cell 2 76] W31:=spW Tryz.func31 Tryz.ntmps31 W31_eq
-- 32 "penance/term.Norm"
def W32_b2 (Φ:EP) (s:St):Prop:=
 F 26 8 1 s fun s=>
 L 27 1 26 false s fun s=>
 @sOp (some 28) (xIx 9 (s.τ 27) (.int .i64 1) s.H) s<|.mk fun s=>
 L 29 9 28 true s fun s=>
 Ca Tryz.prog 32 [(s.τ 29)] 30 s fun s=>
 U 9 2 30 s fun s=>
 Φ .ret s
def W32_b4 (Φ:EP) (s:St):Prop:=
 L 31 9 4 true s fun u1=>
 F 32 8 1 u1 fun u2=>
 L 33 1 32 false u2 fun u3=>
 @sOp (some 34) (xIx 9 (u3.τ 33) (.int .i64 1) u3.H) u3<|.mk fun u4=>
 L 35 9 34 true u4 fun u5=>
 k3 (s.τ 4) (cfp 36 76 [(u5.τ 35)]) <|
 C0 Tryz.prog 76 [(u5.τ 35)] 36 u5 fun u6=>
 Lt 37 9 2 z9 [(0,(u6.τ 31)),(1,(u6.τ 36))] u6 fun u7=>
 Bd 38 z9 [(0,1,(.int .i64 12)),(8,1,(u7.τ 37))] u7 fun u8=>
 U 9 2 38 u8 fun s=>
 Φ .ret s
def W32_b7 (Φ:EP) (s:St):Prop:=
 F 18 8 1 s fun s=>
 L 19 1 18 false s fun s=>
 @sOp (some 20) (xIx 9 (s.τ 19) (.int .i64 0) s.H) s<|.mk fun s=>
 L 21 9 20 true s fun s=>
 Ca Tryz.prog 32 [(s.τ 21)] 22 s fun s=>
 Z 4 35 z9 s fun s=>
 U 9 4 22 s fun s=>
 M 23 3 s fun s=>
 L 24 9 4 true s fun s=>
 @sCall Tryz.prog (s.τ 23) [(s.τ 24)] (some 25) s<|.mk fun s=>
 If 25 s (W32_b2 Φ s) (W32_b4 Φ s)
def W32_b8 (Φ:EP) (s:St):Prop:=
 Bd 67 z9 [] s fun s=>
 U 9 2 67 s fun s=>
 Φ .ret s
def W32_b9 (Φ:EP) (s:St):Prop:=
 L 68 9 5 true s fun s=>
 L 69 9 6 true s fun s=>
 Lt 70 9 2 z9 [(0,(s.τ 68)),(1,(s.τ 69))] s fun s=>
 Bd 71 z9 [(0,1,(.int .i64 11)),(8,1,(s.τ 70))] s fun s=>
 U 9 2 71 s fun s=>
 Φ .ret s
def W32_b16 (Φ:EP) (s:St):Prop:=
 F 49 8 1 s fun u1=>
 L 50 1 49 false u1 fun u2=>
 @sOp (some 51) (xIx 9 (u2.τ 50) (.int .i64 0) u2.H) u2<|.mk fun u3=>
 L 52 9 51 true u3 fun u4=>
 C0 Tryz.prog 32 [(u4.τ 52)] 53 u4 fun u5=>
 @sChk (compat (cfp 53 32 [(u4.τ 52)]) (occ (u5.τ 1),[])) <| .mk <|
 F 54 8 1 u5 fun u6=>
 @sChk (compat (cfp 53 32 [(u4.τ 52)]) (occ (u6.τ 54),[])) <| .mk <|
 L 55 1 54 false u6 fun u7=>
 @sChk (compat (cfp 53 32 [(u4.τ 52)]) (occ (u7.τ 55),[])) <| .mk <|
 @sOp (some 56) (xIx 9 (u7.τ 55) (.int .i64 1) u7.H) u7<|.mk fun u8=>
 @sChk (compat (cfp 53 32 [(u4.τ 52)]) (occ (u8.τ 56),[])) <| .mk <|
 L 57 9 56 true u8 fun u9=>
 C0 Tryz.prog 32 [(u9.τ 57)] 58 u9 fun u10=>
 k1 (s.τ 1) 5 <|
 k1 (u1.τ 49) 5 <|
 k1 (u2.τ 50) 5 <|
 k1 (u3.τ 51) 5 <|
 k2 (cfp 53 32 [(u4.τ 52)]) 5 <|
 k1 (u5.τ 1) 5 <|
 k1 (u6.τ 54) 5 <|
 k1 (u7.τ 55) 5 <|
 k1 (u8.τ 56) 5 <|
 k2 (cfp 58 32 [(u9.τ 57)]) 5 <|
 Z 5 35 z9 u10 fun u11=>
 k1 (s.τ 1) 6 <|
 k1 (u1.τ 49) 6 <|
 k1 (u2.τ 50) 6 <|
 k1 (u3.τ 51) 6 <|
 k2 (cfp 53 32 [(u4.τ 52)]) 6 <|
 k1 (u5.τ 1) 6 <|
 k1 (u6.τ 54) 6 <|
 k1 (u7.τ 55) 6 <|
 k1 (u8.τ 56) 6 <|
 k2 (cfp 58 32 [(u9.τ 57)]) 6 <|
 k2 ([5],[5]) 6 <|
 Z 6 35 z9 u11 fun u12=>
 U 9 5 53 u12 fun u13=>
 U 9 6 58 u13 fun s=>
 M 59 3 s fun s=>
 L 60 9 5 true s fun s=>
 @sCall Tryz.prog (s.τ 59) [(s.τ 60)] (some 61) s<|.mk fun s=>
 M 62 61 s fun s=>
 gm 63 3 62 true s fun s=>
 gl 64 9 6 62 true true s fun s=>
 @sGrd (guardOf (s.τ 62) true) (some 65) s ⟨fun s K=>@sCall Tryz.prog (s.τ 63) [(s.τ 64)] (some 65) s ⟨K⟩⟩<|.mk fun s=>
 A 66 62 65 s fun s=>
 If 66 s (W32_b8 Φ s) (W32_b9 Φ s)
def W32_b17 (Φ:EP) (s:St):Prop:=
 Bd 90 z9 [] s fun s=>
 U 9 2 90 s fun s=>
 Φ .ret s
def W32_b18 (Φ:EP) (s:St):Prop:=
 L 91 9 7 true s fun s=>
 Lt 92 9 1 z9 [(0,(s.τ 91))] s fun s=>
 Bd 93 z9 [(0,1,(.int .i64 7)),(8,1,(s.τ 92))] s fun s=>
 U 9 2 93 s fun s=>
 Φ .ret s
def W32_b21 (Φ:EP) (s:St):Prop:=
 F 82 8 1 s fun s=>
 L 83 1 82 false s fun s=>
 @sOp (some 84) (xIx 9 (s.τ 83) (.int .i64 0) s.H) s<|.mk fun s=>
 L 85 9 84 true s fun s=>
 Ca Tryz.prog 32 [(s.τ 85)] 86 s fun s=>
 Z 7 35 z9 s fun s=>
 U 9 7 86 s fun s=>
 M 87 3 s fun s=>
 L 88 9 7 true s fun s=>
 @sCall Tryz.prog (s.τ 87) [(s.τ 88)] (some 89) s<|.mk fun s=>
 If 89 s (W32_b17 Φ s) (W32_b18 Φ s)
def W32_b23 (Φ:EP) (s:St):Prop:=
 L 94 9 1 true s fun s=>
 Ca Tryz.prog 76 [(s.τ 94)] 95 s fun s=>
 U 9 2 95 s fun s=>
 Φ .ret s
def W32_b28 (Φ:EP) (s:St):Prop:=
 F 73 0 1 s fun s=>
 L 74 1 73 false s fun s=>
 J 75 .eql false 74 7 s fun s=>
 M 76 75 s fun s=>
 gf 77 8 1 76 true s fun s=>
 gl 78 1 77 76 false true s fun s=>
 go 79 76 true s (fun s=>(xLen (s.τ 78) s.H)) fun s=>
 go 80 76 true s (fun s=>(xBin .eql false (s.τ 79) (.int .i64 1) s.H)) fun s=>
 A 81 76 80 s fun s=>
 M 72 81 s fun s=>
 If 72 s (W32_b21 Φ s) (W32_b23 Φ s)
def W32_b33 (Φ:EP) (s:St):Prop:=
 F 40 0 1 s fun s=>
 L 41 1 40 false s fun s=>
 J 42 .eql false 41 11 s fun s=>
 M 43 42 s fun s=>
 gf 44 8 1 43 true s fun s=>
 gl 45 1 44 43 false true s fun s=>
 go 46 43 true s (fun s=>(xLen (s.τ 45) s.H)) fun s=>
 go 47 43 true s (fun s=>(xBin .eql false (s.τ 46) (.int .i64 2) s.H)) fun s=>
 A 48 43 47 s fun s=>
 M 39 48 s fun s=>
 If 39 s (W32_b16 Φ s) (W32_b28 Φ s)
def W32 (Φ:EP) (s:St):Prop:=
 Y 1 35 0 s fun s=>
 Z 2 35 z9 s fun s=>
 @sOp (some 3) (xMov (.func 75 []) s.H) s<|.mk fun s=>
 F 9 0 1 s fun s=>
 L 10 1 9 false s fun s=>
 J 11 .eql false 10 12 s fun s=>
 M 12 11 s fun s=>
 gf 13 8 1 12 true s fun s=>
 gl 14 1 13 12 false true s fun s=>
 go 15 12 true s (fun s=>(xLen (s.τ 14) s.H)) fun s=>
 go 16 12 true s (fun s=>(xBin .eql false (s.τ 15) (.int .i64 2) s.H)) fun s=>
 A 17 12 16 s fun s=>
 M 8 17 s fun s=>
 If 8 s (W32_b7 Φ s) (W32_b33 Φ s)
theorem W32_rs (τ:Nat → AV) (H:Heap):resV Tryz.prog τ H [.cell 2 35] = rdV H 9 true (τ 2):=by kernel_rfl
theorem W32_eq:EqW Tryz.prog Tryz.f32 W32:=fun _ _=>by kernel_rfl
theorem W32_S:SpW Tryz.prog 32 96 [.cell 2 35] W32:=spW Tryz.func32 Tryz.ntmps32 W32_eq
-- 33 "slices.Clone[[]int,int]"
def W33_b1 (Φ:EP) (s:St):Prop:=
 @sOp (some 2) (xMov (.nils) s.H) s<|.mk fun s=>
 Φ .ret s
def W33_b2 (Φ:EP) (s:St):Prop:=
 @sOp (some 5) (xRow 5 3 1 0 [.int .i64 0] [] s.H) s<|.mk fun s=>
 M 6 0 s fun s=>
 @sOp (some 7) (xApp Tryz.prog 3 1 8 (some 7) (s.τ 5) (s.τ 6) s.H) s<|.mk fun s=>
 M 2 7 s fun s=>
 Φ .ret s
def W33 (Φ:EP) (s:St):Prop:=
 @sOp (some 2) (xMov (.nils) s.H) s<|.mk fun s=>
 M 3 0 s fun s=>
 @sNil false (s.τ 3) (some 4) s<|.mk fun s=>
 If 4 s (W33_b1 Φ s) (W33_b2 Φ s)
theorem W33_rs (τ:Nat → AV) (H:Heap):resV Tryz.prog τ H [.tmp 2] = some (τ 2):=by kernel_rfl
theorem W33_eq:EqW Tryz.prog Tryz.f33 W33:=fun _ _=>by kernel_rfl
theorem W33_S:SpW Tryz.prog 33 8 [.tmp 2] W33:=spW Tryz.func33 Tryz.ntmps33 W33_eq
-- 34 "penance/stacks.Merge"
def W34_k1 (Φ:EP) (s:St):Prop:=
 M 38 7 s fun s=>
 M 6 38 s fun s=>
 Φ .ret s
def W34_b2 (Φ:EP) (s:St):Prop:=
 M 23 7 s fun s=>
 M 24 2 s fun s=>
 M 25 7 s fun s=>
 M 26 1 s fun s=>
 M 27 7 s fun s=>
 M 28 2 s fun s=>
 X 29 1 27 28 s fun s=>
 L 30 1 29 false s fun s=>
 M 31 7 s fun s=>
 M 32 1 s fun s=>
 X 33 1 31 32 s fun s=>
 L 34 1 33 false s fun s=>
 @sOp (some 35) (xApp Tryz.prog 35 9 120 (some 35) (s.τ 30) (s.τ 34) s.H) s<|.mk fun s=>
 X 36 1 23 24 s fun s=>
 U 1 36 35 s fun s=>
 X 37 1 25 26 s fun s=>
 @sOp none (xStore 1 (s.τ 37) (.nils) s.H) s<|.mk fun s=>
 W34_k1 Φ s
def W34 (Φ:EP) (s:St):Prop:=
 @sOp (some 6) (xMov (.nils) s.H) s<|.mk fun s=>
 M 8 0 s fun s=>
 Ca Tryz.prog 77 [(s.τ 8)] 9 s fun s=>
 M 7 9 s fun s=>
 M 10 1 s fun s=>
 M 11 2 s fun s=>
 B 12 .neq false 10 11 s fun s=>
 M 13 12 s fun s=>
 gm 14 7 13 true s fun s=>
 gm 15 1 13 true s fun s=>
 @sGrd (guardOf (s.τ 13) true) (some 16) s ⟨fun s K=>@sCall Tryz.prog (.func 78 []) [(s.τ 14),(s.τ 15)] (some 16) s ⟨K⟩⟩<|.mk fun s=>
 A 17 13 16 s fun s=>
 M 18 17 s fun s=>
 gm 19 7 18 true s fun s=>
 gm 20 2 18 true s fun s=>
 @sGrd (guardOf (s.τ 18) true) (some 21) s ⟨fun s K=>@sCall Tryz.prog (.func 78 []) [(s.τ 19),(s.τ 20)] (some 21) s ⟨K⟩⟩<|.mk fun s=>
 A 22 18 21 s fun s=>
 If 22 s (W34_b2 Φ s) (W34_k1 Φ s)
theorem W34_rs (τ:Nat → AV) (H:Heap):resV Tryz.prog τ H [.tmp 6] = some (τ 6):=by kernel_rfl
theorem W34_eq:EqW Tryz.prog Tryz.f34 W34:=fun _ _=>by kernel_rfl
theorem W34_S:SpW Tryz.prog 34 39 [.tmp 6] W34:=spW Tryz.func34 Tryz.ntmps34 W34_eq
-- 35 "penance/penanceref5.Norm"
def W35_b2 (Φ:EP) (s:St):Prop:=
 F 21 8 1 s fun s=>
 L 22 1 21 false s fun s=>
 @sOp (some 23) (xIx 9 (s.τ 22) (.int .i64 1) s.H) s<|.mk fun s=>
 L 24 9 23 true s fun s=>
 Ca Tryz.prog 35 [(s.τ 24)] 25 s fun s=>
 U 9 2 25 s fun s=>
 Φ .ret s
def W35_b3 (Φ:EP) (s:St):Prop:=
 L 26 9 4 true s fun s=>
 F 27 8 1 s fun s=>
 L 28 1 27 false s fun s=>
 @sOp (some 29) (xIx 9 (s.τ 28) (.int .i64 1) s.H) s<|.mk fun s=>
 L 30 9 29 true s fun s=>
 Lt 31 9 2 z9 [(0,(s.τ 26)),(1,(s.τ 30))] s fun s=>
 Bd 32 z9 [(0,1,(.int .i64 12)),(8,1,(s.τ 31))] s fun s=>
 U 9 2 32 s fun s=>
 Φ .ret s
def W35_b5 (Φ:EP) (s:St):Prop:=
 F 13 8 1 s fun s=>
 L 14 1 13 false s fun s=>
 @sOp (some 15) (xIx 9 (s.τ 14) (.int .i64 0) s.H) s<|.mk fun s=>
 L 16 9 15 true s fun s=>
 Ca Tryz.prog 35 [(s.τ 16)] 17 s fun s=>
 Z 4 35 z9 s fun s=>
 U 9 4 17 s fun s=>
 F 18 0 4 s fun s=>
 L 19 1 18 false s fun s=>
 J 20 .eql false 19 0 s fun s=>
 If 20 s (W35_b2 Φ s) (W35_b3 Φ s)
def W35_b6 (Φ:EP) (s:St):Prop:=
 L 53 9 3 true s fun s=>
 U 9 2 53 s fun s=>
 Φ .ret s
def W35_b7 (Φ:EP) (s:St):Prop:=
 L 54 9 5 true s fun s=>
 L 55 9 6 true s fun s=>
 Lt 56 9 2 z9 [(0,(s.τ 54)),(1,(s.τ 55))] s fun s=>
 Bd 57 z9 [(0,1,(.int .i64 11)),(8,1,(s.τ 56))] s fun s=>
 U 9 2 57 s fun s=>
 Φ .ret s
def W35_b13 (Φ:EP) (s:St):Prop:=
 F 35 8 1 s fun u1=>
 L 36 1 35 false u1 fun u2=>
 @sOp (some 37) (xIx 9 (u2.τ 36) (.int .i64 0) u2.H) u2<|.mk fun u3=>
 L 38 9 37 true u3 fun u4=>
 C0 Tryz.prog 35 [(u4.τ 38)] 39 u4 fun u5=>
 @sChk (compat (cfp 39 35 [(u4.τ 38)]) (occ (u5.τ 1),[])) <| .mk <|
 F 40 8 1 u5 fun u6=>
 @sChk (compat (cfp 39 35 [(u4.τ 38)]) (occ (u6.τ 40),[])) <| .mk <|
 L 41 1 40 false u6 fun u7=>
 @sChk (compat (cfp 39 35 [(u4.τ 38)]) (occ (u7.τ 41),[])) <| .mk <|
 @sOp (some 42) (xIx 9 (u7.τ 41) (.int .i64 1) u7.H) u7<|.mk fun u8=>
 @sChk (compat (cfp 39 35 [(u4.τ 38)]) (occ (u8.τ 42),[])) <| .mk <|
 L 43 9 42 true u8 fun u9=>
 C0 Tryz.prog 35 [(u9.τ 43)] 44 u9 fun u10=>
 k1 (s.τ 1) 5 <|
 k1 (u1.τ 35) 5 <|
 k1 (u2.τ 36) 5 <|
 k1 (u3.τ 37) 5 <|
 k2 (cfp 39 35 [(u4.τ 38)]) 5 <|
 k1 (u5.τ 1) 5 <|
 k1 (u6.τ 40) 5 <|
 k1 (u7.τ 41) 5 <|
 k1 (u8.τ 42) 5 <|
 k2 (cfp 44 35 [(u9.τ 43)]) 5 <|
 Z 5 35 z9 u10 fun u11=>
 k1 (s.τ 1) 6 <|
 k1 (u1.τ 35) 6 <|
 k1 (u2.τ 36) 6 <|
 k1 (u3.τ 37) 6 <|
 k2 (cfp 39 35 [(u4.τ 38)]) 6 <|
 k1 (u5.τ 1) 6 <|
 k1 (u6.τ 40) 6 <|
 k1 (u7.τ 41) 6 <|
 k1 (u8.τ 42) 6 <|
 k2 (cfp 44 35 [(u9.τ 43)]) 6 <|
 k2 ([5],[5]) 6 <|
 Z 6 35 z9 u11 fun u12=>
 U 9 5 39 u12 fun u13=>
 U 9 6 44 u13 fun s=>
 F 45 0 5 s fun s=>
 L 46 1 45 false s fun s=>
 J 47 .eql false 46 0 s fun s=>
 M 48 47 s fun s=>
 gf 49 0 6 48 true s fun s=>
 gl 50 1 49 48 false true s fun s=>
 go 51 48 true s (fun s=>(xBin .eql false (s.τ 50) (.int .i64 0) s.H)) fun s=>
 A 52 48 51 s fun s=>
 If 52 s (W35_b6 Φ s) (W35_b7 Φ s)
def W35_b14 (Φ:EP) (s:St):Prop:=
 L 68 9 3 true s fun s=>
 U 9 2 68 s fun s=>
 Φ .ret s
def W35_b15 (Φ:EP) (s:St):Prop:=
 L 69 9 7 true s fun s=>
 Lt 70 9 1 z9 [(0,(s.τ 69))] s fun s=>
 Bd 71 z9 [(0,1,(.int .i64 7)),(8,1,(s.τ 70))] s fun s=>
 U 9 2 71 s fun s=>
 Φ .ret s
def W35_b17 (Φ:EP) (s:St):Prop:=
 F 60 8 1 s fun s=>
 L 61 1 60 false s fun s=>
 @sOp (some 62) (xIx 9 (s.τ 61) (.int .i64 0) s.H) s<|.mk fun s=>
 L 63 9 62 true s fun s=>
 Ca Tryz.prog 35 [(s.τ 63)] 64 s fun s=>
 Z 7 35 z9 s fun s=>
 U 9 7 64 s fun s=>
 F 65 0 7 s fun s=>
 L 66 1 65 false s fun s=>
 J 67 .eql false 66 0 s fun s=>
 If 67 s (W35_b14 Φ s) (W35_b15 Φ s)
def W35_b18 (Φ:EP) (s:St):Prop:=
 L 72 9 1 true s fun s=>
 U 9 2 72 s fun s=>
 Φ .ret s
def W35_b19 (Φ:EP) (s:St):Prop:=
 J 59 .eql false 10 7 s fun s=>
 M 58 59 s fun s=>
 If 58 s (W35_b17 Φ s) (W35_b18 Φ s)
def W35_b20 (Φ:EP) (s:St):Prop:=
 J 34 .eql false 10 11 s fun s=>
 M 33 34 s fun s=>
 If 33 s (W35_b13 Φ s) (W35_b19 Φ s)
def W35 (Φ:EP) (s:St):Prop:=
 Y 1 35 0 s fun s=>
 Z 2 35 z9 s fun s=>
 Bd 8 z9 [] s fun s=>
 Z 3 35 z9 s fun s=>
 U 9 3 8 s fun s=>
 F 9 0 1 s fun s=>
 L 10 1 9 false s fun s=>
 J 12 .eql false 10 12 s fun s=>
 M 11 12 s fun s=>
 If 11 s (W35_b5 Φ s) (W35_b20 Φ s)
theorem W35_rs (τ:Nat → AV) (H:Heap):resV Tryz.prog τ H [.cell 2 35] = rdV H 9 true (τ 2):=by kernel_rfl
theorem W35_eq:EqW Tryz.prog Tryz.f35 W35:=fun _ _=>by kernel_rfl
theorem W35_S:SpW Tryz.prog 35 73 [.cell 2 35] W35:=spW Tryz.func35 Tryz.ntmps35 W35_eq
-- 36 "penance/penanceref5.Same"
def W36_b1 (Φ:EP) (s:St):Prop:=
 V 4 false s fun s=>
 Φ .ret s
def W36_k2 (Φ:EP) (s:St):Prop:=
 V 4 true s fun s=>
 Φ .ret s
def W36_b3 (Φ:EP) (L0:SP) (s:St):Prop:=
 V 4 false s fun s=>
 Φ .ret s
def W36_b4 (Φ:EP) (L0:SP) (s:St):Prop:=
 M 54 5 s fun s=>
 J 55 .add false 54 1 s fun s=>
 M 5 55 s fun s=>
 L0 s
def W36_b6 (Φ:EP) (L0:SP) (s:St):Prop:=
 F 56 8 2 s fun s=>
 L 57 1 56 false s fun s=>
 M 58 5 s fun s=>
 X 59 9 57 58 s fun s=>
 L 60 9 59 true s fun s=>
 F 61 8 3 s fun s=>
 L 62 1 61 false s fun s=>
 M 63 5 s fun s=>
 X 64 9 62 63 s fun s=>
 L 65 9 64 true s fun s=>
 C0 Tryz.prog 36 [(s.τ 60),(s.τ 65)] 66 s fun s=>
 Q 67 66 s fun s=>
 If 67 s (W36_b3 Φ L0 s) (W36_b4 Φ L0 s)
def W36_l7 (Φ:EP) (L0:SP) (s:St):Prop:=
 M 49 5 s fun s=>
 F 50 8 2 s fun s=>
 L 51 1 50 false s fun s=>
 N 52 51 s fun s=>
 B 53 .lss false 49 52 s fun s=>
 If 53 s (W36_b6 Φ L0 s) (W36_k2 Φ s)
def W36_b8 (Φ:EP) (s:St):Prop:=
 I 5 0 s fun s=>
 @sLoop s ⟨fun L0 s=>W36_l7 Φ L0 s⟩
def W36 (Φ:EP) (s:St):Prop:=
 Y 2 35 0 s fun s=>
 Y 3 35 1 s fun s=>
 V 4 false s fun s=>
 F 6 0 2 s fun s=>
 L 7 1 6 false s fun s=>
 F 8 0 3 s fun s=>
 L 9 1 8 false s fun s=>
 B 10 .neq false 7 9 s fun s=>
 M 11 10 s fun s=>
 gf 12 1 2 11 false s fun s=>
 gl 13 1 12 11 false false s fun s=>
 gf 14 1 3 11 false s fun s=>
 gl 15 1 14 11 false false s fun s=>
 go 16 11 false s (fun s=>(xBin .neq false (s.τ 13) (s.τ 15) s.H)) fun s=>
 O 17 11 16 s fun s=>
 M 18 17 s fun s=>
 gf 19 2 2 18 false s fun s=>
 gl 20 1 19 18 false false s fun s=>
 gf 21 2 3 18 false s fun s=>
 gl 22 1 21 18 false false s fun s=>
 go 23 18 false s (fun s=>(xBin .neq false (s.τ 20) (s.τ 22) s.H)) fun s=>
 O 24 18 23 s fun s=>
 M 25 24 s fun s=>
 gf 26 3 2 25 false s fun s=>
 gl 27 1 26 25 false false s fun s=>
 gf 28 3 3 25 false s fun s=>
 gl 29 1 28 25 false false s fun s=>
 go 30 25 false s (fun s=>(xBin .neq false (s.τ 27) (s.τ 29) s.H)) fun s=>
 O 31 25 30 s fun s=>
 M 32 31 s fun s=>
 gf 33 4 2 32 false s fun s=>
 gl 34 4 33 32 true false s fun s=>
 gf 35 4 3 32 false s fun s=>
 gl 36 4 35 32 true false s fun s=>
 @sGrd (guardOf (s.τ 32) false) (some 37) s ⟨fun s K=>@sCall Tryz.prog (.func 79 []) [(s.τ 34),(s.τ 36)] (some 37) s ⟨K⟩⟩<|.mk fun s=>
 go 38 32 false s (fun s=>(xNot (s.τ 37) s.H)) fun s=>
 O 39 32 38 s fun s=>
 M 40 39 s fun s=>
 gf 41 8 2 40 false s fun s=>
 gl 42 1 41 40 false false s fun s=>
 go 43 40 false s (fun s=>(xLen (s.τ 42) s.H)) fun s=>
 gf 44 8 3 40 false s fun s=>
 gl 45 1 44 40 false false s fun s=>
 go 46 40 false s (fun s=>(xLen (s.τ 45) s.H)) fun s=>
 go 47 40 false s (fun s=>(xBin .neq false (s.τ 43) (s.τ 46) s.H)) fun s=>
 O 48 40 47 s fun s=>
 If 48 s (W36_b1 Φ s) (W36_b8 Φ s)
theorem W36_rs (τ:Nat → AV) (H:Heap):resV Tryz.prog τ H [.tmp 4] = some (τ 4):=by kernel_rfl
theorem W36_eq:EqW Tryz.prog Tryz.f36 W36:=fun _ _=>by kernel_rfl
theorem W36_S:SpW Tryz.prog 36 68 [.tmp 4] W36:=spW Tryz.func36 Tryz.ntmps36 W36_eq
-- 38 "penance/term.Size"
def W38_k1 (Φ:EP) (s:St):Prop:=
 M 18 3 s fun s=>
 M 2 18 s fun s=>
 Φ .ret s
def W38_b3 (Φ:EP) (L0:SP) (s:St):Prop:=
 X 11 9 7 9 s fun s=>
 L 12 9 11 true s fun s=>
 Z 5 35 z9 s fun s=>
 U 9 5 12 s fun s=>
 M 13 3 s fun s=>
 L 14 9 5 true s fun s=>
 Ca Tryz.prog 38 [(s.τ 14)] 15 s fun s=>
 B 16 .add false 13 15 s fun s=>
 M 3 16 s fun s=>
 J 17 .add false 9 1 s fun s=>
 M 9 17 s fun s=>
 L0 s
def W38_l4 (Φ:EP) (L0:SP) (s:St):Prop:=
 B 10 .lss false 9 8 s fun s=>
 If 10 s (W38_b3 Φ L0 s) (W38_k1 Φ s)
def W38 (Φ:EP) (s:St):Prop:=
 Y 1 35 0 s fun s=>
 I 2 0 s fun s=>
 I 3 1 s fun s=>
 F 6 8 1 s fun s=>
 L 7 1 6 false s fun s=>
 N 8 7 s fun s=>
 I 9 0 s fun s=>
 @sLoop s ⟨fun L0 s=>W38_l4 Φ L0 s⟩
theorem W38_rs (τ:Nat → AV) (H:Heap):resV Tryz.prog τ H [.tmp 2] = some (τ 2):=by kernel_rfl
theorem W38_eq:EqW Tryz.prog Tryz.f38 W38:=fun _ _=>by kernel_rfl
theorem W38_S:SpW Tryz.prog 38 19 [.tmp 2] W38:=spW Tryz.func38 Tryz.ntmps38 W38_eq
-- 39 "penance/run.waits"
def W39_k1 (Φ:EP) (s:St):Prop:=
 @sOp none (xStore 1 (s.τ 2) (.bool false) s.H) s<|.mk fun s=>
 Φ .ret s
def W39_b2 (Φ:EP) (s:St):Prop:=
 @sOp none (xStore 1 (s.τ 2) (.bool true) s.H) s<|.mk fun s=>
 Φ .ret s
def W39_r3 (Φ:EP) (s:St):Prop:=
 Z 3 35 z9 s fun s=>
 U 9 3 6 s fun s=>
 F 7 0 3 s fun s=>
 L 8 1 7 false s fun s=>
 J 9 .eql false 8 14 s fun s=>
 @sIf (s.τ 9) ⟨W39_b2 Φ s⟩ ⟨Φ .normal s⟩
def W39 (Φ:EP) (s:St):Prop:=
 Y 1 35 0 s fun s=>
 Z 2 4 [.bool false] s fun s=>
 L 4 9 1 true s fun s=>
 Ca Tryz.prog 80 [(s.τ 4)] 5 s fun s=>
 @sRange Tryz.prog (s.τ 5) [6] s ⟨fun Φ s=>W39_r3 Φ s⟩ ⟨(blkK 0 (thenK (W39_k1 Φ) Φ))⟩
theorem W39_rs (τ:Nat → AV) (H:Heap):resV Tryz.prog τ H [.cell 2 4] = rdV H 1 false (τ 2):=by kernel_rfl
theorem W39_eq:EqW Tryz.prog Tryz.f39 W39:=fun _ _=>by kernel_rfl
theorem W39_S:SpW Tryz.prog 39 10 [.cell 2 4] W39:=spW Tryz.func39 Tryz.ntmps39 W39_eq
-- 40 "penance/term.Right"
def W40 (Φ:EP) (s:St):Prop:=
 Y 4 35 0 s fun s=>
 V 8 false s fun s=>
 M 9 1 s fun s=>
 M 10 2 s fun s=>
 M 11 3 s fun s=>
 Bd 12 [.int .i64 0,.int .i64 0,.int .i64 0] [(0,1,(s.τ 9)),(1,1,(s.τ 10)),(2,1,(s.τ 11))] s fun s=>
 L 13 9 4 true s fun s=>
 Ca Tryz.prog 81 [(s.τ 12),(s.τ 13),(.bool false)] 14 s fun s=>
 M 8 14 s fun s=>
 Φ .ret s
theorem W40_rs (τ:Nat → AV) (H:Heap):resV Tryz.prog τ H [.tmp 8] = some (τ 8):=by kernel_rfl
theorem W40_eq:EqW Tryz.prog Tryz.f40 W40:=fun _ _=>by kernel_rfl
theorem W40_S:SpW Tryz.prog 40 15 [.tmp 8] W40:=spW Tryz.func40 Tryz.ntmps40 W40_eq
-- 41 "penance/run.own"
def W41 (Φ:EP) (s:St):Prop:=
 Y 1 38 0 s fun s=>
 Z 2 38 z13 s fun s=>
 F 3 0 1 s fun u1=>
 L 4 9 3 true u1 fun u2=>
 C0 Tryz.prog 32 [(u2.τ 4)] 5 u2 fun u3=>
 @sChk (compat (cfp 5 32 [(u2.τ 4)]) (occ (u3.τ 1),[])) <| .mk <|
 F 6 9 1 u3 fun u4=>
 @sChk (compat (cfp 5 32 [(u2.τ 4)]) (occ (u4.τ 6),[])) <| .mk <|
 L 7 1 6 false u4 fun u5=>
 C0 Tryz.prog 33 [(u5.τ 7)] 8 u5 fun u6=>
 @sChk (compat (cfp 5 32 [(u2.τ 4)]) (occ (u6.τ 1),[])) <| .mk <|
 @sChk (compat (cfp 8 33 [(u5.τ 7)]) (occ (u6.τ 1),[])) <| .mk <|
 F 9 10 1 u6 fun u7=>
 @sChk (compat (cfp 5 32 [(u2.τ 4)]) (occ (u7.τ 9),[])) <| .mk <|
 @sChk (compat (cfp 8 33 [(u5.τ 7)]) (occ (u7.τ 9),[])) <| .mk <|
 L 10 1 9 false u7 fun u8=>
 C0 Tryz.prog 34 [(u8.τ 10),(.int .i64 0),(.int .i64 0)] 11 u8 fun u9=>
 @sChk (compat (cfp 8 33 [(u5.τ 7)]) (occ (u9.τ 1),[])) <| .mk <|
 @sChk (compat (cfp 11 34 [(u8.τ 10),(.int .i64 0),(.int .i64 0)]) (occ (u9.τ 1),[])) <| .mk <|
 F 12 0 1 u9 fun u10=>
 U 9 12 5 u10 fun u11=>
 F 13 9 1 u11 fun u12=>
 U 1 13 8 u12 fun u13=>
 F 14 10 1 u13 fun u14=>
 U 1 14 11 u14 fun s=>
 L 15 13 1 true s fun s=>
 U 13 2 15 s fun s=>
 Φ .ret s
theorem W41_rs (τ:Nat → AV) (H:Heap):resV Tryz.prog τ H [.cell 2 38] = rdV H 13 true (τ 2):=by kernel_rfl
theorem W41_eq:EqW Tryz.prog Tryz.f41 W41:=fun _ _=>by kernel_rfl
theorem W41_S:SpW Tryz.prog 41 16 [.cell 2 38] W41:=spW Tryz.func41 Tryz.ntmps41 W41_eq
-- 42 "penance/run.waiting"
def W42_b1 (Φ:EP) (s:St):Prop:=
 F 14 1 2 s fun s=>
 L 15 1 14 false s fun s=>
 M 16 1 s fun s=>
 B 17 .eql false 15 16 s fun s=>
 @sOp (some 4) (xMov (.nils) s.H) s<|.mk fun s=>
 M 5 17 s fun s=>
 Φ .ret s
def W42_b2 (Φ:EP) (s:St):Prop:=
 @sOp (some 4) (xMov (.nils) s.H) s<|.mk fun s=>
 V 5 false s fun s=>
 Φ .ret s
def W42_k3 (Φ:EP) (s:St):Prop:=
 @sOp (some 4) (xMov (.nils) s.H) s<|.mk fun s=>
 V 5 false s fun s=>
 Φ .ret s
def W42_b4 (Φ:EP) (L0:SP) (s:St):Prop:=
 M 54 6 s fun s=>
 @sOp (some 55) (xRow 55 3 1 1 [.int .i64 0] [(0,(s.τ 54))] s.H) s<|.mk fun s=>
 M 56 8 s fun s=>
 @sOp (some 57) (xApp Tryz.prog 3 1 8 (some 57) (s.τ 55) (s.τ 56) s.H) s<|.mk fun s=>
 M 4 57 s fun s=>
 V 5 true s fun s=>
 Φ .ret s
def W42_b5 (Φ:EP) (L0:SP) (s:St):Prop:=
 J 58 .add false 35 1 s fun s=>
 M 35 58 s fun s=>
 L0 s
def W42_b7 (Φ:EP) (L0:SP) (s:St):Prop:=
 L 48 9 7 true s fun s=>
 M 49 1 s fun s=>
 Ca Tryz.prog 42 [(s.τ 48),(s.τ 49)] 50 s fun s=>
 M 47 50 s fun s=>
 E 51 47 0 s fun s=>
 E 52 47 1 s fun s=>
 M 8 51 s fun s=>
 M 9 52 s fun s=>
 M 53 9 s fun s=>
 If 53 s (W42_b4 Φ L0 s) (W42_b5 Φ L0 s)
def W42_b11 (Φ:EP) (L0:SP) (s:St):Prop:=
 M 37 35 s fun s=>
 X 38 9 33 35 s fun s=>
 L 39 9 38 true s fun s=>
 Z 7 35 z9 s fun s=>
 M 6 37 s fun s=>
 U 9 7 39 s fun s=>
 M 40 6 s fun s=>
 J 41 .gtr false 40 0 s fun s=>
 M 42 41 s fun s=>
 gf 43 0 2 42 true s fun s=>
 gl 44 1 43 42 false true s fun s=>
 go 45 42 true s (fun s=>(xBin .eql false (s.τ 44) (.int .i64 12) s.H)) fun s=>
 A 46 42 45 s fun s=>
 If 46 s (W42_k3 Φ s) (W42_b7 Φ L0 s)
def W42_l12 (Φ:EP) (L0:SP) (s:St):Prop:=
 B 36 .lss false 35 34 s fun s=>
 If 36 s (W42_b11 Φ L0 s) (W42_k3 Φ s)
def W42_b13 (Φ:EP) (s:St):Prop:=
 F 32 8 2 s fun s=>
 L 33 1 32 false s fun s=>
 N 34 33 s fun s=>
 I 35 0 s fun s=>
 @sLoop s ⟨fun L0 s=>W42_l12 Φ L0 s⟩
def W42_b20 (Φ:EP) (s:St):Prop:=
 F 19 0 2 s fun s=>
 L 20 1 19 false s fun s=>
 J 21 .neq false 20 12 s fun s=>
 M 22 21 s fun s=>
 gf 23 0 2 22 true s fun s=>
 gl 24 1 23 22 false true s fun s=>
 go 25 22 true s (fun s=>(xBin .neq false (s.τ 24) (.int .i64 11) s.H)) fun s=>
 A 26 22 25 s fun s=>
 M 27 26 s fun s=>
 gf 28 0 2 27 true s fun s=>
 gl 29 1 28 27 false true s fun s=>
 go 30 27 true s (fun s=>(xBin .neq false (s.τ 29) (.int .i64 7) s.H)) fun s=>
 A 31 27 30 s fun s=>
 M 18 31 s fun s=>
 If 18 s (W42_b2 Φ s) (W42_b13 Φ s)
def W42 (Φ:EP) (s:St):Prop:=
 Y 2 35 0 s fun s=>
 @sOp (some 4) (xMov (.nils) s.H) s<|.mk fun s=>
 V 5 false s fun s=>
 F 11 0 2 s fun s=>
 L 12 1 11 false s fun s=>
 J 13 .eql false 12 14 s fun s=>
 M 10 13 s fun s=>
 If 10 s (W42_b1 Φ s) (W42_b20 Φ s)
theorem W42_rs (τ:Nat → AV) (H:Heap):resV Tryz.prog τ H [.tmp 4,.tmp 5] = ob (ob (some (τ 4)) fun v=>ob (ob (some (τ 5)) fun v=>ob (some []) fun vs=>some (v :: vs)) fun vs=>some (v :: vs)) fun vs=>some (.tup vs):=by kernel_rfl
theorem W42_eq:EqW Tryz.prog Tryz.f42 W42:=fun _ _=>by kernel_rfl
theorem W42_S:SpW Tryz.prog 42 59 [.tmp 4,.tmp 5] W42:=spW Tryz.func42 Tryz.ntmps42 W42_eq
-- 43 "penance/run.at"
def W43_k1 (Φ:EP) (s:St):Prop:=
 L 19 9 2 true s fun s=>
 U 9 4 19 s fun s=>
 Φ .ret s
def W43_b2 (Φ:EP) (L0:SP) (s:St):Prop:=
 X 11 1 7 9 s fun s=>
 L 12 1 11 false s fun s=>
 M 6 12 s fun s=>
 F 13 8 2 s fun s=>
 L 14 1 13 false s fun s=>
 M 15 6 s fun s=>
 X 16 9 14 15 s fun s=>
 L 17 9 16 true s fun s=>
 U 9 2 17 s fun s=>
 J 18 .add false 9 1 s fun s=>
 M 9 18 s fun s=>
 L0 s
def W43_l3 (Φ:EP) (L0:SP) (s:St):Prop:=
 B 10 .lss false 9 8 s fun s=>
 If 10 s (W43_b2 Φ L0 s) (W43_k1 Φ s)
def W43 (Φ:EP) (s:St):Prop:=
 Y 2 35 0 s fun s=>
 Z 4 35 z9 s fun s=>
 M 7 1 s fun s=>
 N 8 7 s fun s=>
 I 9 0 s fun s=>
 @sLoop s ⟨fun L0 s=>W43_l3 Φ L0 s⟩
theorem W43_rs (τ:Nat → AV) (H:Heap):resV Tryz.prog τ H [.cell 4 35] = rdV H 9 true (τ 4):=by kernel_rfl
theorem W43_eq:EqW Tryz.prog Tryz.f43 W43:=fun _ _=>by kernel_rfl
theorem W43_S:SpW Tryz.prog 43 20 [.cell 4 35] W43:=spW Tryz.func43 Tryz.ntmps43 W43_eq
-- 44 "penance/run.put"
def W44_b1 (Φ:EP) (s:St):Prop:=
 L 11 9 5 true s fun s=>
 U 9 6 11 s fun s=>
 Φ .ret s
def W44_b4 (Φ:EP) (s:St):Prop:=
 F 12 8 3 s fun s=>
 L 13 1 12 false s fun s=>
 Ca Tryz.prog 82 [(s.τ 13)] 14 s fun s=>
 M 7 14 s fun s=>
 M 15 7 s fun u1=>
 M 16 1 u1 fun u2=>
 @sOp (some 17) (xIx 1 (u2.τ 16) (.int .i64 0) u2.H) u2<|.mk fun u3=>
 L 18 1 17 false u3 fun u4=>
 M 19 7 u4 fun u5=>
 M 20 1 u5 fun u6=>
 @sOp (some 21) (xIx 1 (u6.τ 20) (.int .i64 0) u6.H) u6<|.mk fun u7=>
 L 22 1 21 false u7 fun u8=>
 X 23 9 19 22 u8 fun u9=>
 L 24 9 23 true u9 fun u10=>
 M 25 1 u10 fun u11=>
 @sOp (some 26) (xSlc 1 (u11.τ 25) (some (.int .i64 1)) none u11.H) u11<|.mk fun u12=>
 L 27 9 5 true u12 fun u13=>
 k3 (u2.τ 16) (cfp 28 44 [(u13.τ 24),(u13.τ 26),(u13.τ 27)]) <|
 k3 (u3.τ 17) (cfp 28 44 [(u13.τ 24),(u13.τ 26),(u13.τ 27)]) <|
 C0 Tryz.prog 44 [(u13.τ 24),(u13.τ 26),(u13.τ 27)] 28 u13 fun u14=>
 X 29 9 15 18 u14 fun u15=>
 U 9 29 28 u15 fun s=>
 M 30 7 s fun s=>
 F 31 8 3 s fun s=>
 U 1 31 30 s fun s=>
 L 32 9 3 true s fun s=>
 U 9 6 32 s fun s=>
 Φ .ret s
def W44 (Φ:EP) (s:St):Prop:=
 Y 3 35 0 s fun s=>
 Y 5 35 2 s fun s=>
 Z 6 35 z9 s fun s=>
 M 8 1 s fun s=>
 N 9 8 s fun s=>
 J 10 .eql false 9 0 s fun s=>
 If 10 s (W44_b1 Φ s) (W44_b4 Φ s)
theorem W44_rs (τ:Nat → AV) (H:Heap):resV Tryz.prog τ H [.cell 6 35] = rdV H 9 true (τ 6):=by kernel_rfl
theorem W44_eq:EqW Tryz.prog Tryz.f44 W44:=fun _ _=>by kernel_rfl
theorem W44_S:SpW Tryz.prog 44 33 [.cell 6 35] W44:=spW Tryz.func44 Tryz.ntmps44 W44_eq
-- 45 "penance/penanceref8.told"
def W45_b1 (Φ:EP) (s:St):Prop:=
 Bd 14 z9 [] s fun u1=>
 L 15 9 2 true u1 fun u2=>
 F 16 1 2 u2 fun u3=>
 L 17 1 16 false u3 fun u4=>
 M 18 1 u4 fun u5=>
 B 19 .eql false 17 18 u5 fun u6=>
 k3 (u1.τ 2) (occ (u6.τ 4),occ (u6.τ 4)) <|
 k3 (u2.τ 2) (occ (u6.τ 4),occ (u6.τ 4)) <|
 k3 (u3.τ 16) (occ (u6.τ 4),occ (u6.τ 4)) <|
 U 9 4 14 u6 fun u7=>
 k3 (u2.τ 2) (occ (u7.τ 5),occ (u7.τ 5)) <|
 k3 (u3.τ 16) (occ (u7.τ 5),occ (u7.τ 5)) <|
 U 9 5 15 u7 fun u8=>
 M 6 19 u8 fun s=>
 Φ .ret s
def W45_k2 (Φ:EP) (s:St):Prop:=
 L 44 9 2 true s fun s=>
 Bd 45 z9 [] s fun s=>
 U 9 4 44 s fun s=>
 U 9 5 45 s fun s=>
 V 6 false s fun s=>
 Φ .ret s
def W45_b4 (Φ:EP) (L0:SP) (s:St):Prop:=
 L 38 9 2 true s fun u1=>
 M 39 7 u1 fun u2=>
 k3 (s.τ 2) ([40] ++ occL [(u2.τ 39)],[40] ++ occL [(u2.τ 39)]) <|
 Lt 40 1 1 [.int .i64 0] [(0,(u2.τ 39))] u2 fun u3=>
 @sChk (compat ([40] ++ occL [(u2.τ 39)],[40] ++ occL [(u2.τ 39)]) (occ (u3.τ 8),[])) <| .mk <|
 L 41 9 8 true u3 fun u4=>
 C0 Tryz.prog 56 [(u4.τ 38),(u4.τ 40),(u4.τ 41)] 42 u4 fun u5=>
 @sChk (compat ([40] ++ occL [(u2.τ 39)],[40] ++ occL [(u2.τ 39)]) (occ (u5.τ 9),[])) <| .mk <|
 @sChk (compat (cfp 42 56 [(u4.τ 38),(u4.τ 40),(u4.τ 41)]) (occ (u5.τ 9),[])) <| .mk <|
 L 43 9 9 true u5 fun u6=>
 k3 (u5.τ 9) (occ (u6.τ 4),occ (u6.τ 4)) <|
 U 9 4 42 u6 fun u7=>
 U 9 5 43 u7 fun u8=>
 V 6 true u8 fun s=>
 Φ .ret s
def W45_b5 (Φ:EP) (L0:SP) (s:St):Prop:=
 M 24 7 s fun s=>
 J 25 .add false 24 1 s fun s=>
 M 7 25 s fun s=>
 L0 s
def W45_b7 (Φ:EP) (L0:SP) (s:St):Prop:=
 F 27 8 2 s fun s=>
 L 28 1 27 false s fun s=>
 M 29 7 s fun s=>
 X 30 9 28 29 s fun s=>
 L 31 9 30 true s fun s=>
 M 32 1 s fun s=>
 Ca Tryz.prog 45 [(s.τ 31),(s.τ 32)] 33 s fun s=>
 M 26 33 s fun s=>
 E 34 26 0 s fun s=>
 E 35 26 1 s fun s=>
 E 36 26 2 s fun s=>
 Z 8 35 z9 s fun s=>
 Z 9 35 z9 s fun s=>
 U 9 8 34 s fun s=>
 U 9 9 35 s fun s=>
 M 10 36 s fun s=>
 M 37 10 s fun s=>
 If 37 s (W45_b4 Φ L0 s) (W45_b5 Φ L0 s)
def W45_l9 (Φ:EP) (L0:SP) (s:St):Prop:=
 M 20 7 s fun s=>
 L 21 9 2 true s fun s=>
 Ca Tryz.prog 63 [(s.τ 21)] 22 s fun s=>
 B 23 .lss false 20 22 s fun s=>
 If 23 s (W45_b7 Φ L0 s) (W45_k2 Φ s)
def W45_b10 (Φ:EP) (s:St):Prop:=
 I 7 0 s fun s=>
 @sLoop s ⟨fun L0 s=>W45_l9 Φ L0 s⟩
def W45 (Φ:EP) (s:St):Prop:=
 Y 2 35 0 s fun s=>
 Z 4 35 z9 s fun s=>
 Z 5 35 z9 s fun s=>
 V 6 false s fun s=>
 F 11 0 2 s fun s=>
 L 12 1 11 false s fun s=>
 J 13 .eql false 12 14 s fun s=>
 If 13 s (W45_b1 Φ s) (W45_b10 Φ s)
theorem W45_rs (τ:Nat → AV) (H:Heap):resV Tryz.prog τ H [.cell 4 35,.cell 5 35,.tmp 6] = ob (ob (rdV H 9 true (τ 4)) fun v=>ob (ob (rdV H 9 true (τ 5)) fun v=>ob (ob (some (τ 6)) fun v=>ob (some []) fun vs=>some (v :: vs)) fun vs=>some (v :: vs)) fun vs=>some (v :: vs)) fun vs=>some (.tup vs):=by kernel_rfl
theorem W45_eq:EqW Tryz.prog Tryz.f45 W45:=fun _ _=>by kernel_rfl
theorem W45_S:SpW Tryz.prog 45 46 [.cell 4 35,.cell 5 35,.tmp 6] W45:=spW Tryz.func45 Tryz.ntmps45 W45_eq
-- 46 "penance/steps.Enabled"
def W46_k2 (Φ:EP) (J0:Nat → SP) (s:St):Prop:=
 L 42 1 3 false s fun s=>
 Ca Tryz.prog 84 [(s.τ 42)] 43 s fun s=>
 M 2 43 s fun s=>
 Φ .ret s
def W46_b4 (Φ:EP) (L0:SP) (s:St):Prop:=
 M 29 27 s fun s=>
 M 6 29 s fun s=>
 L 30 1 3 false s fun u1=>
 F 31 0 4 u1 fun u2=>
 F 32 0 31 u2 fun u3=>
 L 33 1 32 false u3 fun u4=>
 F 34 9 4 u4 fun u5=>
 L 35 1 34 false u5 fun u6=>
 k3 (s.τ 3) (cfp 36 33 [(u6.τ 35)]) <|
 k3 (u1.τ 4) (cfp 36 33 [(u6.τ 35)]) <|
 k3 (u2.τ 31) (cfp 36 33 [(u6.τ 35)]) <|
 k3 (u3.τ 32) (cfp 36 33 [(u6.τ 35)]) <|
 C0 Tryz.prog 33 [(u6.τ 35)] 36 u6 fun u7=>
 M 37 6 u7 fun u8=>
 Bd 38 [.int .i64 0,.nils,.int .i64 0] [(0,1,(u8.τ 33)),(1,1,(u8.τ 36)),(2,1,(u8.τ 37))] u8 fun u9=>
 k3 (s.τ 3) ([39] ++ occL [(u9.τ 38)],[39] ++ occL [(u9.τ 38)]) <|
 Lt 39 3 1 [.int .i64 0,.nils,.int .i64 0] [(0,(u9.τ 38))] u9 fun u10=>
 @sOp (some 40) (xApp Tryz.prog 60 3 40 (some 40) (u10.τ 30) (u10.τ 39) u10.H) u10<|.mk fun u11=>
 U 1 3 40 u11 fun s=>
 J 41 .add false 27 1 s fun s=>
 M 27 41 s fun s=>
 L0 s
def W46_l5 (Φ:EP) (L0:SP) (s:St):Prop:=
 B 28 .lss false 27 26 s fun s=>
 @sIf (s.τ 28) ⟨W46_b4 Φ L0 s⟩ ⟨Φ .normal s⟩
def W46_k6 (Φ:EP) (s:St):Prop:=
 M 26 5 s fun s=>
 I 27 0 s fun s=>
 @sLoop s ⟨fun L0 s=>W46_l5 Φ L0 s⟩
def W46_b7 (Φ:EP) (s:St):Prop:=
 F 22 10 4 s fun s=>
 L 23 1 22 false s fun s=>
 @sIf (s.τ 23) ⟨Φ .normal s⟩ ⟨W46_k6 Φ s⟩
def W46_b8 (Φ:EP) (s:St):Prop:=
 I 5 2 s fun s=>
 W46_k6 Φ s
def W46_b9 (Φ:EP) (s:St):Prop:=
 J 25 .eql false 13 10 s fun s=>
 M 24 25 s fun s=>
 If 24 s (W46_b8 Φ s) (W46_k6 Φ s)
def W46_b10 (Φ:EP) (s:St):Prop:=
 J 21 .eql false 13 8 s fun s=>
 M 20 21 s fun s=>
 If 20 s (W46_b7 Φ s) (W46_b9 Φ s)
def W46_k11 (Φ:EP) (s:St):Prop:=
 @sIf (s.τ 14) ⟨Φ .normal s⟩ ⟨W46_b10 Φ s⟩
def W46_b12 (Φ:EP) (s:St):Prop:=
 J 19 .eql false 13 7 s fun s=>
 M 14 19 s fun s=>
 W46_k11 Φ s
def W46_b13 (Φ:EP) (s:St):Prop:=
 J 18 .eql false 13 11 s fun s=>
 M 14 18 s fun s=>
 If 14 s (W46_k11 Φ s) (W46_b12 Φ s)
def W46_b14 (Φ:EP) (s:St):Prop:=
 J 17 .eql false 13 12 s fun s=>
 M 14 17 s fun s=>
 If 14 s (W46_k11 Φ s) (W46_b13 Φ s)
def W46_b15 (Φ:EP) (s:St):Prop:=
 J 16 .eql false 13 14 s fun s=>
 M 14 16 s fun s=>
 If 14 s (W46_k11 Φ s) (W46_b14 Φ s)
def W46_r16 (Φ:EP) (s:St):Prop:=
 Z 4 140 [.int .i64 0,.int .i64 0,.int .i64 0,.str ⟨#[]⟩,.int .i64 0,.int .i64 0,.str ⟨#[]⟩,.nils,.nils,.nils,.bool false] s fun s=>
 U 11 4 10 s fun s=>
 I 5 1 s fun s=>
 F 11 0 4 s fun s=>
 F 12 0 11 s fun s=>
 L 13 1 12 false s fun s=>
 J 15 .eql false 13 0 s fun s=>
 M 14 15 s fun s=>
 If 14 s (W46_k11 Φ s) (W46_b15 Φ s)
def W46_s19 (Φ:EP) (J0:Nat → SP) (s:St):Prop:=
 Z 3 56 [.nils] s fun s=>
 L 7 9 1 true s fun s=>
 Ca Tryz.prog 32 [(s.τ 7)] 8 s fun s=>
 Ca Tryz.prog 83 [(s.τ 8)] 9 s fun s=>
 @sRange Tryz.prog (s.τ 9) [10] s ⟨fun Φ s=>W46_r16 Φ s⟩ ⟨(blkK 0 (thenK (W46_k2 Φ J0) (gotoK J0 Φ)))⟩
def W46_k21 (Φ:EP) (J0:Nat → SP) (s:St):Prop:=
 L 42 1 3 false s fun s=>
 Ca Tryz.prog 84 [(s.τ 42)] 43 s fun s=>
 M 2 43 s fun s=>
 Φ .ret s
def W46_b23 (Φ:EP) (L0:SP) (s:St):Prop:=
 M 29 27 s fun s=>
 M 6 29 s fun s=>
 L 30 1 3 false s fun u1=>
 F 31 0 4 u1 fun u2=>
 F 32 0 31 u2 fun u3=>
 L 33 1 32 false u3 fun u4=>
 F 34 9 4 u4 fun u5=>
 L 35 1 34 false u5 fun u6=>
 k3 (s.τ 3) (cfp 36 33 [(u6.τ 35)]) <|
 k3 (u1.τ 4) (cfp 36 33 [(u6.τ 35)]) <|
 k3 (u2.τ 31) (cfp 36 33 [(u6.τ 35)]) <|
 k3 (u3.τ 32) (cfp 36 33 [(u6.τ 35)]) <|
 C0 Tryz.prog 33 [(u6.τ 35)] 36 u6 fun u7=>
 M 37 6 u7 fun u8=>
 Bd 38 [.int .i64 0,.nils,.int .i64 0] [(0,1,(u8.τ 33)),(1,1,(u8.τ 36)),(2,1,(u8.τ 37))] u8 fun u9=>
 k3 (s.τ 3) ([39] ++ occL [(u9.τ 38)],[39] ++ occL [(u9.τ 38)]) <|
 Lt 39 3 1 [.int .i64 0,.nils,.int .i64 0] [(0,(u9.τ 38))] u9 fun u10=>
 @sOp (some 40) (xApp Tryz.prog 60 3 40 (some 40) (u10.τ 30) (u10.τ 39) u10.H) u10<|.mk fun u11=>
 U 1 3 40 u11 fun s=>
 J 41 .add false 27 1 s fun s=>
 M 27 41 s fun s=>
 L0 s
def W46_l24 (Φ:EP) (L0:SP) (s:St):Prop:=
 B 28 .lss false 27 26 s fun s=>
 @sIf (s.τ 28) ⟨W46_b23 Φ L0 s⟩ ⟨Φ .normal s⟩
def W46_k25 (Φ:EP) (s:St):Prop:=
 M 26 5 s fun s=>
 I 27 0 s fun s=>
 @sLoop s ⟨fun L0 s=>W46_l24 Φ L0 s⟩
def W46_b26 (Φ:EP) (s:St):Prop:=
 F 22 10 4 s fun s=>
 L 23 1 22 false s fun s=>
 @sIf (s.τ 23) ⟨Φ .normal s⟩ ⟨W46_k25 Φ s⟩
def W46_b27 (Φ:EP) (s:St):Prop:=
 I 5 2 s fun s=>
 W46_k25 Φ s
def W46_b28 (Φ:EP) (s:St):Prop:=
 J 25 .eql false 13 10 s fun s=>
 M 24 25 s fun s=>
 If 24 s (W46_b27 Φ s) (W46_k25 Φ s)
def W46_b29 (Φ:EP) (s:St):Prop:=
 J 21 .eql false 13 8 s fun s=>
 M 20 21 s fun s=>
 If 20 s (W46_b26 Φ s) (W46_b28 Φ s)
def W46_k30 (Φ:EP) (s:St):Prop:=
 @sIf (s.τ 14) ⟨Φ .normal s⟩ ⟨W46_b29 Φ s⟩
def W46_b31 (Φ:EP) (s:St):Prop:=
 J 19 .eql false 13 7 s fun s=>
 M 14 19 s fun s=>
 W46_k30 Φ s
def W46_b32 (Φ:EP) (s:St):Prop:=
 J 18 .eql false 13 11 s fun s=>
 M 14 18 s fun s=>
 If 14 s (W46_k30 Φ s) (W46_b31 Φ s)
def W46_b33 (Φ:EP) (s:St):Prop:=
 J 17 .eql false 13 12 s fun s=>
 M 14 17 s fun s=>
 If 14 s (W46_k30 Φ s) (W46_b32 Φ s)
def W46_b34 (Φ:EP) (s:St):Prop:=
 J 16 .eql false 13 14 s fun s=>
 M 14 16 s fun s=>
 If 14 s (W46_k30 Φ s) (W46_b33 Φ s)
def W46_r35 (Φ:EP) (s:St):Prop:=
 Z 4 140 [.int .i64 0,.int .i64 0,.int .i64 0,.str ⟨#[]⟩,.int .i64 0,.int .i64 0,.str ⟨#[]⟩,.nils,.nils,.nils,.bool false] s fun s=>
 U 11 4 10 s fun s=>
 I 5 1 s fun s=>
 F 11 0 4 s fun s=>
 F 12 0 11 s fun s=>
 L 13 1 12 false s fun s=>
 J 15 .eql false 13 0 s fun s=>
 M 14 15 s fun s=>
 If 14 s (W46_k30 Φ s) (W46_b34 Φ s)
def W46_g38 (Φ:EP) (J0:Nat → SP) (s:St):Prop:=
 L 7 9 1 true s fun s=>
 Ca Tryz.prog 32 [(s.τ 7)] 8 s fun s=>
 Ca Tryz.prog 83 [(s.τ 8)] 9 s fun s=>
 @sRange Tryz.prog (s.τ 9) [10] s ⟨fun Φ s=>W46_r35 Φ s⟩ ⟨(blkK 0 (thenK (W46_k21 Φ J0) (gotoK J0 Φ)))⟩
def W46 (Φ:EP) (s:St):Prop:=
 Y 1 35 0 s fun s=>
 @sOp (some 2) (xMov (.nils) s.H) s<|.mk fun s=>
 @sScope s ⟨fun J0 s=>W46_s19 Φ J0 s⟩ ⟨[(0,fun J0 s=>W46_g38 Φ J0 s)]⟩
theorem W46_rs (τ:Nat → AV) (H:Heap):resV Tryz.prog τ H [.tmp 2] = some (τ 2):=by kernel_rfl
theorem W46_eq:EqW Tryz.prog Tryz.f46 W46:=fun _ _=>by kernel_rfl
theorem W46_S:SpW Tryz.prog 46 44 [.tmp 2] W46:=spW Tryz.func46 Tryz.ntmps46 W46_eq
-- 47 "penance/expr.Eval"
def W47_b1 (Φ:EP) (s:St):Prop:=
 F 12 1 2 s fun s=>
 L 13 1 12 false s fun s=>
 M 4 13 s fun s=>
 I 5 0 s fun s=>
 Φ .ret s
def W47_b2 (Φ:EP) (s:St):Prop:=
 I 4 0 s fun s=>
 I 5 0 s fun s=>
 Φ .ret s
def W47_b3 (Φ:EP) (s:St):Prop:=
 M 27 1 s fun s=>
 F 28 1 2 s fun s=>
 L 29 1 28 false s fun s=>
 X 30 1 27 29 s fun s=>
 L 31 1 30 false s fun s=>
 M 4 31 s fun s=>
 I 5 0 s fun s=>
 Φ .ret s
def W47_b9 (Φ:EP) (s:St):Prop:=
 F 17 1 2 s fun s=>
 L 18 1 17 false s fun s=>
 J 19 .lss false 18 0 s fun s=>
 M 20 19 s fun s=>
 gf 21 1 2 20 false s fun s=>
 gl 22 1 21 20 false false s fun s=>
 gm 23 1 20 false s fun s=>
 go 24 20 false s (fun s=>(xLen (s.τ 23) s.H)) fun s=>
 go 25 20 false s (fun s=>(xBin .geq false (s.τ 22) (s.τ 24) s.H)) fun s=>
 O 26 20 25 s fun s=>
 If 26 s (W47_b2 Φ s) (W47_b3 Φ s)
def W47_b10 (Φ:EP) (s:St):Prop:=
 I 4 0 s fun s=>
 I 5 0 s fun s=>
 Φ .ret s
def W47_b11 (Φ:EP) (s:St):Prop:=
 M 48 7 s fun s=>
 I 4 0 s fun s=>
 M 5 48 s fun s=>
 Φ .ret s
def W47_b13 (Φ:EP) (s:St):Prop:=
 M 53 6 s fun s=>
 J 54 .eql false 53 0 s fun s=>
 Ca Tryz.prog 85 [(s.τ 54)] 55 s fun s=>
 M 4 55 s fun s=>
 I 5 0 s fun s=>
 Φ .ret s
def W47_b15 (Φ:EP) (s:St):Prop:=
 M 60 6 s fun s=>
 Ca Tryz.prog 86 [(s.τ 60),(.int .i64 (-1))] 61 s fun s=>
 E 62 61 0 s fun s=>
 E 63 61 1 s fun s=>
 M 4 62 s fun s=>
 M 5 63 s fun s=>
 Φ .ret s
def W47_b16 (Φ:EP) (s:St):Prop:=
 I 4 0 s fun s=>
 I 5 0 s fun s=>
 Φ .ret s
def W47_b17 (Φ:EP) (s:St):Prop:=
 I 4 1 s fun s=>
 I 5 0 s fun s=>
 Φ .ret s
def W47_b18 (Φ:EP) (s:St):Prop:=
 I 4 0 s fun s=>
 I 5 0 s fun s=>
 Φ .ret s
def W47_b19 (Φ:EP) (s:St):Prop:=
 M 97 7 s fun s=>
 I 4 0 s fun s=>
 M 5 97 s fun s=>
 Φ .ret s
def W47_b21 (Φ:EP) (s:St):Prop:=
 M 107 8 s fun s=>
 J 108 .neq false 107 0 s fun s=>
 Ca Tryz.prog 85 [(s.τ 108)] 109 s fun s=>
 M 4 109 s fun s=>
 I 5 0 s fun s=>
 Φ .ret s
def W47_b23 (Φ:EP) (s:St):Prop:=
 F 110 0 2 s fun s=>
 L 111 1 110 false s fun s=>
 M 112 6 s fun s=>
 M 113 8 s fun s=>
 Ca Tryz.prog 87 [(s.τ 111),(s.τ 112),(s.τ 113)] 114 s fun s=>
 E 115 114 0 s fun s=>
 E 116 114 1 s fun s=>
 M 4 115 s fun s=>
 M 5 116 s fun s=>
 Φ .ret s
def W47_b27 (Φ:EP) (s:St):Prop:=
 F 99 0 2 s fun s=>
 L 100 1 99 false s fun s=>
 J 101 .eql false 100 16 s fun s=>
 M 102 101 s fun s=>
 gf 103 0 2 102 false s fun s=>
 gl 104 1 103 102 false false s fun s=>
 go 105 102 false s (fun s=>(xBin .eql false (s.τ 104) (.int .i64 17) s.H)) fun s=>
 O 106 102 105 s fun s=>
 M 98 106 s fun s=>
 If 98 s (W47_b21 Φ s) (W47_b23 Φ s)
def W47_b29 (Φ:EP) (s:St):Prop:=
 F 86 3 2 s fun s=>
 L 87 1 86 false s fun s=>
 @sOp (some 88) (xIx 4 (s.τ 87) (.int .i64 1) s.H) s<|.mk fun s=>
 L 89 4 88 true s fun s=>
 M 90 1 s fun s=>
 Ca Tryz.prog 47 [(s.τ 89),(s.τ 90)] 91 s fun s=>
 M 85 91 s fun s=>
 E 92 85 0 s fun s=>
 E 93 85 1 s fun s=>
 M 8 92 s fun s=>
 M 7 93 s fun s=>
 M 95 7 s fun s=>
 J 96 .neq false 95 0 s fun s=>
 M 94 96 s fun s=>
 If 94 s (W47_b19 Φ s) (W47_b27 Φ s)
def W47_b30 (Φ:EP) (s:St):Prop:=
 F 81 3 2 s fun s=>
 L 82 1 81 false s fun s=>
 N 83 82 s fun s=>
 J 84 .eql false 83 1 s fun s=>
 M 80 84 s fun s=>
 If 80 s (W47_b18 Φ s) (W47_b29 Φ s)
def W47_b33 (Φ:EP) (s:St):Prop:=
 F 73 0 2 s fun s=>
 L 74 1 73 false s fun s=>
 J 75 .eql false 74 17 s fun s=>
 M 76 75 s fun s=>
 gm 77 6 76 true s fun s=>
 go 78 76 true s (fun s=>(xBin .neq false (s.τ 77) (.int .i64 0) s.H)) fun s=>
 A 79 76 78 s fun s=>
 M 72 79 s fun s=>
 If 72 s (W47_b17 Φ s) (W47_b30 Φ s)
def W47_b36 (Φ:EP) (s:St):Prop:=
 F 65 0 2 s fun s=>
 L 66 1 65 false s fun s=>
 J 67 .eql false 66 16 s fun s=>
 M 68 67 s fun s=>
 gm 69 6 68 true s fun s=>
 go 70 68 true s (fun s=>(xBin .eql false (s.τ 69) (.int .i64 0) s.H)) fun s=>
 A 71 68 70 s fun s=>
 M 64 71 s fun s=>
 If 64 s (W47_b16 Φ s) (W47_b33 Φ s)
def W47_b37 (Φ:EP) (s:St):Prop:=
 F 57 0 2 s fun s=>
 L 58 1 57 false s fun s=>
 J 59 .eql false 58 4 s fun s=>
 M 56 59 s fun s=>
 If 56 s (W47_b15 Φ s) (W47_b36 Φ s)
def W47_b38 (Φ:EP) (s:St):Prop:=
 F 50 0 2 s fun s=>
 L 51 1 50 false s fun s=>
 J 52 .eql false 51 3 s fun s=>
 M 49 52 s fun s=>
 If 49 s (W47_b13 Φ s) (W47_b37 Φ s)
def W47_b40 (Φ:EP) (s:St):Prop:=
 F 37 3 2 s fun s=>
 L 38 1 37 false s fun s=>
 @sOp (some 39) (xIx 4 (s.τ 38) (.int .i64 0) s.H) s<|.mk fun s=>
 L 40 4 39 true s fun s=>
 M 41 1 s fun s=>
 Ca Tryz.prog 47 [(s.τ 40),(s.τ 41)] 42 s fun s=>
 M 36 42 s fun s=>
 E 43 36 0 s fun s=>
 E 44 36 1 s fun s=>
 M 6 43 s fun s=>
 M 7 44 s fun s=>
 M 46 7 s fun s=>
 J 47 .neq false 46 0 s fun s=>
 M 45 47 s fun s=>
 If 45 s (W47_b11 Φ s) (W47_b38 Φ s)
def W47_b41 (Φ:EP) (s:St):Prop:=
 F 32 3 2 s fun s=>
 L 33 1 32 false s fun s=>
 N 34 33 s fun s=>
 J 35 .eql false 34 0 s fun s=>
 If 35 s (W47_b10 Φ s) (W47_b40 Φ s)
def W47_b42 (Φ:EP) (s:St):Prop:=
 F 14 0 2 s fun s=>
 L 15 1 14 false s fun s=>
 J 16 .eql false 15 2 s fun s=>
 If 16 s (W47_b9 Φ s) (W47_b41 Φ s)
def W47 (Φ:EP) (s:St):Prop:=
 Y 2 33 0 s fun s=>
 I 4 0 s fun s=>
 I 5 0 s fun s=>
 F 9 0 2 s fun s=>
 L 10 1 9 false s fun s=>
 J 11 .eql false 10 1 s fun s=>
 If 11 s (W47_b1 Φ s) (W47_b42 Φ s)
theorem W47_rs (τ:Nat → AV) (H:Heap):resV Tryz.prog τ H [.tmp 4,.tmp 5] = ob (ob (some (τ 4)) fun v=>ob (ob (some (τ 5)) fun v=>ob (some []) fun vs=>some (v :: vs)) fun vs=>some (v :: vs)) fun vs=>some (.tup vs):=by kernel_rfl
theorem W47_eq:EqW Tryz.prog Tryz.f47 W47:=fun _ _=>by kernel_rfl
theorem W47_S:SpW Tryz.prog 47 117 [.tmp 4,.tmp 5] W47:=spW Tryz.func47 Tryz.ntmps47 W47_eq
-- 48 "penance/stacks.Push"
def W48_k1 (Φ:EP) (s:St):Prop:=
 M 24 7 s fun s=>
 M 6 24 s fun s=>
 Φ .ret s
def W48_b3 (Φ:EP) (s:St):Prop:=
 M 13 7 s fun u1=>
 M 14 1 u1 fun u2=>
 X 15 1 13 14 u2 fun u3=>
 L 16 1 15 false u3 fun u4=>
 L 17 9 5 true u4 fun u5=>
 k3 (u2.τ 13) (cfp 18 88 [(u5.τ 17)]) <|
 k3 (u3.τ 15) (cfp 18 88 [(u5.τ 17)]) <|
 C0 Tryz.prog 88 [(u5.τ 17)] 18 u5 fun u6=>
 @sChk (compat (cfp 18 88 [(u5.τ 17)]) (occ (u6.τ 16),[])) <| .mk <|
 N 19 16 u6 fun u7=>
 k3 (u2.τ 13) ([20] ++ occL [(.agg z9)],[20] ++ occL [(.agg z9)]) <|
 k3 (u3.τ 15) ([20] ++ occL [(.agg z9)],[20] ++ occL [(.agg z9)]) <|
 k3 (u4.τ 5) ([20] ++ occL [(.agg z9)],[20] ++ occL [(.agg z9)]) <|
 @sChk (compat (cfp 18 88 [(u5.τ 17)]) ([20] ++ occL [(.agg z9)],[20] ++ occL [(.agg z9)])) <| .mk <|
 k3 (u6.τ 16) ([20] ++ occL [(.agg z9)],[20] ++ occL [(.agg z9)]) <|
 Lt 20 9 1 z9 [(0,(.agg z9))] u7 fun u8=>
 @sOp (some 21) (xApp Tryz.prog 35 9 120 (some 21) (u8.τ 16) (u8.τ 20) u8.H) u8<|.mk fun u9=>
 X 22 9 21 19 u9 fun u10=>
 U 9 22 18 u10 fun u11=>
 @sChk (compat (occ (u10.τ 22),occ (u10.τ 22)) (occ (u11.τ 13),[])) <| .mk <|
 X 23 1 13 14 u11 fun u12=>
 k3 (u9.τ 21) (occ (u12.τ 23),occ (u12.τ 23)) <|
 @sChk (compat (occ (u10.τ 22),occ (u10.τ 22)) (occ (u12.τ 23),occ (u12.τ 23))) <| .mk <|
 U 1 23 21 u12 fun s=>
 W48_k1 Φ s
def W48 (Φ:EP) (s:St):Prop:=
 Y 5 35 2 s fun s=>
 @sOp (some 6) (xMov (.nils) s.H) s<|.mk fun s=>
 M 8 0 s fun s=>
 Ca Tryz.prog 77 [(s.τ 8)] 9 s fun s=>
 M 7 9 s fun s=>
 M 10 7 s fun s=>
 M 11 1 s fun s=>
 Ca Tryz.prog 78 [(s.τ 10),(s.τ 11)] 12 s fun s=>
 If 12 s (W48_b3 Φ s) (W48_k1 Φ s)
theorem W48_rs (τ:Nat → AV) (H:Heap):resV Tryz.prog τ H [.tmp 6] = some (τ 6):=by kernel_rfl
theorem W48_eq:EqW Tryz.prog Tryz.f48 W48:=fun _ _=>by kernel_rfl
theorem W48_S:SpW Tryz.prog 48 25 [.tmp 6] W48:=spW Tryz.func48 Tryz.ntmps48 W48_eq
-- 49 "penance/stacks.Reverse"
def W49_k2 (Φ:EP) (s:St):Prop:=
 L 32 9 6 true s fun u1=>
 M 33 0 u1 fun u2=>
 M 34 1 u2 fun u3=>
 k3 (s.τ 6) (cfp 35 50 [(u3.τ 33),(u3.τ 34)]) <|
 C0 Tryz.prog 50 [(u3.τ 33),(u3.τ 34)] 35 u3 fun u4=>
 U 9 4 32 u4 fun u5=>
 M 5 35 u5 fun s=>
 Φ .ret s
def W49_k3 (Φ:EP) (L0:SP) (s:St):Prop:=
 J 31 .add false 17 1 s fun s=>
 M 17 31 s fun s=>
 L0 s
def W49_b5 (Φ:EP) (L0:SP) (s:St):Prop:=
 L 24 9 8 true s fun s=>
 Ca Tryz.prog 88 [(s.τ 24)] 25 s fun s=>
 U 9 6 25 s fun s=>
 W49_k3 Φ L0 s
def W49_b7 (Φ:EP) (L0:SP) (s:St):Prop:=
 L 26 9 8 true s fun u1=>
 C0 Tryz.prog 88 [(u1.τ 26)] 27 u1 fun u2=>
 @sChk (compat (cfp 27 88 [(u1.τ 26)]) (occ (u2.τ 6),[])) <| .mk <|
 L 28 9 6 true u2 fun u3=>
 Lt 29 9 2 z9 [(0,(u3.τ 27)),(1,(u3.τ 28))] u3 fun u4=>
 Bd 30 z9 [(0,1,(.int .i64 12)),(8,1,(u4.τ 29))] u4 fun u5=>
 U 9 6 30 u5 fun s=>
 W49_k3 Φ L0 s
def W49_b8 (Φ:EP) (L0:SP) (s:St):Prop:=
 M 19 17 s fun s=>
 X 20 9 15 17 s fun s=>
 L 21 9 20 true s fun s=>
 Z 8 35 z9 s fun s=>
 M 7 19 s fun s=>
 U 9 8 21 s fun s=>
 M 22 7 s fun s=>
 J 23 .eql false 22 0 s fun s=>
 If 23 s (W49_b5 Φ L0 s) (W49_b7 Φ L0 s)
def W49_l9 (Φ:EP) (L0:SP) (s:St):Prop:=
 B 18 .lss false 17 16 s fun s=>
 If 18 s (W49_b8 Φ L0 s) (W49_k2 Φ s)
def W49_b10 (Φ:EP) (s:St):Prop:=
 M 12 0 s fun s=>
 M 13 1 s fun s=>
 X 14 1 12 13 s fun s=>
 L 15 1 14 false s fun s=>
 N 16 15 s fun s=>
 I 17 0 s fun s=>
 @sLoop s ⟨fun L0 s=>W49_l9 Φ L0 s⟩
def W49 (Φ:EP) (s:St):Prop:=
 Z 4 35 z9 s fun s=>
 @sOp (some 5) (xMov (.nils) s.H) s<|.mk fun s=>
 Z 6 35 z9 s fun s=>
 M 9 0 s fun s=>
 M 10 1 s fun s=>
 Ca Tryz.prog 78 [(s.τ 9),(s.τ 10)] 11 s fun s=>
 If 11 s (W49_b10 Φ s) (W49_k2 Φ s)
theorem W49_rs (τ:Nat → AV) (H:Heap):resV Tryz.prog τ H [.cell 4 35,.tmp 5] = ob (ob (rdV H 9 true (τ 4)) fun v=>ob (ob (some (τ 5)) fun v=>ob (some []) fun vs=>some (v :: vs)) fun vs=>some (v :: vs)) fun vs=>some (.tup vs):=by kernel_rfl
theorem W49_eq:EqW Tryz.prog Tryz.f49 W49:=fun _ _=>by kernel_rfl
theorem W49_S:SpW Tryz.prog 49 36 [.cell 4 35,.tmp 5] W49:=spW Tryz.func49 Tryz.ntmps49 W49_eq
-- 50 "penance/stacks.Accept"
def W50_k1 (Φ:EP) (s:St):Prop:=
 M 14 5 s fun s=>
 M 4 14 s fun s=>
 Φ .ret s
def W50_b2 (Φ:EP) (s:St):Prop:=
 M 11 5 s fun s=>
 M 12 1 s fun s=>
 X 13 1 11 12 s fun s=>
 @sOp none (xStore 1 (s.τ 13) (.nils) s.H) s<|.mk fun s=>
 W50_k1 Φ s
def W50 (Φ:EP) (s:St):Prop:=
 @sOp (some 4) (xMov (.nils) s.H) s<|.mk fun s=>
 M 6 0 s fun s=>
 Ca Tryz.prog 77 [(s.τ 6)] 7 s fun s=>
 M 5 7 s fun s=>
 M 8 5 s fun s=>
 M 9 1 s fun s=>
 Ca Tryz.prog 78 [(s.τ 8),(s.τ 9)] 10 s fun s=>
 If 10 s (W50_b2 Φ s) (W50_k1 Φ s)
theorem W50_rs (τ:Nat → AV) (H:Heap):resV Tryz.prog τ H [.tmp 4] = some (τ 4):=by kernel_rfl
theorem W50_eq:EqW Tryz.prog Tryz.f50 W50:=fun _ _=>by kernel_rfl
theorem W50_S:SpW Tryz.prog 50 15 [.tmp 4] W50:=spW Tryz.func50 Tryz.ntmps50 W50_eq
-- 51 "penance/run.block"
def W51_k1 (Φ:EP) (s:St):Prop:=
 M 27 5 s fun s=>
 M 4 27 s fun s=>
 Φ .ret s
def W51_k2 (Φ:EP) (L0:SP) (s:St):Prop:=
 F 21 8 2 s fun s=>
 L 22 1 21 false s fun s=>
 M 23 7 s fun s=>
 X 24 9 22 23 s fun s=>
 L 25 9 24 true s fun s=>
 U 9 2 25 s fun s=>
 J 26 .add false 10 1 s fun s=>
 M 10 26 s fun s=>
 L0 s
def W51_b3 (Φ:EP) (L0:SP) (s:St):Prop:=
 M 18 1 s fun s=>
 M 19 6 s fun s=>
 @sOp (some 20) (xSlc 1 (s.τ 18) none (some (s.τ 19)) s.H) s<|.mk fun s=>
 M 5 20 s fun s=>
 W51_k2 Φ L0 s
def W51_b4 (Φ:EP) (L0:SP) (s:St):Prop:=
 M 12 10 s fun s=>
 X 13 1 8 10 s fun s=>
 L 14 1 13 false s fun s=>
 M 6 12 s fun s=>
 M 7 14 s fun s=>
 F 15 0 2 s fun s=>
 L 16 1 15 false s fun s=>
 J 17 .eql false 16 7 s fun s=>
 If 17 s (W51_b3 Φ L0 s) (W51_k2 Φ L0 s)
def W51_l5 (Φ:EP) (L0:SP) (s:St):Prop:=
 B 11 .lss false 10 9 s fun s=>
 If 11 s (W51_b4 Φ L0 s) (W51_k1 Φ s)
def W51 (Φ:EP) (s:St):Prop:=
 Y 2 35 0 s fun s=>
 @sOp (some 4) (xMov (.nils) s.H) s<|.mk fun s=>
 @sOp (some 5) (xMov (.nils) s.H) s<|.mk fun s=>
 M 8 1 s fun s=>
 N 9 8 s fun s=>
 I 10 0 s fun s=>
 @sLoop s ⟨fun L0 s=>W51_l5 Φ L0 s⟩
theorem W51_rs (τ:Nat → AV) (H:Heap):resV Tryz.prog τ H [.tmp 4] = some (τ 4):=by kernel_rfl
theorem W51_eq:EqW Tryz.prog Tryz.f51 W51:=fun _ _=>by kernel_rfl
theorem W51_S:SpW Tryz.prog 51 28 [.tmp 4] W51:=spW Tryz.func51 Tryz.ntmps51 W51_eq
-- 52 "penance/stacks.Size"
def W52_k1 (Φ:EP) (s:St):Prop:=
 M 26 3 s fun s=>
 M 2 26 s fun s=>
 Φ .ret s
def W52_k2 (Φ:EP) (L0:SP) (s:St):Prop:=
 J 25 .add false 10 1 s fun s=>
 M 10 25 s fun s=>
 L0 s
def W52_b4 (Φ:EP) (L0:SP) (L1:SP) (s:St):Prop:=
 X 18 9 14 16 s fun s=>
 L 19 9 18 true s fun s=>
 Z 7 35 z9 s fun s=>
 U 9 7 19 s fun s=>
 M 20 3 s fun s=>
 L 21 9 7 true s fun s=>
 Ca Tryz.prog 38 [(s.τ 21)] 22 s fun s=>
 B 23 .add false 20 22 s fun s=>
 M 3 23 s fun s=>
 J 24 .add false 16 1 s fun s=>
 M 16 24 s fun s=>
 L1 s
def W52_l5 (Φ:EP) (L0:SP) (L1:SP) (s:St):Prop:=
 B 17 .lss false 16 15 s fun s=>
 If 17 s (W52_b4 Φ L0 L1 s) (W52_k2 Φ L0 s)
def W52_b6 (Φ:EP) (L0:SP) (s:St):Prop:=
 X 12 1 8 10 s fun s=>
 L 13 1 12 false s fun s=>
 M 5 13 s fun s=>
 M 14 5 s fun s=>
 N 15 14 s fun s=>
 I 16 0 s fun s=>
 @sLoop s ⟨fun L1 s=>W52_l5 Φ L0 L1 s⟩
def W52_l7 (Φ:EP) (L0:SP) (s:St):Prop:=
 B 11 .lss false 10 9 s fun s=>
 If 11 s (W52_b6 Φ L0 s) (W52_k1 Φ s)
def W52 (Φ:EP) (s:St):Prop:=
 I 2 0 s fun s=>
 I 3 0 s fun s=>
 M 8 0 s fun s=>
 N 9 8 s fun s=>
 I 10 0 s fun s=>
 @sLoop s ⟨fun L0 s=>W52_l7 Φ L0 s⟩
theorem W52_rs (τ:Nat → AV) (H:Heap):resV Tryz.prog τ H [.tmp 2] = some (τ 2):=by kernel_rfl
theorem W52_eq:EqW Tryz.prog Tryz.f52 W52:=fun _ _=>by kernel_rfl
theorem W52_S:SpW Tryz.prog 52 27 [.tmp 2] W52:=spW Tryz.func52 Tryz.ntmps52 W52_eq
-- 53 "penance/penanceref8.at"
def W53_k1 (Φ:EP) (s:St):Prop:=
 L 20 9 2 true s fun s=>
 U 9 4 20 s fun s=>
 Φ .ret s
def W53_b2 (Φ:EP) (L0:SP) (s:St):Prop:=
 F 12 8 2 s fun s=>
 L 13 1 12 false s fun s=>
 M 14 1 s fun s=>
 M 15 5 s fun s=>
 X 16 1 14 15 s fun s=>
 L 17 1 16 false s fun s=>
 X 18 9 13 17 s fun s=>
 L 19 9 18 true s fun s=>
 U 9 2 19 s fun s=>
 M 10 5 s fun s=>
 J 11 .add false 10 1 s fun s=>
 M 5 11 s fun s=>
 L0 s
def W53_l3 (Φ:EP) (L0:SP) (s:St):Prop:=
 M 6 5 s fun s=>
 M 7 1 s fun s=>
 N 8 7 s fun s=>
 B 9 .lss false 6 8 s fun s=>
 If 9 s (W53_b2 Φ L0 s) (W53_k1 Φ s)
def W53 (Φ:EP) (s:St):Prop:=
 Y 2 35 0 s fun s=>
 Z 4 35 z9 s fun s=>
 I 5 0 s fun s=>
 @sLoop s ⟨fun L0 s=>W53_l3 Φ L0 s⟩
theorem W53_rs (τ:Nat → AV) (H:Heap):resV Tryz.prog τ H [.cell 4 35] = rdV H 9 true (τ 4):=by kernel_rfl
theorem W53_eq:EqW Tryz.prog Tryz.f53 W53:=fun _ _=>by kernel_rfl
theorem W53_S:SpW Tryz.prog 53 21 [.cell 4 35] W53:=spW Tryz.func53 Tryz.ntmps53 W53_eq
end Go.Proofs.YtnngddgaobhkiaaGreat
set_option maxRecDepth 100000
namespace Go.Proofs.YtnngddgaobhkiaaGreat
open Go Go.Am
-- 54 "penance/penanceref8.one"
def W54_b1 (Φ:EP) (s:St):Prop:=
 M 18 1 s fun s=>
 @sOp (some 19) (xNil (s.τ 18) s.H) s<|.mk fun s=>
 F 20 12 19 s fun s=>
 L 21 1 20 false s fun s=>
 M 9 21 s fun s=>
 M 22 1 s fun s=>
 @sOp (some 23) (xNil (s.τ 22) s.H) s<|.mk fun s=>
 F 24 12 23 s fun s=>
 L 25 1 24 false s fun s=>
 J 26 .add false 25 1 s fun s=>
 @sOp (some 27) (xNil (s.τ 22) s.H) s<|.mk fun s=>
 F 28 12 27 s fun s=>
 U 1 28 26 s fun s=>
 M 29 9 s fun s=>
 F 30 1 6 s fun s=>
 L 31 1 30 false s fun s=>
 F 32 3 6 s fun s=>
 L 33 1 32 false s fun s=>
 Bd 34 z9 [(0,1,(.int .i64 14)),(1,1,(s.τ 29)),(2,1,(s.τ 31)),(3,1,(s.τ 33))] s fun s=>
 F 35 3 6 s fun s=>
 L 36 1 35 false s fun s=>
 M 37 9 s fun s=>
 Bd 38 z3 [(0,1,(s.τ 36)),(1,1,(s.τ 37))] s fun s=>
 Bd 39 z14 [(0,9,(s.τ 34)),(9,3,(s.τ 38)),(12,1,(.bool true))] s fun s=>
 U 14 8 39 s fun s=>
 Φ .ret s
def W54_k2 (Φ:EP) (s:St):Prop:=
 M 62 11 s fun s=>
 Bd 63 z14 [(13,1,(s.τ 62))] s fun s=>
 U 14 8 63 s fun s=>
 Φ .ret s
def W54_b3 (Φ:EP) (s:St):Prop:=
 M 54 1 s fun s=>
 @sOp (some 55) (xNil (s.τ 54) s.H) s<|.mk fun s=>
 F 56 9 55 s fun s=>
 L 57 1 56 false s fun s=>
 F 58 1 6 s fun s=>
 L 59 1 58 false s fun s=>
 M 60 10 s fun s=>
 X 61 1 57 59 s fun s=>
 U 1 61 60 s fun s=>
 W54_k2 Φ s
def W54_b5 (Φ:EP) (s:St):Prop:=
 F 43 4 6 s fun s=>
 L 44 4 43 true s fun s=>
 M 45 1 s fun s=>
 @sOp (some 46) (xNil (s.τ 45) s.H) s<|.mk fun s=>
 F 47 9 46 s fun s=>
 L 48 1 47 false s fun s=>
 C0 Tryz.prog 89 [(s.τ 44),(s.τ 48)] 49 s fun s=>
 M 42 49 s fun s=>
 E 50 42 0 s fun s=>
 E 51 42 1 s fun s=>
 M 10 50 s fun s=>
 M 11 51 s fun s=>
 M 52 11 s fun s=>
 J 53 .eql false 52 0 s fun s=>
 If 53 s (W54_b3 Φ s) (W54_k2 Φ s)
def W54_b6 (Φ:EP) (s:St):Prop:=
 F 78 8 6 s fun s=>
 L 79 1 78 false s fun s=>
 @sOp (some 80) (xIx 9 (s.τ 79) (.int .i64 0) s.H) s<|.mk fun s=>
 L 81 9 80 true s fun s=>
 M 82 13 s fun s=>
 Bd 83 z14 [(0,9,(s.τ 81)),(13,1,(s.τ 82))] s fun s=>
 U 14 8 83 s fun s=>
 Φ .ret s
def W54_b7 (Φ:EP) (s:St):Prop:=
 F 84 8 6 s fun s=>
 L 85 1 84 false s fun s=>
 @sOp (some 86) (xIx 9 (s.τ 85) (.int .i64 1) s.H) s<|.mk fun s=>
 L 87 9 86 true s fun s=>
 M 88 13 s fun s=>
 Bd 89 z14 [(0,9,(s.τ 87)),(13,1,(s.τ 88))] s fun s=>
 U 14 8 89 s fun s=>
 Φ .ret s
def W54_b9 (Φ:EP) (s:St):Prop:=
 F 67 4 6 s fun s=>
 L 68 4 67 true s fun s=>
 M 69 1 s fun s=>
 @sOp (some 70) (xNil (s.τ 69) s.H) s<|.mk fun s=>
 F 71 9 70 s fun s=>
 L 72 1 71 false s fun s=>
 C0 Tryz.prog 89 [(s.τ 68),(s.τ 72)] 73 s fun s=>
 M 66 73 s fun s=>
 E 74 66 0 s fun s=>
 E 75 66 1 s fun s=>
 M 12 74 s fun s=>
 M 13 75 s fun s=>
 M 76 12 s fun s=>
 J 77 .neq false 76 0 s fun s=>
 If 77 s (W54_b6 Φ s) (W54_b7 Φ s)
def W54_b10 (Φ:EP) (s:St):Prop:=
 F 92 8 6 s fun s=>
 L 93 1 92 false s fun s=>
 M 94 3 s fun s=>
 X 95 9 93 94 s fun s=>
 L 96 9 95 true s fun s=>
 Bd 97 z14 [(0,9,(s.τ 96))] s fun s=>
 U 14 8 97 s fun s=>
 Φ .ret s
def W54_b11 (Φ:EP) (s:St):Prop:=
 F 100 2 4 s fun s=>
 L 101 1 100 false s fun s=>
 F 102 1 6 s fun s=>
 L 103 1 102 false s fun s=>
 X 104 9 101 103 s fun s=>
 L 105 9 104 true s fun s=>
 Bd 106 z14 [(0,9,(s.τ 105))] s fun s=>
 U 14 8 106 s fun s=>
 Φ .ret s
def W54_b12 (Φ:EP) (s:St):Prop:=
 Bd 109 z14 [] s fun s=>
 U 14 8 109 s fun s=>
 Φ .ret s
def W54_b14 (Φ:EP) (s:St):Prop:=
 M 110 1 s fun s=>
 L 111 9 6 true s fun s=>
 Ca Tryz.prog 90 [(s.τ 110),(s.τ 111)] 112 s fun s=>
 Bd 113 z14 [(0,9,(s.τ 112))] s fun s=>
 U 14 8 113 s fun s=>
 Φ .ret s
def W54_b15 (Φ:EP) (s:St):Prop:=
 J 108 .eql false 15 8 s fun s=>
 M 107 108 s fun s=>
 If 107 s (W54_b12 Φ s) (W54_b14 Φ s)
def W54_b16 (Φ:EP) (s:St):Prop:=
 J 99 .eql false 15 13 s fun s=>
 M 98 99 s fun s=>
 If 98 s (W54_b11 Φ s) (W54_b15 Φ s)
def W54_b17 (Φ:EP) (s:St):Prop:=
 J 91 .eql false 15 10 s fun s=>
 M 90 91 s fun s=>
 If 90 s (W54_b10 Φ s) (W54_b16 Φ s)
def W54_b18 (Φ:EP) (s:St):Prop:=
 J 65 .eql false 15 9 s fun s=>
 M 64 65 s fun s=>
 If 64 s (W54_b9 Φ s) (W54_b17 Φ s)
def W54_b19 (Φ:EP) (s:St):Prop:=
 J 41 .eql false 15 2 s fun s=>
 M 40 41 s fun s=>
 If 40 s (W54_b5 Φ s) (W54_b18 Φ s)
def W54 (Φ:EP) (s:St):Prop:=
 Y 4 29 0 s fun s=>
 Y 6 35 2 s fun s=>
 Z 8 107 z14 s fun s=>
 F 14 0 6 s fun s=>
 L 15 1 14 false s fun s=>
 J 17 .eql false 15 1 s fun s=>
 M 16 17 s fun s=>
 If 16 s (W54_b1 Φ s) (W54_b19 Φ s)
theorem W54_rs (τ:Nat → AV) (H:Heap):resV Tryz.prog τ H [.cell 8 107] = rdV H 14 true (τ 8):=by kernel_rfl
theorem W54_eq:EqW Tryz.prog Tryz.f54 W54:=fun _ _=>by kernel_rfl
theorem W54_S:SpW Tryz.prog 54 114 [.cell 8 107] W54:=spW Tryz.func54 Tryz.ntmps54 W54_eq
-- 55 "penance/penanceref8.out"
def W55_k1 (Φ:EP) (s:St):Prop:=
 M 25 5 s fun s=>
 M 4 25 s fun s=>
 Φ .ret s
def W55_k2 (Φ:EP) (L0:SP) (s:St):Prop:=
 F 17 8 2 s fun s=>
 L 18 1 17 false s fun s=>
 M 19 1 s fun s=>
 M 20 6 s fun s=>
 X 21 1 19 20 s fun s=>
 L 22 1 21 false s fun s=>
 X 23 9 18 22 s fun s=>
 L 24 9 23 true s fun s=>
 U 9 2 24 s fun s=>
 M 11 6 s fun s=>
 J 12 .add false 11 1 s fun s=>
 M 6 12 s fun s=>
 L0 s
def W55_b3 (Φ:EP) (L0:SP) (s:St):Prop:=
 M 16 6 s fun s=>
 M 5 16 s fun s=>
 W55_k2 Φ L0 s
def W55_b4 (Φ:EP) (L0:SP) (s:St):Prop:=
 F 13 0 2 s fun s=>
 L 14 1 13 false s fun s=>
 J 15 .eql false 14 7 s fun s=>
 If 15 s (W55_b3 Φ L0 s) (W55_k2 Φ L0 s)
def W55_l5 (Φ:EP) (L0:SP) (s:St):Prop:=
 M 7 6 s fun s=>
 M 8 1 s fun s=>
 N 9 8 s fun s=>
 B 10 .lss false 7 9 s fun s=>
 If 10 s (W55_b4 Φ L0 s) (W55_k1 Φ s)
def W55 (Φ:EP) (s:St):Prop:=
 Y 2 35 0 s fun s=>
 I 4 0 s fun s=>
 I 5 0 s fun s=>
 I 6 0 s fun s=>
 @sLoop s ⟨fun L0 s=>W55_l5 Φ L0 s⟩
theorem W55_rs (τ:Nat → AV) (H:Heap):resV Tryz.prog τ H [.tmp 4] = some (τ 4):=by kernel_rfl
theorem W55_eq:EqW Tryz.prog Tryz.f55 W55:=fun _ _=>by kernel_rfl
theorem W55_S:SpW Tryz.prog 55 26 [.tmp 4] W55:=spW Tryz.func55 Tryz.ntmps55 W55_eq
-- 56 "penance/penanceref8.put"
def W56_b1 (Φ:EP) (s:St):Prop:=
 L 11 9 5 true s fun s=>
 U 9 6 11 s fun s=>
 Φ .ret s
def W56_b3 (Φ:EP) (s:St):Prop:=
 L 12 9 3 true s fun s=>
 Z 7 35 z9 s fun s=>
 U 9 7 12 s fun s=>
 @sOp (some 13) (xRow 13 35 9 0 z9 [] s.H) s<|.mk fun s=>
 F 14 8 3 s fun s=>
 L 15 1 14 false s fun s=>
 @sOp (some 16) (xApp Tryz.prog 35 9 120 (some 16) (s.τ 13) (s.τ 15) s.H) s<|.mk fun s=>
 F 17 8 7 s fun s=>
 U 1 17 16 s fun s=>
 F 18 8 7 s fun u1=>
 L 19 1 18 false u1 fun u2=>
 M 20 1 u2 fun u3=>
 @sOp (some 21) (xIx 1 (u3.τ 20) (.int .i64 0) u3.H) u3<|.mk fun u4=>
 L 22 1 21 false u4 fun u5=>
 F 23 8 3 u5 fun u6=>
 L 24 1 23 false u6 fun u7=>
 M 25 1 u7 fun u8=>
 @sOp (some 26) (xIx 1 (u8.τ 25) (.int .i64 0) u8.H) u8<|.mk fun u9=>
 L 27 1 26 false u9 fun u10=>
 X 28 9 24 27 u10 fun u11=>
 L 29 9 28 true u11 fun u12=>
 M 30 1 u12 fun u13=>
 @sOp (some 31) (xSlc 1 (u13.τ 30) (some (.int .i64 1)) none u13.H) u13<|.mk fun u14=>
 L 32 9 5 true u14 fun u15=>
 k3 (s.τ 7) (cfp 33 56 [(u15.τ 29),(u15.τ 31),(u15.τ 32)]) <|
 k3 (u1.τ 18) (cfp 33 56 [(u15.τ 29),(u15.τ 31),(u15.τ 32)]) <|
 k3 (u3.τ 20) (cfp 33 56 [(u15.τ 29),(u15.τ 31),(u15.τ 32)]) <|
 k3 (u4.τ 21) (cfp 33 56 [(u15.τ 29),(u15.τ 31),(u15.τ 32)]) <|
 C0 Tryz.prog 56 [(u15.τ 29),(u15.τ 31),(u15.τ 32)] 33 u15 fun u16=>
 X 34 9 19 22 u16 fun u17=>
 U 9 34 33 u17 fun s=>
 L 35 9 7 true s fun s=>
 U 9 6 35 s fun s=>
 Φ .ret s
def W56 (Φ:EP) (s:St):Prop:=
 Y 3 35 0 s fun s=>
 Y 5 35 2 s fun s=>
 Z 6 35 z9 s fun s=>
 M 8 1 s fun s=>
 N 9 8 s fun s=>
 J 10 .eql false 9 0 s fun s=>
 If 10 s (W56_b1 Φ s) (W56_b3 Φ s)
theorem W56_rs (τ:Nat → AV) (H:Heap):resV Tryz.prog τ H [.cell 6 35] = rdV H 9 true (τ 6):=by kernel_rfl
theorem W56_eq:EqW Tryz.prog Tryz.f56 W56:=fun _ _=>by kernel_rfl
theorem W56_S:SpW Tryz.prog 56 36 [.cell 6 35] W56:=spW Tryz.func56 Tryz.ntmps56 W56_eq
-- 57 "penance/penanceref5.Size"
def W57_k1 (Φ:EP) (s:St):Prop:=
 M 20 3 s fun s=>
 M 2 20 s fun s=>
 Φ .ret s
def W57_b3 (Φ:EP) (L0:SP) (s:St):Prop:=
 M 12 3 s fun s=>
 F 13 8 1 s fun s=>
 L 14 1 13 false s fun s=>
 M 15 4 s fun s=>
 X 16 9 14 15 s fun s=>
 L 17 9 16 true s fun s=>
 Ca Tryz.prog 57 [(s.τ 17)] 18 s fun s=>
 B 19 .add false 12 18 s fun s=>
 M 3 19 s fun s=>
 M 10 4 s fun s=>
 J 11 .add false 10 1 s fun s=>
 M 4 11 s fun s=>
 L0 s
def W57_l4 (Φ:EP) (L0:SP) (s:St):Prop:=
 M 5 4 s fun s=>
 F 6 8 1 s fun s=>
 L 7 1 6 false s fun s=>
 N 8 7 s fun s=>
 B 9 .lss false 5 8 s fun s=>
 If 9 s (W57_b3 Φ L0 s) (W57_k1 Φ s)
def W57 (Φ:EP) (s:St):Prop:=
 Y 1 35 0 s fun s=>
 I 2 0 s fun s=>
 I 3 1 s fun s=>
 I 4 0 s fun s=>
 @sLoop s ⟨fun L0 s=>W57_l4 Φ L0 s⟩
theorem W57_rs (τ:Nat → AV) (H:Heap):resV Tryz.prog τ H [.tmp 2] = some (τ 2):=by kernel_rfl
theorem W57_eq:EqW Tryz.prog Tryz.f57 W57:=fun _ _=>by kernel_rfl
theorem W57_S:SpW Tryz.prog 57 21 [.tmp 2] W57:=spW Tryz.func57 Tryz.ntmps57 W57_eq
-- 58 "penance/penanceref6.Size"
def W58_k1 (Φ:EP) (s:St):Prop:=
 M 31 3 s fun s=>
 M 2 31 s fun s=>
 Φ .ret s
def W58_k2 (Φ:EP) (L0:SP) (s:St):Prop:=
 M 10 4 s fun s=>
 J 11 .add false 10 1 s fun s=>
 M 4 11 s fun s=>
 L0 s
def W58_b4 (Φ:EP) (L0:SP) (L1:SP) (s:St):Prop:=
 M 21 3 s fun s=>
 M 22 0 s fun s=>
 M 23 4 s fun s=>
 X 24 1 22 23 s fun s=>
 L 25 1 24 false s fun s=>
 M 26 5 s fun s=>
 X 27 9 25 26 s fun s=>
 L 28 9 27 true s fun s=>
 Ca Tryz.prog 57 [(s.τ 28)] 29 s fun s=>
 B 30 .add false 21 29 s fun s=>
 M 3 30 s fun s=>
 M 19 5 s fun s=>
 J 20 .add false 19 1 s fun s=>
 M 5 20 s fun s=>
 L1 s
def W58_l5 (Φ:EP) (L0:SP) (L1:SP) (s:St):Prop:=
 M 12 5 s fun s=>
 M 13 0 s fun s=>
 M 14 4 s fun s=>
 X 15 1 13 14 s fun s=>
 L 16 1 15 false s fun s=>
 N 17 16 s fun s=>
 B 18 .lss false 12 17 s fun s=>
 If 18 s (W58_b4 Φ L0 L1 s) (W58_k2 Φ L0 s)
def W58_b6 (Φ:EP) (L0:SP) (s:St):Prop:=
 I 5 0 s fun s=>
 @sLoop s ⟨fun L1 s=>W58_l5 Φ L0 L1 s⟩
def W58_l7 (Φ:EP) (L0:SP) (s:St):Prop:=
 M 6 4 s fun s=>
 M 7 0 s fun s=>
 N 8 7 s fun s=>
 B 9 .lss false 6 8 s fun s=>
 If 9 s (W58_b6 Φ L0 s) (W58_k1 Φ s)
def W58 (Φ:EP) (s:St):Prop:=
 I 2 0 s fun s=>
 I 3 0 s fun s=>
 I 4 0 s fun s=>
 @sLoop s ⟨fun L0 s=>W58_l7 Φ L0 s⟩
theorem W58_rs (τ:Nat → AV) (H:Heap):resV Tryz.prog τ H [.tmp 2] = some (τ 2):=by kernel_rfl
theorem W58_eq:EqW Tryz.prog Tryz.f58 W58:=fun _ _=>by kernel_rfl
theorem W58_S:SpW Tryz.prog 58 32 [.tmp 2] W58:=spW Tryz.func58 Tryz.ntmps58 W58_eq
-- 62 "penance/penanceref7.enabled"
def W62_b1 (Φ:EP) (s:St):Prop:=
 L 51 3 7 true s fun s=>
 Lt 52 3 1 [.int .i64 0,.nils,.int .i64 0] [(0,(s.τ 51))] s fun s=>
 M 6 52 s fun s=>
 Φ .ret s
def W62_k2 (Φ:EP) (s:St):Prop:=
 M 74 9 s fun s=>
 M 6 74 s fun s=>
 Φ .ret s
def W62_b4 (Φ:EP) (L0:SP) (s:St):Prop:=
 M 59 9 s fun u1=>
 F 60 8 3 u1 fun u2=>
 L 61 1 60 false u2 fun u3=>
 M 62 10 u3 fun u4=>
 X 63 9 61 62 u4 fun u5=>
 L 64 9 63 true u5 fun u6=>
 k3 (u1.τ 3) ([65] ++ occL [],[65] ++ occL []) <|
 k3 (u2.τ 60) ([65] ++ occL [],[65] ++ occL []) <|
 k3 (u4.τ 61) ([65] ++ occL [],[65] ++ occL []) <|
 k3 (u5.τ 63) ([65] ++ occL [],[65] ++ occL []) <|
 @sOp (some 65) (xRow 65 3 1 0 [.int .i64 0] [] u6.H) u6<|.mk fun u7=>
 M 66 1 u7 fun u8=>
 k3 (u1.τ 3) ([67] ++ (occ (u8.τ 65) ++ occ (u8.τ 66)),[67] ++ occ (u8.τ 65)) <|
 k3 (u2.τ 60) ([67] ++ (occ (u8.τ 65) ++ occ (u8.τ 66)),[67] ++ occ (u8.τ 65)) <|
 k3 (u4.τ 61) ([67] ++ (occ (u8.τ 65) ++ occ (u8.τ 66)),[67] ++ occ (u8.τ 65)) <|
 k3 (u5.τ 63) ([67] ++ (occ (u8.τ 65) ++ occ (u8.τ 66)),[67] ++ occ (u8.τ 65)) <|
 @sOp (some 67) (xApp Tryz.prog 3 1 8 (some 67) (u8.τ 65) (u8.τ 66) u8.H) u8<|.mk fun u9=>
 M 68 10 u9 fun u10=>
 k3 (u1.τ 3) ([69] ++ occL [(u10.τ 68)],[69] ++ occL [(u10.τ 68)]) <|
 k3 (u2.τ 60) ([69] ++ occL [(u10.τ 68)],[69] ++ occL [(u10.τ 68)]) <|
 k3 (u4.τ 61) ([69] ++ occL [(u10.τ 68)],[69] ++ occL [(u10.τ 68)]) <|
 k3 (u5.τ 63) ([69] ++ occL [(u10.τ 68)],[69] ++ occL [(u10.τ 68)]) <|
 @sChk (compat ([65] ++ occL [],[65] ++ occL []) ([69] ++ occL [(u10.τ 68)],[69] ++ occL [(u10.τ 68)])) <| .mk <|
 @sChk (compat ([67] ++ (occ (u8.τ 65) ++ occ (u8.τ 66)),[67] ++ occ (u8.τ 65)) ([69] ++ occL [(u10.τ 68)],[69] ++ occL [(u10.τ 68)])) <| .mk <|
 Lt 69 1 1 [.int .i64 0] [(0,(u10.τ 68))] u10 fun u11=>
 k3 (u1.τ 3) ([70] ++ (occ (u11.τ 67) ++ occ (u11.τ 69)),[70] ++ occ (u11.τ 67)) <|
 k3 (u2.τ 60) ([70] ++ (occ (u11.τ 67) ++ occ (u11.τ 69)),[70] ++ occ (u11.τ 67)) <|
 k3 (u4.τ 61) ([70] ++ (occ (u11.τ 67) ++ occ (u11.τ 69)),[70] ++ occ (u11.τ 67)) <|
 k3 (u5.τ 63) ([70] ++ (occ (u11.τ 67) ++ occ (u11.τ 69)),[70] ++ occ (u11.τ 67)) <|
 @sOp (some 70) (xApp Tryz.prog 3 1 8 (some 70) (u11.τ 67) (u11.τ 69) u11.H) u11<|.mk fun u12=>
 M 71 2 u12 fun u13=>
 C0 Tryz.prog 62 [(u13.τ 64),(u13.τ 70),(u13.τ 71)] 72 u13 fun u14=>
 @sOp (some 73) (xApp Tryz.prog 60 3 40 (some 73) (u14.τ 59) (u14.τ 72) u14.H) u14<|.mk fun u15=>
 M 9 73 u15 fun s=>
 M 57 10 s fun s=>
 J 58 .add false 57 1 s fun s=>
 M 10 58 s fun s=>
 L0 s
def W62_l6 (Φ:EP) (L0:SP) (s:St):Prop:=
 M 53 10 s fun s=>
 L 54 9 3 true s fun s=>
 Ca Tryz.prog 63 [(s.τ 54)] 55 s fun s=>
 B 56 .lss false 53 55 s fun s=>
 If 56 s (W62_b4 Φ L0 s) (W62_k2 Φ s)
def W62_b7 (Φ:EP) (s:St):Prop:=
 @sOp (some 9) (xMov (.nils) s.H) s<|.mk fun s=>
 I 10 0 s fun s=>
 @sLoop s ⟨fun L0 s=>W62_l6 Φ L0 s⟩
def W62_k9 (Φ:EP) (s:St):Prop:=
 L 48 9 3 true s fun s=>
 Ca Tryz.prog 63 [(s.τ 48)] 49 s fun s=>
 J 50 .eql false 49 0 s fun s=>
 If 50 s (W62_b1 Φ s) (W62_b7 Φ s)
def W62_b10 (Φ:EP) (s:St):Prop:=
 @sOp (some 6) (xMov (.nils) s.H) s<|.mk fun s=>
 Φ .ret s
def W62_b11 (Φ:EP) (s:St):Prop:=
 F 24 0 3 s fun u1=>
 L 25 1 24 false u1 fun u2=>
 k3 (s.τ 3) ([26] ++ occL [],[26] ++ occL []) <|
 k3 (u1.τ 24) ([26] ++ occL [],[26] ++ occL []) <|
 @sOp (some 26) (xRow 26 3 1 0 [.int .i64 0] [] u2.H) u2<|.mk fun u3=>
 M 27 1 u3 fun u4=>
 k3 (s.τ 3) ([28] ++ (occ (u4.τ 26) ++ occ (u4.τ 27)),[28] ++ occ (u4.τ 26)) <|
 k3 (u1.τ 24) ([28] ++ (occ (u4.τ 26) ++ occ (u4.τ 27)),[28] ++ occ (u4.τ 26)) <|
 @sOp (some 28) (xApp Tryz.prog 3 1 8 (some 28) (u4.τ 26) (u4.τ 27) u4.H) u4<|.mk fun u5=>
 Bd 29 [.int .i64 0,.nils,.int .i64 0] [(0,1,(u5.τ 25)),(1,1,(u5.τ 28)),(2,1,(.int .i64 1))] u5 fun u6=>
 k1 (s.τ 3) 8 <|
 k1 (u1.τ 24) 8 <|
 k2 ([26] ++ occL [],[26] ++ occL []) 8 <|
 k2 ([28] ++ (occ (u4.τ 26) ++ occ (u4.τ 27)),[28] ++ occ (u4.τ 26)) 8 <|
 Z 8 60 [.int .i64 0,.nils,.int .i64 0] u6 fun u7=>
 U 3 8 29 u7 fun s=>
 L 30 3 7 true s fun s=>
 L 31 3 8 true s fun s=>
 Lt 32 3 2 [.int .i64 0,.nils,.int .i64 0] [(0,(s.τ 30)),(1,(s.τ 31))] s fun s=>
 M 6 32 s fun s=>
 Φ .ret s
def W62_b12 (Φ:EP) (s:St):Prop:=
 @sOp (some 6) (xMov (.nils) s.H) s<|.mk fun s=>
 Φ .ret s
def W62_b13 (Φ:EP) (s:St):Prop:=
 L 37 3 7 true s fun s=>
 Lt 38 3 1 [.int .i64 0,.nils,.int .i64 0] [(0,(s.τ 37))] s fun s=>
 M 6 38 s fun s=>
 Φ .ret s
def W62_b14 (Φ:EP) (s:St):Prop:=
 M 35 2 s fun s=>
 Q 36 35 s fun s=>
 If 36 s (W62_b12 Φ s) (W62_b13 Φ s)
def W62_b16 (Φ:EP) (s:St):Prop:=
 F 41 8 3 s fun s=>
 L 42 1 41 false s fun s=>
 @sOp (some 43) (xIx 9 (s.τ 42) (.int .i64 0) s.H) s<|.mk fun s=>
 L 44 9 43 true s fun s=>
 Ca Tryz.prog 26 [(s.τ 44)] 45 s fun s=>
 N 46 45 s fun s=>
 J 47 .eql false 46 0 s fun s=>
 M 2 47 s fun s=>
 W62_k9 Φ s
def W62_b17 (Φ:EP) (s:St):Prop:=
 J 40 .eql false 18 7 s fun s=>
 M 39 40 s fun s=>
 If 39 s (W62_b16 Φ s) (W62_k9 Φ s)
def W62_b18 (Φ:EP) (s:St):Prop:=
 J 34 .eql false 18 8 s fun s=>
 M 33 34 s fun s=>
 If 33 s (W62_b14 Φ s) (W62_b17 Φ s)
def W62_b19 (Φ:EP) (s:St):Prop:=
 J 23 .eql false 18 10 s fun s=>
 M 22 23 s fun s=>
 If 22 s (W62_b11 Φ s) (W62_b18 Φ s)
def W62_k20 (Φ:EP) (s:St):Prop:=
 If 19 s (W62_b10 Φ s) (W62_b19 Φ s)
def W62_b21 (Φ:EP) (s:St):Prop:=
 J 21 .eql false 18 14 s fun s=>
 M 19 21 s fun s=>
 W62_k20 Φ s
def W62 (Φ:EP) (s:St):Prop:=
 Y 3 35 0 s fun s=>
 @sOp (some 6) (xMov (.nils) s.H) s<|.mk fun s=>
 F 11 0 3 s fun u1=>
 L 12 1 11 false u1 fun u2=>
 k3 (s.τ 3) ([13] ++ occL [],[13] ++ occL []) <|
 k3 (u1.τ 11) ([13] ++ occL [],[13] ++ occL []) <|
 @sOp (some 13) (xRow 13 3 1 0 [.int .i64 0] [] u2.H) u2<|.mk fun u3=>
 M 14 1 u3 fun u4=>
 k3 (s.τ 3) ([15] ++ (occ (u4.τ 13) ++ occ (u4.τ 14)),[15] ++ occ (u4.τ 13)) <|
 k3 (u1.τ 11) ([15] ++ (occ (u4.τ 13) ++ occ (u4.τ 14)),[15] ++ occ (u4.τ 13)) <|
 @sOp (some 15) (xApp Tryz.prog 3 1 8 (some 15) (u4.τ 13) (u4.τ 14) u4.H) u4<|.mk fun u5=>
 Bd 16 [.int .i64 0,.nils,.int .i64 0] [(0,1,(u5.τ 12)),(1,1,(u5.τ 15))] u5 fun u6=>
 k1 (s.τ 3) 7 <|
 k1 (u1.τ 11) 7 <|
 k2 ([13] ++ occL [],[13] ++ occL []) 7 <|
 k2 ([15] ++ (occ (u4.τ 13) ++ occ (u4.τ 14)),[15] ++ occ (u4.τ 13)) 7 <|
 Z 7 60 [.int .i64 0,.nils,.int .i64 0] u6 fun u7=>
 U 3 7 16 u7 fun s=>
 F 17 0 3 s fun s=>
 L 18 1 17 false s fun s=>
 J 20 .eql false 18 0 s fun s=>
 M 19 20 s fun s=>
 If 19 s (W62_k20 Φ s) (W62_b21 Φ s)
theorem W62_rs (τ:Nat → AV) (H:Heap):resV Tryz.prog τ H [.tmp 6] = some (τ 6):=by kernel_rfl
theorem W62_eq:EqW Tryz.prog Tryz.f62 W62:=fun _ _=>by kernel_rfl
theorem W62_S:SpW Tryz.prog 62 75 [.tmp 6] W62:=spW Tryz.func62 Tryz.ntmps62 W62_eq
-- 63 "penance/penanceref5.Active"
def W63_b1 (Φ:EP) (s:St):Prop:=
 I 2 1 s fun s=>
 Φ .ret s
def W63_b2 (Φ:EP) (s:St):Prop:=
 I 2 2 s fun s=>
 Φ .ret s
def W63_b3 (Φ:EP) (s:St):Prop:=
 I 2 0 s fun s=>
 Φ .ret s
def W63_b4 (Φ:EP) (s:St):Prop:=
 J 9 .eql false 4 11 s fun s=>
 M 8 9 s fun s=>
 If 8 s (W63_b2 Φ s) (W63_b3 Φ s)
def W63_k5 (Φ:EP) (s:St):Prop:=
 If 5 s (W63_b1 Φ s) (W63_b4 Φ s)
def W63_b6 (Φ:EP) (s:St):Prop:=
 J 7 .eql false 4 7 s fun s=>
 M 5 7 s fun s=>
 W63_k5 Φ s
def W63 (Φ:EP) (s:St):Prop:=
 Y 1 35 0 s fun s=>
 I 2 0 s fun s=>
 F 3 0 1 s fun s=>
 L 4 1 3 false s fun s=>
 J 6 .eql false 4 12 s fun s=>
 M 5 6 s fun s=>
 If 5 s (W63_k5 Φ s) (W63_b6 Φ s)
theorem W63_rs (τ:Nat → AV) (H:Heap):resV Tryz.prog τ H [.tmp 2] = some (τ 2):=by kernel_rfl
theorem W63_eq:EqW Tryz.prog Tryz.f63 W63:=fun _ _=>by kernel_rfl
theorem W63_S:SpW Tryz.prog 63 10 [.tmp 2] W63:=spW Tryz.func63 Tryz.ntmps63 W63_eq
-- 64 "penance/penancelaw2.Few"
def W64 (Φ:EP) (s:St):Prop:=
 V 2 false s fun s=>
 M 3 0 s fun s=>
 Ca Tryz.prog 95 [(s.τ 3),(.int .i64 0)] 4 s fun s=>
 J 5 .leq false 4 20 s fun s=>
 M 2 5 s fun s=>
 Φ .ret s
theorem W64_rs (τ:Nat → AV) (H:Heap):resV Tryz.prog τ H [.tmp 2] = some (τ 2):=by kernel_rfl
theorem W64_eq:EqW Tryz.prog Tryz.f64 W64:=fun _ _=>by kernel_rfl
theorem W64_S:SpW Tryz.prog 64 6 [.tmp 2] W64:=spW Tryz.func64 Tryz.ntmps64 W64_eq
-- 65 "penance/penanceref4.names"
def W65_k1 (Φ:EP) (s:St):Prop:=
 M 40 4 s fun s=>
 M 41 5 s fun s=>
 M 2 40 s fun s=>
 M 3 41 s fun s=>
 Φ .ret s
def W65_b2 (Φ:EP) (L0:SP) (s:St):Prop:=
 M 31 5 s fun s=>
 F 32 2 1 s fun s=>
 L 33 1 32 false s fun s=>
 M 34 7 s fun s=>
 X 35 9 33 34 s fun s=>
 F 36 0 35 s fun s=>
 L 37 1 36 false s fun s=>
 Lt 38 1 1 [.str ⟨#[]⟩] [(0,(s.τ 37))] s fun s=>
 @sOp (some 39) (xApp Tryz.prog 9 1 16 (some 39) (s.τ 31) (s.τ 38) s.H) s<|.mk fun s=>
 M 5 39 s fun s=>
 M 29 7 s fun s=>
 J 30 .add false 29 1 s fun s=>
 M 7 30 s fun s=>
 L0 s
def W65_l3 (Φ:EP) (L0:SP) (s:St):Prop:=
 M 24 7 s fun s=>
 F 25 2 1 s fun s=>
 L 26 1 25 false s fun s=>
 N 27 26 s fun s=>
 B 28 .lss false 24 27 s fun s=>
 If 28 s (W65_b2 Φ L0 s) (W65_k1 Φ s)
def W65_k4 (Φ:EP) (s:St):Prop:=
 I 7 0 s fun s=>
 @sLoop s ⟨fun L0 s=>W65_l3 Φ L0 s⟩
def W65_b5 (Φ:EP) (L0:SP) (s:St):Prop:=
 M 15 4 s fun s=>
 F 16 0 1 s fun s=>
 L 17 1 16 false s fun s=>
 M 18 6 s fun s=>
 X 19 2 17 18 s fun s=>
 F 20 0 19 s fun s=>
 L 21 1 20 false s fun s=>
 Lt 22 1 1 [.str ⟨#[]⟩] [(0,(s.τ 21))] s fun s=>
 @sOp (some 23) (xApp Tryz.prog 9 1 16 (some 23) (s.τ 15) (s.τ 22) s.H) s<|.mk fun s=>
 M 4 23 s fun s=>
 M 13 6 s fun s=>
 J 14 .add false 13 1 s fun s=>
 M 6 14 s fun s=>
 L0 s
def W65_l6 (Φ:EP) (L0:SP) (s:St):Prop:=
 M 8 6 s fun s=>
 F 9 0 1 s fun s=>
 L 10 1 9 false s fun s=>
 N 11 10 s fun s=>
 B 12 .lss false 8 11 s fun s=>
 If 12 s (W65_b5 Φ L0 s) (W65_k4 Φ s)
def W65 (Φ:EP) (s:St):Prop:=
 Y 1 76 0 s fun s=>
 @sOp (some 2) (xMov (.nils) s.H) s<|.mk fun s=>
 @sOp (some 3) (xMov (.nils) s.H) s<|.mk fun s=>
 @sOp (some 4) (xMov (.nils) s.H) s<|.mk fun s=>
 @sOp (some 5) (xMov (.nils) s.H) s<|.mk fun s=>
 I 6 0 s fun s=>
 @sLoop s ⟨fun L0 s=>W65_l6 Φ L0 s⟩
theorem W65_rs (τ:Nat → AV) (H:Heap):resV Tryz.prog τ H [.tmp 2,.tmp 3] = ob (ob (some (τ 2)) fun v=>ob (ob (some (τ 3)) fun v=>ob (some []) fun vs=>some (v :: vs)) fun vs=>some (v :: vs)) fun vs=>some (.tup vs):=by kernel_rfl
theorem W65_eq:EqW Tryz.prog Tryz.f65 W65:=fun _ _=>by kernel_rfl
theorem W65_S:SpW Tryz.prog 65 42 [.tmp 2,.tmp 3] W65:=spW Tryz.func65 Tryz.ntmps65 W65_eq
-- 66 "penance/penanceref4.twice"
def W66_k1 (Φ:EP) (s:St):Prop:=
 V 2 false s fun s=>
 Φ .ret s
def W66_b2 (Φ:EP) (L0:SP) (s:St):Prop:=
 V 2 true s fun s=>
 Φ .ret s
def W66_b3 (Φ:EP) (L0:SP) (s:St):Prop:=
 M 8 3 s fun s=>
 J 9 .add false 8 1 s fun s=>
 M 3 9 s fun s=>
 L0 s
def W66_b5 (Φ:EP) (L0:SP) (s:St):Prop:=
 M 10 0 s fun s=>
 M 11 0 s fun s=>
 M 12 3 s fun s=>
 X 13 1 11 12 s fun s=>
 L 14 1 13 false s fun s=>
 Ca Tryz.prog 67 [(s.τ 10),(s.τ 14)] 15 s fun s=>
 M 16 3 s fun s=>
 B 17 .neq false 15 16 s fun s=>
 If 17 s (W66_b2 Φ L0 s) (W66_b3 Φ L0 s)
def W66_l6 (Φ:EP) (L0:SP) (s:St):Prop:=
 M 4 3 s fun s=>
 M 5 0 s fun s=>
 N 6 5 s fun s=>
 B 7 .lss false 4 6 s fun s=>
 If 7 s (W66_b5 Φ L0 s) (W66_k1 Φ s)
def W66 (Φ:EP) (s:St):Prop:=
 V 2 false s fun s=>
 I 3 0 s fun s=>
 @sLoop s ⟨fun L0 s=>W66_l6 Φ L0 s⟩
theorem W66_rs (τ:Nat → AV) (H:Heap):resV Tryz.prog τ H [.tmp 2] = some (τ 2):=by kernel_rfl
theorem W66_eq:EqW Tryz.prog Tryz.f66 W66:=fun _ _=>by kernel_rfl
theorem W66_S:SpW Tryz.prog 66 18 [.tmp 2] W66:=spW Tryz.func66 Tryz.ntmps66 W66_eq
-- 67 "penance/penanceref4.find"
def W67_k1 (Φ:EP) (s:St):Prop:=
 I 4 (-1) s fun s=>
 Φ .ret s
def W67_b2 (Φ:EP) (L0:SP) (s:St):Prop:=
 M 18 5 s fun s=>
 M 4 18 s fun s=>
 Φ .ret s
def W67_b3 (Φ:EP) (L0:SP) (s:St):Prop:=
 M 10 5 s fun s=>
 J 11 .add false 10 1 s fun s=>
 M 5 11 s fun s=>
 L0 s
def W67_b4 (Φ:EP) (L0:SP) (s:St):Prop:=
 M 12 0 s fun s=>
 M 13 5 s fun s=>
 X 14 1 12 13 s fun s=>
 L 15 1 14 false s fun s=>
 M 16 1 s fun s=>
 B 17 .eql false 15 16 s fun s=>
 If 17 s (W67_b2 Φ L0 s) (W67_b3 Φ L0 s)
def W67_l5 (Φ:EP) (L0:SP) (s:St):Prop:=
 M 6 5 s fun s=>
 M 7 0 s fun s=>
 N 8 7 s fun s=>
 B 9 .lss false 6 8 s fun s=>
 If 9 s (W67_b4 Φ L0 s) (W67_k1 Φ s)
def W67 (Φ:EP) (s:St):Prop:=
 I 4 0 s fun s=>
 I 5 0 s fun s=>
 @sLoop s ⟨fun L0 s=>W67_l5 Φ L0 s⟩
theorem W67_rs (τ:Nat → AV) (H:Heap):resV Tryz.prog τ H [.tmp 4] = some (τ 4):=by kernel_rfl
theorem W67_eq:EqW Tryz.prog Tryz.f67 W67:=fun _ _=>by kernel_rfl
theorem W67_S:SpW Tryz.prog 67 19 [.tmp 4] W67:=spW Tryz.func67 Tryz.ntmps67 W67_eq
-- 68 "(*penance/penanceref4.lower).proc"
def W68_k1 (Φ:EP) (s:St):Prop:=
 L 116 9 5 true s fun s=>
 U 9 4 116 s fun s=>
 Φ .ret s
def W68_b3 (Φ:EP) (L0:SP) (s:St):Prop:=
 F 104 8 5 s fun u1=>
 L 105 1 104 false u1 fun u2=>
 M 106 0 u2 fun u3=>
 F 107 7 3 u3 fun u4=>
 L 108 1 107 false u4 fun u5=>
 M 109 6 u5 fun u6=>
 X 110 8 108 109 u6 fun u7=>
 L 111 8 110 true u7 fun u8=>
 k3 (s.τ 5) (cfp 112 68 [(u8.τ 106),(u8.τ 111)]) <|
 k3 (u1.τ 104) (cfp 112 68 [(u8.τ 106),(u8.τ 111)]) <|
 C0 Tryz.prog 68 [(u8.τ 106),(u8.τ 111)] 112 u8 fun u9=>
 k3 (s.τ 5) ([113] ++ occL [(u9.τ 112)],[113] ++ occL [(u9.τ 112)]) <|
 k3 (u1.τ 104) ([113] ++ occL [(u9.τ 112)],[113] ++ occL [(u9.τ 112)]) <|
 Lt 113 9 1 z9 [(0,(u9.τ 112))] u9 fun u10=>
 @sOp (some 114) (xApp Tryz.prog 35 9 120 (some 114) (u10.τ 105) (u10.τ 113) u10.H) u10<|.mk fun u11=>
 F 115 8 5 u11 fun u12=>
 U 1 115 114 u12 fun s=>
 M 102 6 s fun s=>
 J 103 .add false 102 1 s fun s=>
 M 6 103 s fun s=>
 L0 s
def W68_l4 (Φ:EP) (L0:SP) (s:St):Prop:=
 M 97 6 s fun s=>
 F 98 7 3 s fun s=>
 L 99 1 98 false s fun s=>
 N 100 99 s fun s=>
 B 101 .lss false 97 100 s fun s=>
 If 101 s (W68_b3 Φ L0 s) (W68_k1 Φ s)
def W68_k5 (Φ:EP) (s:St):Prop:=
 I 6 0 s fun s=>
 @sLoop s ⟨fun L0 s=>W68_l4 Φ L0 s⟩
def W68_b7 (Φ:EP) (s:St):Prop:=
 M 21 0 s fun s=>
 M 22 0 s fun s=>
 @sOp (some 23) (xNil (s.τ 22) s.H) s<|.mk fun s=>
 F 24 0 23 s fun s=>
 L 25 1 24 false s fun s=>
 F 26 2 3 s fun s=>
 L 27 1 26 false s fun s=>
 C0 Tryz.prog 96 [(s.τ 21),(s.τ 25),(s.τ 27)] 28 s fun s=>
 F 29 1 5 s fun s=>
 U 1 29 28 s fun s=>
 W68_k5 Φ s
def W68_b8 (Φ:EP) (s:St):Prop:=
 F 14 1 3 s fun s=>
 L 15 1 14 false s fun s=>
 F 16 3 5 s fun s=>
 U 1 16 15 s fun s=>
 F 17 1 5 s fun s=>
 @sOp none (xStore 1 (s.τ 17) (.int .i64 (-1)) s.H) s<|.mk fun s=>
 F 18 2 3 s fun s=>
 L 19 1 18 false s fun s=>
 @sOp (some 20) (xBin .neq false (s.τ 19) (.str ⟨#[]⟩) s.H) s<|.mk fun s=>
 If 20 s (W68_b7 Φ s) (W68_k5 Φ s)
def W68_b11 (Φ:EP) (s:St):Prop:=
 M 32 0 s fun u1=>
 M 33 0 u1 fun u2=>
 @sOp (some 34) (xNil (u2.τ 33) u2.H) u2<|.mk fun u3=>
 F 35 0 34 u3 fun u4=>
 L 36 1 35 false u4 fun u5=>
 F 37 2 3 u5 fun u6=>
 L 38 1 37 false u6 fun u7=>
 C0 Tryz.prog 96 [(u7.τ 32),(u7.τ 36),(u7.τ 38)] 39 u7 fun u8=>
 M 40 0 u8 fun u9=>
 @sChk (compat (cfp 39 96 [(u7.τ 32),(u7.τ 36),(u7.τ 38)]) (occ (u9.τ 3),[])) <| .mk <|
 F 41 3 3 u9 fun u10=>
 @sChk (compat (cfp 39 96 [(u7.τ 32),(u7.τ 36),(u7.τ 38)]) (occ (u10.τ 41),[])) <| .mk <|
 L 42 4 41 true u10 fun u11=>
 C0 Tryz.prog 97 [(u11.τ 40),(u11.τ 42)] 43 u11 fun u12=>
 @sChk (compat (cfp 43 97 [(u11.τ 40),(u11.τ 42)]) (occ (u12.τ 5),[])) <| .mk <|
 F 44 1 5 u12 fun u13=>
 U 1 44 39 u13 fun u14=>
 F 45 4 5 u14 fun u15=>
 U 4 45 43 u15 fun s=>
 W68_k5 Φ s
def W68_b13 (Φ:EP) (s:St):Prop:=
 M 50 0 s fun s=>
 M 51 0 s fun s=>
 @sOp (some 52) (xNil (s.τ 51) s.H) s<|.mk fun s=>
 F 53 1 52 s fun s=>
 L 54 1 53 false s fun s=>
 F 55 1 3 s fun s=>
 L 56 1 55 false s fun s=>
 C0 Tryz.prog 96 [(s.τ 50),(s.τ 54),(s.τ 56)] 57 s fun s=>
 F 58 1 5 s fun s=>
 U 1 58 57 s fun s=>
 W68_k5 Φ s
def W68_b16 (Φ:EP) (s:St):Prop:=
 M 61 0 s fun u1=>
 M 62 0 u1 fun u2=>
 @sOp (some 63) (xNil (u2.τ 62) u2.H) u2<|.mk fun u3=>
 F 64 1 63 u3 fun u4=>
 L 65 1 64 false u4 fun u5=>
 F 66 1 3 u5 fun u6=>
 L 67 1 66 false u6 fun u7=>
 C0 Tryz.prog 96 [(u7.τ 61),(u7.τ 65),(u7.τ 67)] 68 u7 fun u8=>
 M 69 0 u8 fun u9=>
 M 70 0 u9 fun u10=>
 @sChk (compat (cfp 68 96 [(u7.τ 61),(u7.τ 65),(u7.τ 67)]) (occ (u10.τ 70),[])) <| .mk <|
 @sOp (some 71) (xNil (u10.τ 70) u10.H) u10<|.mk fun u11=>
 @sChk (compat (cfp 68 96 [(u7.τ 61),(u7.τ 65),(u7.τ 67)]) (occ (u11.τ 71),[])) <| .mk <|
 F 72 1 71 u11 fun u12=>
 @sChk (compat (cfp 68 96 [(u7.τ 61),(u7.τ 65),(u7.τ 67)]) (occ (u12.τ 72),[])) <| .mk <|
 L 73 1 72 false u12 fun u13=>
 @sChk (compat (cfp 68 96 [(u7.τ 61),(u7.τ 65),(u7.τ 67)]) (occ (u13.τ 3),[])) <| .mk <|
 F 74 2 3 u13 fun u14=>
 @sChk (compat (cfp 68 96 [(u7.τ 61),(u7.τ 65),(u7.τ 67)]) (occ (u14.τ 74),[])) <| .mk <|
 L 75 1 74 false u14 fun u15=>
 C0 Tryz.prog 96 [(u15.τ 69),(u15.τ 73),(u15.τ 75)] 76 u15 fun u16=>
 @sChk (compat (cfp 76 96 [(u15.τ 69),(u15.τ 73),(u15.τ 75)]) (occ (u16.τ 5),[])) <| .mk <|
 F 77 1 5 u16 fun u17=>
 U 1 77 68 u17 fun u18=>
 F 78 2 5 u18 fun u19=>
 U 1 78 76 u19 fun s=>
 W68_k5 Φ s
def W68_b18 (Φ:EP) (s:St):Prop:=
 M 81 0 s fun s=>
 F 82 3 3 s fun s=>
 L 83 4 82 true s fun s=>
 Ca Tryz.prog 97 [(s.τ 81),(s.τ 83)] 84 s fun s=>
 F 85 4 5 s fun s=>
 U 4 85 84 s fun s=>
 W68_k5 Φ s
def W68_b20 (Φ:EP) (s:St):Prop:=
 M 88 0 s fun s=>
 M 89 0 s fun s=>
 @sOp (some 90) (xNil (s.τ 89) s.H) s<|.mk fun s=>
 F 91 2 90 s fun s=>
 L 92 1 91 false s fun s=>
 F 93 1 3 s fun s=>
 L 94 1 93 false s fun s=>
 C0 Tryz.prog 96 [(s.τ 88),(s.τ 92),(s.τ 94)] 95 s fun s=>
 F 96 1 5 s fun s=>
 U 1 96 95 s fun s=>
 W68_k5 Φ s
def W68_b21 (Φ:EP) (s:St):Prop:=
 J 87 .eql false 11 13 s fun s=>
 M 86 87 s fun s=>
 If 86 s (W68_b20 Φ s) (W68_k5 Φ s)
def W68_b22 (Φ:EP) (s:St):Prop:=
 J 80 .eql false 11 9 s fun s=>
 M 79 80 s fun s=>
 If 79 s (W68_b18 Φ s) (W68_b21 Φ s)
def W68_b23 (Φ:EP) (s:St):Prop:=
 J 60 .eql false 11 6 s fun s=>
 M 59 60 s fun s=>
 If 59 s (W68_b16 Φ s) (W68_b22 Φ s)
def W68_k24 (Φ:EP) (s:St):Prop:=
 If 46 s (W68_b13 Φ s) (W68_b23 Φ s)
def W68_b25 (Φ:EP) (s:St):Prop:=
 J 49 .eql false 11 5 s fun s=>
 M 46 49 s fun s=>
 W68_k24 Φ s
def W68_b26 (Φ:EP) (s:St):Prop:=
 J 48 .eql false 11 4 s fun s=>
 M 46 48 s fun s=>
 If 46 s (W68_k24 Φ s) (W68_b25 Φ s)
def W68_b27 (Φ:EP) (s:St):Prop:=
 J 47 .eql false 11 3 s fun s=>
 M 46 47 s fun s=>
 If 46 s (W68_k24 Φ s) (W68_b26 Φ s)
def W68_b28 (Φ:EP) (s:St):Prop:=
 J 31 .eql false 11 2 s fun s=>
 M 30 31 s fun s=>
 If 30 s (W68_b11 Φ s) (W68_b27 Φ s)
def W68 (Φ:EP) (s:St):Prop:=
 Y 3 80 1 s fun s=>
 Z 4 35 z9 s fun s=>
 F 7 0 3 s fun s=>
 L 8 1 7 false s fun s=>
 Bd 9 z9 [(0,1,(s.τ 8))] s fun s=>
 Z 5 35 z9 s fun s=>
 U 9 5 9 s fun s=>
 F 10 0 3 s fun s=>
 L 11 1 10 false s fun s=>
 J 13 .eql false 11 1 s fun s=>
 M 12 13 s fun s=>
 If 12 s (W68_b8 Φ s) (W68_b28 Φ s)
theorem W68_rs (τ:Nat → AV) (H:Heap):resV Tryz.prog τ H [.cell 4 35] = rdV H 9 true (τ 4):=by kernel_rfl
theorem W68_eq:EqW Tryz.prog Tryz.f68 W68:=fun _ _=>by kernel_rfl
theorem W68_S:SpW Tryz.prog 68 117 [.cell 4 35] W68:=spW Tryz.func68 Tryz.ntmps68 W68_eq
-- 69 "penance/penanceref4.round"
def W69_k1 (Φ:EP) (s:St):Prop:=
 V 2 false s fun s=>
 Φ .ret s
def W69_b2 (Φ:EP) (L0:SP) (s:St):Prop:=
 V 2 true s fun s=>
 Φ .ret s
def W69_b3 (Φ:EP) (L0:SP) (s:St):Prop:=
 M 62 8 s fun s=>
 J 63 .add false 62 1 s fun s=>
 M 8 63 s fun s=>
 L0 s
def W69_b4 (Φ:EP) (L0:SP) (s:St):Prop:=
 M 64 3 s fun s=>
 M 65 8 s fun s=>
 X 66 1 64 65 s fun s=>
 L 67 1 66 false s fun s=>
 M 68 8 s fun s=>
 X 69 1 67 68 s fun s=>
 L 70 1 69 false s fun s=>
 If 70 s (W69_b2 Φ L0 s) (W69_b3 Φ L0 s)
def W69_l5 (Φ:EP) (L0:SP) (s:St):Prop:=
 M 59 8 s fun s=>
 M 60 4 s fun s=>
 B 61 .lss false 59 60 s fun s=>
 If 61 s (W69_b4 Φ L0 s) (W69_k1 Φ s)
def W69_k6 (Φ:EP) (s:St):Prop:=
 I 8 0 s fun s=>
 @sLoop s ⟨fun L0 s=>W69_l5 Φ L0 s⟩
def W69_k7 (Φ:EP) (L0:SP) (s:St):Prop:=
 M 16 5 s fun s=>
 J 17 .add false 16 1 s fun s=>
 M 5 17 s fun s=>
 L0 s
def W69_k8 (Φ:EP) (L0:SP) (L1:SP) (s:St):Prop:=
 M 21 6 s fun s=>
 J 22 .add false 21 1 s fun s=>
 M 6 22 s fun s=>
 L1 s
def W69_b25 (Φ:EP) (L0:SP) (L1:SP) (L2:SP) (s:St):Prop:=
 M 28 3 s fun s=>
 M 29 6 s fun s=>
 X 30 1 28 29 s fun s=>
 L 31 1 30 false s fun s=>
 M 32 7 s fun s=>
 M 33 3 s fun s=>
 M 34 6 s fun s=>
 X 35 1 33 34 s fun s=>
 L 36 1 35 false s fun s=>
 M 37 7 s fun s=>
 X 38 1 36 37 s fun s=>
 L 39 1 38 false s fun s=>
 M 40 39 s fun s=>
 gm 41 3 40 false s fun s=>
 gm 42 6 40 false s fun s=>
 go 43 40 false s (fun s=>(xIx 1 (s.τ 41) (s.τ 42) s.H)) fun s=>
 gl 44 1 43 40 false false s fun s=>
 gm 45 5 40 false s fun s=>
 go 46 40 false s (fun s=>(xIx 1 (s.τ 44) (s.τ 45) s.H)) fun s=>
 gl 47 1 46 40 false false s fun s=>
 gm 48 47 40 false s fun s=>
 gm 49 3 48 true s fun s=>
 gm 50 5 48 true s fun s=>
 go 51 48 true s (fun s=>(xIx 1 (s.τ 49) (s.τ 50) s.H)) fun s=>
 gl 52 1 51 48 false true s fun s=>
 gm 53 7 48 true s fun s=>
 go 54 48 true s (fun s=>(xIx 1 (s.τ 52) (s.τ 53) s.H)) fun s=>
 gl 55 1 54 48 false true s fun s=>
 go 56 40 false s (fun s=>(xPick (s.τ 48) (s.τ 55) (.bool false) s.H)) fun s=>
 O 57 40 56 s fun s=>
 X 58 1 31 32 s fun s=>
 U 1 58 57 s fun s=>
 M 26 7 s fun s=>
 J 27 .add false 26 1 s fun s=>
 M 7 27 s fun s=>
 L2 s
def W69_l26 (Φ:EP) (L0:SP) (L1:SP) (L2:SP) (s:St):Prop:=
 M 23 7 s fun s=>
 M 24 4 s fun s=>
 B 25 .lss false 23 24 s fun s=>
 If 25 s (W69_b25 Φ L0 L1 L2 s) (W69_k8 Φ L0 L1 s)
def W69_b27 (Φ:EP) (L0:SP) (L1:SP) (s:St):Prop:=
 I 7 0 s fun s=>
 @sLoop s ⟨fun L2 s=>W69_l26 Φ L0 L1 L2 s⟩
def W69_l28 (Φ:EP) (L0:SP) (L1:SP) (s:St):Prop:=
 M 18 6 s fun s=>
 M 19 4 s fun s=>
 B 20 .lss false 18 19 s fun s=>
 If 20 s (W69_b27 Φ L0 L1 s) (W69_k7 Φ L0 s)
def W69_b29 (Φ:EP) (L0:SP) (s:St):Prop:=
 I 6 0 s fun s=>
 @sLoop s ⟨fun L1 s=>W69_l28 Φ L0 L1 s⟩
def W69_l30 (Φ:EP) (L0:SP) (s:St):Prop:=
 M 13 5 s fun s=>
 M 14 4 s fun s=>
 B 15 .lss false 13 14 s fun s=>
 If 15 s (W69_b29 Φ L0 s) (W69_k6 Φ s)
def W69 (Φ:EP) (s:St):Prop:=
 Y 1 76 0 s fun s=>
 V 2 false s fun s=>
 L 9 3 1 true s fun s=>
 Ca Tryz.prog 98 [(s.τ 9)] 10 s fun s=>
 M 3 10 s fun s=>
 M 11 3 s fun s=>
 N 12 11 s fun s=>
 M 4 12 s fun s=>
 I 5 0 s fun s=>
 @sLoop s ⟨fun L0 s=>W69_l30 Φ L0 s⟩
theorem W69_rs (τ:Nat → AV) (H:Heap):resV Tryz.prog τ H [.tmp 2] = some (τ 2):=by kernel_rfl
theorem W69_eq:EqW Tryz.prog Tryz.f69 W69:=fun _ _=>by kernel_rfl
theorem W69_S:SpW Tryz.prog 69 71 [.tmp 2] W69:=spW Tryz.func69 Tryz.ntmps69 W69_eq
-- 70 "penance/penancelaw3.Stacks"
def W70 (Φ:EP) (s:St):Prop:=
 @sOp (some 0) (xMov (.nils) s.H) s<|.mk fun s=>
 Lt 1 1 2 [.str ⟨#[]⟩] [(0,(.str ⟨#[115]⟩)),(1,(.str ⟨#[117,110,100,111]⟩))] s fun s=>
 M 0 1 s fun s=>
 Φ .ret s
theorem W70_rs (τ:Nat → AV) (H:Heap):resV Tryz.prog τ H [.tmp 0] = some (τ 0):=by kernel_rfl
theorem W70_eq:EqW Tryz.prog Tryz.f70 W70:=fun _ _=>by kernel_rfl
theorem W70_S:SpW Tryz.prog 70 2 [.tmp 0] W70:=spW Tryz.func70 Tryz.ntmps70 W70_eq
-- 71 "penance/penancelaw3.Vars"
def W71 (Φ:EP) (s:St):Prop:=
 @sOp (some 0) (xMov (.nils) s.H) s<|.mk fun s=>
 Lt 1 1 3 [.str ⟨#[]⟩] [(0,(.str ⟨#[120]⟩)),(1,(.str ⟨#[121]⟩)),(2,(.str ⟨#[116,111,116,97,108]⟩))] s fun s=>
 M 0 1 s fun s=>
 Φ .ret s
theorem W71_rs (τ:Nat → AV) (H:Heap):resV Tryz.prog τ H [.tmp 0] = some (τ 0):=by kernel_rfl
theorem W71_eq:EqW Tryz.prog Tryz.f71 W71:=fun _ _=>by kernel_rfl
theorem W71_S:SpW Tryz.prog 71 2 [.tmp 0] W71:=spW Tryz.func71 Tryz.ntmps71 W71_eq
-- 72 "penance/penancelaw3.within"
def W72_k1 (Φ:EP) (s:St):Prop:=
 M 14 5 s fun s=>
 M 4 14 s fun s=>
 Φ .ret s
def W72_b2 (Φ:EP) (s:St):Prop:=
 M 11 5 s fun s=>
 M 12 1 s fun s=>
 B 13 .add false 11 12 s fun s=>
 M 5 13 s fun s=>
 W72_k1 Φ s
def W72 (Φ:EP) (s:St):Prop:=
 I 4 0 s fun s=>
 M 6 0 s fun s=>
 M 7 1 s fun s=>
 B 8 .rem false 6 7 s fun s=>
 M 5 8 s fun s=>
 M 9 5 s fun s=>
 J 10 .lss false 9 0 s fun s=>
 If 10 s (W72_b2 Φ s) (W72_k1 Φ s)
theorem W72_rs (τ:Nat → AV) (H:Heap):resV Tryz.prog τ H [.tmp 4] = some (τ 4):=by kernel_rfl
theorem W72_eq:EqW Tryz.prog Tryz.f72 W72:=fun _ _=>by kernel_rfl
theorem W72_S:SpW Tryz.prog 72 15 [.tmp 4] W72:=spW Tryz.func72 Tryz.ntmps72 W72_eq
-- 73 "penance/penancelaw3.Defs"
def W73 (Φ:EP) (s:St):Prop:=
 @sOp (some 0) (xMov (.nils) s.H) s<|.mk fun s=>
 Lt 1 1 5 [.str ⟨#[]⟩] [(0,(.str ⟨#[109,97,105,110]⟩)),(1,(.str ⟨#[112]⟩)),(2,(.str ⟨#[113]⟩)),(3,(.str ⟨#[114,101,116,114,121]⟩)),(4,(.str ⟨#[108,97,115,116]⟩))] s fun s=>
 M 0 1 s fun s=>
 Φ .ret s
theorem W73_rs (τ:Nat → AV) (H:Heap):resV Tryz.prog τ H [.tmp 0] = some (τ 0):=by kernel_rfl
theorem W73_eq:EqW Tryz.prog Tryz.f73 W73:=fun _ _=>by kernel_rfl
theorem W73_S:SpW Tryz.prog 73 2 [.tmp 0] W73:=spW Tryz.func73 Tryz.ntmps73 W73_eq
-- 74 "(penance/penancelaw3.Raw).Make"
def W74_b2 (Φ:EP) (s:St):Prop:=
 Lt 40 1 3 [.str ⟨#[]⟩] [(0,(.str ⟨#[112,97,121]⟩)),(1,(.str ⟨#[115,104,105,112]⟩)),(2,(.str ⟨#[97,115,107]⟩))] s fun s=>
 F 41 2 2 s fun s=>
 L 42 1 41 false s fun s=>
 Ca Tryz.prog 72 [(s.τ 42),(.int .i64 3)] 43 s fun s=>
 X 44 1 40 43 s fun s=>
 L 45 1 44 false s fun s=>
 Bd 46 [.int .i64 0,.str ⟨#[]⟩,.str ⟨#[]⟩,.int .i64 0,.int .i64 0,.str ⟨#[]⟩,.nils,.nils] [(0,1,(.int .i64 1)),(1,1,(s.τ 45))] s fun s=>
 U 8 4 46 s fun s=>
 Φ .ret s
def W74_b4 (Φ:EP) (s:St):Prop:=
 Lt 50 1 3 [.str ⟨#[]⟩] [(0,(.str ⟨#[112,97,121]⟩)),(1,(.str ⟨#[115,104,105,112]⟩)),(2,(.str ⟨#[97,115,107]⟩))] s fun s=>
 F 51 2 2 s fun s=>
 L 52 1 51 false s fun s=>
 Ca Tryz.prog 72 [(s.τ 52),(.int .i64 3)] 53 s fun s=>
 X 54 1 50 53 s fun s=>
 L 55 1 54 false s fun s=>
 M 56 5 s fun s=>
 Bd 57 [.int .i64 0,.str ⟨#[]⟩,.str ⟨#[]⟩,.int .i64 0,.int .i64 0,.str ⟨#[]⟩,.nils,.nils] [(0,1,(.int .i64 1)),(1,1,(s.τ 55)),(2,1,(s.τ 56))] s fun s=>
 U 8 4 57 s fun s=>
 Φ .ret s
def W74_b7 (Φ:EP) (s:St):Prop:=
 M 60 5 s fun u1=>
 F 61 3 2 u1 fun u2=>
 L 62 1 61 false u2 fun u3=>
 k3 (u1.τ 2) (cfp 63 71 []) <|
 k3 (u2.τ 61) (cfp 63 71 []) <|
 C0 Tryz.prog 71 [] 63 u3 fun u4=>
 C0 Tryz.prog 100 [(u4.τ 62),(u4.τ 63)] 64 u4 fun u5=>
 Bd 65 [.int .i64 0,.str ⟨#[]⟩,.str ⟨#[]⟩,.int .i64 0,.int .i64 0,.str ⟨#[]⟩,.nils,.nils] [(0,1,(.int .i64 2)),(2,1,(u5.τ 60)),(3,4,(u5.τ 64))] u5 fun u6=>
 U 8 4 65 u6 fun s=>
 Φ .ret s
def W74_b8 (Φ:EP) (s:St):Prop:=
 M 69 6 s fun s=>
 L 70 8 8 true s fun s=>
 Lt 71 8 1 [.int .i64 0,.str ⟨#[]⟩,.str ⟨#[]⟩,.int .i64 0,.int .i64 0,.str ⟨#[]⟩,.nils,.nils] [(0,(s.τ 70))] s fun s=>
 Bd 72 [.int .i64 0,.str ⟨#[]⟩,.str ⟨#[]⟩,.int .i64 0,.int .i64 0,.str ⟨#[]⟩,.nils,.nils] [(0,1,(.int .i64 3)),(1,1,(s.τ 69)),(7,1,(s.τ 71))] s fun s=>
 U 8 4 72 s fun s=>
 Φ .ret s
def W74_b9 (Φ:EP) (s:St):Prop:=
 M 75 6 s fun s=>
 Bd 76 [.int .i64 0,.str ⟨#[]⟩,.str ⟨#[]⟩,.int .i64 0,.int .i64 0,.str ⟨#[]⟩,.nils,.nils] [(0,1,(.int .i64 4)),(1,1,(s.τ 75))] s fun s=>
 U 8 4 76 s fun s=>
 Φ .ret s
def W74_b10 (Φ:EP) (s:St):Prop:=
 M 79 6 s fun s=>
 Bd 80 [.int .i64 0,.str ⟨#[]⟩,.str ⟨#[]⟩,.int .i64 0,.int .i64 0,.str ⟨#[]⟩,.nils,.nils] [(0,1,(.int .i64 5)),(1,1,(s.τ 79))] s fun s=>
 U 8 4 80 s fun s=>
 Φ .ret s
def W74_b13 (Φ:EP) (s:St):Prop:=
 M 83 6 s fun u1=>
 C0 Tryz.prog 70 [] 84 u1 fun u2=>
 @sChk (compat (cfp 84 70 []) (occ (u2.τ 2),[])) <| .mk <|
 F 85 2 2 u2 fun u3=>
 @sChk (compat (cfp 84 70 []) (occ (u3.τ 85),[])) <| .mk <|
 L 86 1 85 false u3 fun u4=>
 C0 Tryz.prog 72 [(u4.τ 86),(.int .i64 2)] 87 u4 fun u5=>
 X 88 1 84 87 u5 fun u6=>
 L 89 1 88 false u6 fun u7=>
 Bd 90 [.int .i64 0,.str ⟨#[]⟩,.str ⟨#[]⟩,.int .i64 0,.int .i64 0,.str ⟨#[]⟩,.nils,.nils] [(0,1,(.int .i64 6)),(1,1,(u7.τ 83)),(2,1,(u7.τ 89))] u7 fun u8=>
 U 8 4 90 u8 fun s=>
 Φ .ret s
def W74_b14 (Φ:EP) (s:St):Prop:=
 L 93 8 8 true s fun s=>
 Lt 94 8 1 [.int .i64 0,.str ⟨#[]⟩,.str ⟨#[]⟩,.int .i64 0,.int .i64 0,.str ⟨#[]⟩,.nils,.nils] [(0,(s.τ 93))] s fun s=>
 Bd 95 [.int .i64 0,.str ⟨#[]⟩,.str ⟨#[]⟩,.int .i64 0,.int .i64 0,.str ⟨#[]⟩,.nils,.nils] [(0,1,(.int .i64 7)),(7,1,(s.τ 94))] s fun s=>
 U 8 4 95 s fun s=>
 Φ .ret s
def W74_b15 (Φ:EP) (s:St):Prop:=
 Bd 98 [.int .i64 0,.str ⟨#[]⟩,.str ⟨#[]⟩,.int .i64 0,.int .i64 0,.str ⟨#[]⟩,.nils,.nils] [(0,1,(.int .i64 8))] s fun s=>
 U 8 4 98 s fun s=>
 Φ .ret s
def W74_b18 (Φ:EP) (s:St):Prop:=
 F 101 3 2 s fun u1=>
 L 102 1 101 false u1 fun u2=>
 k3 (s.τ 2) (cfp 103 71 []) <|
 k3 (u1.τ 101) (cfp 103 71 []) <|
 C0 Tryz.prog 71 [] 103 u2 fun u3=>
 C0 Tryz.prog 100 [(u3.τ 102),(u3.τ 103)] 104 u3 fun u4=>
 @sChk (compat (cfp 103 71 []) (occ (u4.τ 8),[])) <| .mk <|
 @sChk (compat (cfp 104 100 [(u3.τ 102),(u3.τ 103)]) (occ (u4.τ 8),[])) <| .mk <|
 L 105 8 8 true u4 fun u5=>
 @sChk (compat (cfp 103 71 []) (occ (u5.τ 9),[])) <| .mk <|
 @sChk (compat (cfp 104 100 [(u3.τ 102),(u3.τ 103)]) (occ (u5.τ 9),[])) <| .mk <|
 L 106 8 9 true u5 fun u6=>
 k3 (s.τ 2) ([107] ++ occL [(u6.τ 105),(u6.τ 106)],[107] ++ occL [(u6.τ 105),(u6.τ 106)]) <|
 k3 (u1.τ 101) ([107] ++ occL [(u6.τ 105),(u6.τ 106)],[107] ++ occL [(u6.τ 105),(u6.τ 106)]) <|
 @sChk (compat (cfp 103 71 []) ([107] ++ occL [(u6.τ 105),(u6.τ 106)],[107] ++ occL [(u6.τ 105),(u6.τ 106)])) <| .mk <|
 @sChk (compat (cfp 104 100 [(u3.τ 102),(u3.τ 103)]) ([107] ++ occL [(u6.τ 105),(u6.τ 106)],[107] ++ occL [(u6.τ 105),(u6.τ 106)])) <| .mk <|
 Lt 107 8 2 [.int .i64 0,.str ⟨#[]⟩,.str ⟨#[]⟩,.int .i64 0,.int .i64 0,.str ⟨#[]⟩,.nils,.nils] [(0,(u6.τ 105)),(1,(u6.τ 106))] u6 fun u7=>
 Bd 108 [.int .i64 0,.str ⟨#[]⟩,.str ⟨#[]⟩,.int .i64 0,.int .i64 0,.str ⟨#[]⟩,.nils,.nils] [(0,1,(.int .i64 9)),(3,4,(u7.τ 104)),(7,1,(u7.τ 107))] u7 fun u8=>
 U 8 4 108 u8 fun s=>
 Φ .ret s
def W74_b19 (Φ:EP) (s:St):Prop:=
 L 111 8 8 true s fun s=>
 L 112 8 9 true s fun s=>
 Lt 113 8 2 [.int .i64 0,.str ⟨#[]⟩,.str ⟨#[]⟩,.int .i64 0,.int .i64 0,.str ⟨#[]⟩,.nils,.nils] [(0,(s.τ 111)),(1,(s.τ 112))] s fun s=>
 Bd 114 [.int .i64 0,.str ⟨#[]⟩,.str ⟨#[]⟩,.int .i64 0,.int .i64 0,.str ⟨#[]⟩,.nils,.nils] [(0,1,(.int .i64 10)),(7,1,(s.τ 113))] s fun s=>
 U 8 4 114 s fun s=>
 Φ .ret s
def W74_b20 (Φ:EP) (s:St):Prop:=
 L 118 8 8 true s fun s=>
 L 119 8 9 true s fun s=>
 Lt 120 8 2 [.int .i64 0,.str ⟨#[]⟩,.str ⟨#[]⟩,.int .i64 0,.int .i64 0,.str ⟨#[]⟩,.nils,.nils] [(0,(s.τ 118)),(1,(s.τ 119))] s fun s=>
 Bd 121 [.int .i64 0,.str ⟨#[]⟩,.str ⟨#[]⟩,.int .i64 0,.int .i64 0,.str ⟨#[]⟩,.nils,.nils] [(0,1,(.int .i64 11)),(7,1,(s.τ 120))] s fun s=>
 U 8 4 121 s fun s=>
 Φ .ret s
def W74_b21 (Φ:EP) (s:St):Prop:=
 M 124 7 s fun s=>
 Bd 125 [.int .i64 0,.str ⟨#[]⟩,.str ⟨#[]⟩,.int .i64 0,.int .i64 0,.str ⟨#[]⟩,.nils,.nils] [(0,1,(.int .i64 13)),(1,1,(s.τ 124))] s fun s=>
 U 8 4 125 s fun s=>
 Φ .ret s
def W74_b22 (Φ:EP) (s:St):Prop:=
 Bd 128 [.int .i64 0,.str ⟨#[]⟩,.str ⟨#[]⟩,.int .i64 0,.int .i64 0,.str ⟨#[]⟩,.nils,.nils] [(0,1,(.int .i64 0))] s fun s=>
 U 8 4 128 s fun s=>
 Φ .ret s
def W74_b23 (Φ:EP) (s:St):Prop:=
 L 129 8 8 true s fun s=>
 L 130 8 9 true s fun s=>
 Lt 131 8 2 [.int .i64 0,.str ⟨#[]⟩,.str ⟨#[]⟩,.int .i64 0,.int .i64 0,.str ⟨#[]⟩,.nils,.nils] [(0,(s.τ 129)),(1,(s.τ 130))] s fun s=>
 Bd 132 [.int .i64 0,.str ⟨#[]⟩,.str ⟨#[]⟩,.int .i64 0,.int .i64 0,.str ⟨#[]⟩,.nils,.nils] [(0,1,(.int .i64 12)),(7,1,(s.τ 131))] s fun s=>
 U 8 4 132 s fun s=>
 Φ .ret s
def W74_b24 (Φ:EP) (s:St):Prop:=
 J 127 .eql false 36 17 s fun s=>
 M 126 127 s fun s=>
 If 126 s (W74_b22 Φ s) (W74_b23 Φ s)
def W74_b25 (Φ:EP) (s:St):Prop:=
 J 123 .eql false 36 16 s fun s=>
 M 122 123 s fun s=>
 If 122 s (W74_b21 Φ s) (W74_b24 Φ s)
def W74_k26 (Φ:EP) (s:St):Prop:=
 If 115 s (W74_b20 Φ s) (W74_b25 Φ s)
def W74_b27 (Φ:EP) (s:St):Prop:=
 J 117 .eql false 36 15 s fun s=>
 M 115 117 s fun s=>
 W74_k26 Φ s
def W74_b28 (Φ:EP) (s:St):Prop:=
 J 116 .eql false 36 14 s fun s=>
 M 115 116 s fun s=>
 If 115 s (W74_k26 Φ s) (W74_b27 Φ s)
def W74_b29 (Φ:EP) (s:St):Prop:=
 J 110 .eql false 36 13 s fun s=>
 M 109 110 s fun s=>
 If 109 s (W74_b19 Φ s) (W74_b28 Φ s)
def W74_b30 (Φ:EP) (s:St):Prop:=
 J 100 .eql false 36 12 s fun s=>
 M 99 100 s fun s=>
 If 99 s (W74_b18 Φ s) (W74_b29 Φ s)
def W74_b31 (Φ:EP) (s:St):Prop:=
 J 97 .eql false 36 11 s fun s=>
 M 96 97 s fun s=>
 If 96 s (W74_b15 Φ s) (W74_b30 Φ s)
def W74_b32 (Φ:EP) (s:St):Prop:=
 J 92 .eql false 36 10 s fun s=>
 M 91 92 s fun s=>
 If 91 s (W74_b14 Φ s) (W74_b31 Φ s)
def W74_b33 (Φ:EP) (s:St):Prop:=
 J 82 .eql false 36 9 s fun s=>
 M 81 82 s fun s=>
 If 81 s (W74_b13 Φ s) (W74_b32 Φ s)
def W74_b34 (Φ:EP) (s:St):Prop:=
 J 78 .eql false 36 8 s fun s=>
 M 77 78 s fun s=>
 If 77 s (W74_b10 Φ s) (W74_b33 Φ s)
def W74_b35 (Φ:EP) (s:St):Prop:=
 J 74 .eql false 36 7 s fun s=>
 M 73 74 s fun s=>
 If 73 s (W74_b9 Φ s) (W74_b34 Φ s)
def W74_k36 (Φ:EP) (s:St):Prop:=
 If 66 s (W74_b8 Φ s) (W74_b35 Φ s)
def W74_b37 (Φ:EP) (s:St):Prop:=
 J 68 .eql false 36 6 s fun s=>
 M 66 68 s fun s=>
 W74_k36 Φ s
def W74_b38 (Φ:EP) (s:St):Prop:=
 J 67 .eql false 36 5 s fun s=>
 M 66 67 s fun s=>
 If 66 s (W74_k36 Φ s) (W74_b37 Φ s)
def W74_b39 (Φ:EP) (s:St):Prop:=
 J 59 .eql false 36 4 s fun s=>
 M 58 59 s fun s=>
 If 58 s (W74_b7 Φ s) (W74_b38 Φ s)
def W74_k40 (Φ:EP) (s:St):Prop:=
 If 47 s (W74_b4 Φ s) (W74_b39 Φ s)
def W74_b41 (Φ:EP) (s:St):Prop:=
 J 49 .eql false 36 3 s fun s=>
 M 47 49 s fun s=>
 W74_k40 Φ s
def W74_b42 (Φ:EP) (s:St):Prop:=
 J 48 .eql false 36 2 s fun s=>
 M 47 48 s fun s=>
 If 47 s (W74_k40 Φ s) (W74_b41 Φ s)
def W74_k43 (Φ:EP) (s:St):Prop:=
 If 37 s (W74_b2 Φ s) (W74_b42 Φ s)
def W74_b44 (Φ:EP) (s:St):Prop:=
 J 39 .eql false 36 1 s fun s=>
 M 37 39 s fun s=>
 W74_k43 Φ s
def W74 (Φ:EP) (s:St):Prop:=
 Y 2 69 0 s fun s=>
 Z 4 80 [.int .i64 0,.str ⟨#[]⟩,.str ⟨#[]⟩,.int .i64 0,.int .i64 0,.str ⟨#[]⟩,.nils,.nils] s fun s=>
 C0 Tryz.prog 71 [] 10 s fun u1=>
 @sChk (compat (cfp 10 71 []) (occ (u1.τ 2),[])) <| .mk <|
 F 11 1 2 u1 fun u2=>
 @sChk (compat (cfp 10 71 []) (occ (u2.τ 11),[])) <| .mk <|
 L 12 1 11 false u2 fun u3=>
 C0 Tryz.prog 72 [(u3.τ 12),(.int .i64 3)] 13 u3 fun u4=>
 X 14 1 10 13 u4 fun u5=>
 L 15 1 14 false u5 fun u6=>
 k3 (u4.τ 10) (cfp 16 70 []) <|
 k3 (u5.τ 14) (cfp 16 70 []) <|
 C0 Tryz.prog 70 [] 16 u6 fun u7=>
 @sChk (compat (cfp 10 71 []) (occ (u7.τ 2),[])) <| .mk <|
 @sChk (compat (cfp 13 72 [(u3.τ 12),(.int .i64 3)]) (occ (u7.τ 2),[])) <| .mk <|
 @sChk (compat (cfp 16 70 []) (occ (u7.τ 2),[])) <| .mk <|
 F 17 1 2 u7 fun u8=>
 @sChk (compat (cfp 10 71 []) (occ (u8.τ 17),[])) <| .mk <|
 @sChk (compat (cfp 13 72 [(u3.τ 12),(.int .i64 3)]) (occ (u8.τ 17),[])) <| .mk <|
 @sChk (compat (cfp 16 70 []) (occ (u8.τ 17),[])) <| .mk <|
 L 18 1 17 false u8 fun u9=>
 k3 (u4.τ 10) (cfp 19 72 [(u9.τ 18),(.int .i64 2)]) <|
 k3 (u5.τ 14) (cfp 19 72 [(u9.τ 18),(.int .i64 2)]) <|
 C0 Tryz.prog 72 [(u9.τ 18),(.int .i64 2)] 19 u9 fun u10=>
 X 20 1 16 19 u10 fun u11=>
 L 21 1 20 false u11 fun u12=>
 k3 (u4.τ 10) (cfp 22 73 []) <|
 k3 (u5.τ 14) (cfp 22 73 []) <|
 k3 (u10.τ 16) (cfp 22 73 []) <|
 k3 (u11.τ 20) (cfp 22 73 []) <|
 C0 Tryz.prog 73 [] 22 u12 fun u13=>
 @sChk (compat (cfp 10 71 []) (occ (u13.τ 2),[])) <| .mk <|
 @sChk (compat (cfp 13 72 [(u3.τ 12),(.int .i64 3)]) (occ (u13.τ 2),[])) <| .mk <|
 @sChk (compat (cfp 16 70 []) (occ (u13.τ 2),[])) <| .mk <|
 @sChk (compat (cfp 19 72 [(u9.τ 18),(.int .i64 2)]) (occ (u13.τ 2),[])) <| .mk <|
 @sChk (compat (cfp 22 73 []) (occ (u13.τ 2),[])) <| .mk <|
 F 23 1 2 u13 fun u14=>
 @sChk (compat (cfp 10 71 []) (occ (u14.τ 23),[])) <| .mk <|
 @sChk (compat (cfp 13 72 [(u3.τ 12),(.int .i64 3)]) (occ (u14.τ 23),[])) <| .mk <|
 @sChk (compat (cfp 16 70 []) (occ (u14.τ 23),[])) <| .mk <|
 @sChk (compat (cfp 19 72 [(u9.τ 18),(.int .i64 2)]) (occ (u14.τ 23),[])) <| .mk <|
 @sChk (compat (cfp 22 73 []) (occ (u14.τ 23),[])) <| .mk <|
 L 24 1 23 false u14 fun u15=>
 k3 (u4.τ 10) (cfp 25 72 [(u15.τ 24),(.int .i64 5)]) <|
 k3 (u5.τ 14) (cfp 25 72 [(u15.τ 24),(.int .i64 5)]) <|
 k3 (u10.τ 16) (cfp 25 72 [(u15.τ 24),(.int .i64 5)]) <|
 k3 (u11.τ 20) (cfp 25 72 [(u15.τ 24),(.int .i64 5)]) <|
 C0 Tryz.prog 72 [(u15.τ 24),(.int .i64 5)] 25 u15 fun u16=>
 X 26 1 22 25 u16 fun u17=>
 L 27 1 26 false u17 fun u18=>
 M 5 15 u18 fun u19=>
 M 6 21 u19 fun u20=>
 M 7 27 u20 fun s=>
 L 28 5 2 true s fun u1=>
 M 29 1 u1 fun u2=>
 C0 Tryz.prog 99 [(u2.τ 28),(.int .i64 0),(u2.τ 29)] 30 u2 fun u3=>
 @sChk (compat (cfp 30 99 [(u2.τ 28),(.int .i64 0),(u2.τ 29)]) (occ (u3.τ 2),[])) <| .mk <|
 L 31 5 2 true u3 fun u4=>
 M 32 1 u4 fun u5=>
 C0 Tryz.prog 99 [(u5.τ 31),(.int .i64 1),(u5.τ 32)] 33 u5 fun u6=>
 k1 (s.τ 2) 8 <|
 k2 (cfp 30 99 [(u2.τ 28),(.int .i64 0),(u2.τ 29)]) 8 <|
 k1 (u3.τ 2) 8 <|
 k2 (cfp 33 99 [(u5.τ 31),(.int .i64 1),(u5.τ 32)]) 8 <|
 Z 8 80 [.int .i64 0,.str ⟨#[]⟩,.str ⟨#[]⟩,.int .i64 0,.int .i64 0,.str ⟨#[]⟩,.nils,.nils] u6 fun u7=>
 k1 (s.τ 2) 9 <|
 k2 (cfp 30 99 [(u2.τ 28),(.int .i64 0),(u2.τ 29)]) 9 <|
 k1 (u3.τ 2) 9 <|
 k2 (cfp 33 99 [(u5.τ 31),(.int .i64 1),(u5.τ 32)]) 9 <|
 k2 ([8],[8]) 9 <|
 Z 9 80 [.int .i64 0,.str ⟨#[]⟩,.str ⟨#[]⟩,.int .i64 0,.int .i64 0,.str ⟨#[]⟩,.nils,.nils] u7 fun u8=>
 U 8 8 30 u8 fun u9=>
 U 8 9 33 u9 fun s=>
 F 34 0 2 s fun s=>
 L 35 1 34 false s fun s=>
 Ca Tryz.prog 72 [(s.τ 35),(.int .i64 20)] 36 s fun s=>
 J 38 .eql false 36 0 s fun s=>
 M 37 38 s fun s=>
 If 37 s (W74_k43 Φ s) (W74_b44 Φ s)
theorem W74_rs (τ:Nat → AV) (H:Heap):resV Tryz.prog τ H [.cell 4 80] = rdV H 8 true (τ 4):=by kernel_rfl
theorem W74_eq:EqW Tryz.prog Tryz.f74 W74:=fun _ _=>by kernel_rfl
theorem W74_S:SpW Tryz.prog 74 133 [.cell 4 80] W74:=spW Tryz.func74 Tryz.ntmps74 W74_eq
-- 75 "penance/term.Norm$1"
def W75 (Φ:EP) (s:St):Prop:=
 Y 1 35 0 s fun s=>
 V 2 false s fun s=>
 F 3 0 1 s fun s=>
 L 4 1 3 false s fun s=>
 J 5 .eql false 4 0 s fun s=>
 M 2 5 s fun s=>
 Φ .ret s
theorem W75_rs (τ:Nat → AV) (H:Heap):resV Tryz.prog τ H [.tmp 2] = some (τ 2):=by kernel_rfl
theorem W75_eq:EqW Tryz.prog Tryz.f75 W75:=fun _ _=>by kernel_rfl
theorem W75_S:SpW Tryz.prog 75 6 [.tmp 2] W75:=spW Tryz.func75 Tryz.ntmps75 W75_eq
-- 76 "penance/term.own"
def W76_k3 (Φ:EP) (s:St):Prop:=
 M 23 3 s fun u1=>
 C0 Tryz.prog 82 [(u1.τ 23)] 24 u1 fun u2=>
 @sChk (compat (cfp 24 82 [(u1.τ 23)]) (occ (u2.τ 1),[])) <| .mk <|
 F 25 4 1 u2 fun u3=>
 @sChk (compat (cfp 24 82 [(u1.τ 23)]) (occ (u3.τ 25),[])) <| .mk <|
 L 26 4 25 true u3 fun u4=>
 C0 Tryz.prog 101 [(u4.τ 26)] 27 u4 fun u5=>
 @sChk (compat (cfp 27 101 [(u4.τ 26)]) (occ (u5.τ 1),[])) <| .mk <|
 F 28 8 1 u5 fun u6=>
 U 1 28 24 u6 fun u7=>
 F 29 4 1 u7 fun u8=>
 U 4 29 27 u8 fun s=>
 L 30 9 1 true s fun s=>
 U 9 2 30 s fun s=>
 Φ .ret s
def W76_b5 (Φ:EP) (L0:SP) (s:St):Prop:=
 X 15 9 11 13 s fun s=>
 L 16 9 15 true s fun s=>
 Z 5 35 z9 s fun s=>
 U 9 5 16 s fun s=>
 M 17 3 s fun s=>
 L 18 9 5 true s fun s=>
 Ca Tryz.prog 76 [(s.τ 18)] 19 s fun s=>
 Lt 20 9 1 z9 [(0,(s.τ 19))] s fun s=>
 @sOp (some 21) (xApp Tryz.prog 35 9 120 (some 21) (s.τ 17) (s.τ 20) s.H) s<|.mk fun s=>
 M 3 21 s fun s=>
 J 22 .add false 13 1 s fun s=>
 M 13 22 s fun s=>
 L0 s
def W76_l6 (Φ:EP) (L0:SP) (s:St):Prop:=
 B 14 .lss false 13 12 s fun s=>
 If 14 s (W76_b5 Φ L0 s) (W76_k3 Φ s)
def W76 (Φ:EP) (s:St):Prop:=
 Y 1 35 0 s fun s=>
 Z 2 35 z9 s fun s=>
 F 6 8 1 s fun s=>
 L 7 1 6 false s fun s=>
 N 8 7 s fun s=>
 @sOp (some 9) (xMks 9 35 9 120 z9 (.int .i64 0) (s.τ 8) s.H) s<|.mk fun s=>
 M 3 9 s fun s=>
 F 10 8 1 s fun s=>
 L 11 1 10 false s fun s=>
 N 12 11 s fun s=>
 I 13 0 s fun s=>
 @sLoop s ⟨fun L0 s=>W76_l6 Φ L0 s⟩
theorem W76_rs (τ:Nat → AV) (H:Heap):resV Tryz.prog τ H [.cell 2 35] = rdV H 9 true (τ 2):=by kernel_rfl
theorem W76_eq:EqW Tryz.prog Tryz.f76 W76:=fun _ _=>by kernel_rfl
theorem W76_S:SpW Tryz.prog 76 31 [.cell 2 35] W76:=spW Tryz.func76 Tryz.ntmps76 W76_eq
-- 77 "penance/stacks.own"
def W77 (Φ:EP) (s:St):Prop:=
 @sOp (some 2) (xMov (.nils) s.H) s<|.mk fun s=>
 M 3 0 s fun s=>
 Ca Tryz.prog 102 [(s.τ 3),(.func 103 [])] 4 s fun s=>
 M 2 4 s fun s=>
 Φ .ret s
theorem W77_rs (τ:Nat → AV) (H:Heap):resV Tryz.prog τ H [.tmp 2] = some (τ 2):=by kernel_rfl
theorem W77_eq:EqW Tryz.prog Tryz.f77 W77:=fun _ _=>by kernel_rfl
theorem W77_S:SpW Tryz.prog 77 5 [.tmp 2] W77:=spW Tryz.func77 Tryz.ntmps77 W77_eq
-- 78 "penance/stacks.is"
def W78 (Φ:EP) (s:St):Prop:=
 V 4 false s fun s=>
 M 5 1 s fun s=>
 J 6 .geq false 5 0 s fun s=>
 M 7 6 s fun s=>
 gm 8 1 7 true s fun s=>
 gm 9 0 7 true s fun s=>
 go 10 7 true s (fun s=>(xLen (s.τ 9) s.H)) fun s=>
 go 11 7 true s (fun s=>(xBin .lss false (s.τ 8) (s.τ 10) s.H)) fun s=>
 A 12 7 11 s fun s=>
 M 4 12 s fun s=>
 Φ .ret s
theorem W78_rs (τ:Nat → AV) (H:Heap):resV Tryz.prog τ H [.tmp 4] = some (τ 4):=by kernel_rfl
theorem W78_eq:EqW Tryz.prog Tryz.f78 W78:=fun _ _=>by kernel_rfl
theorem W78_S:SpW Tryz.prog 78 13 [.tmp 4] W78:=spW Tryz.func78 Tryz.ntmps78 W78_eq
-- 79 "penance/penanceref2.Same"
def W79_b1 (Φ:EP) (s:St):Prop:=
 V 4 false s fun s=>
 Φ .ret s
def W79_k2 (Φ:EP) (s:St):Prop:=
 V 4 true s fun s=>
 Φ .ret s
def W79_b3 (Φ:EP) (L0:SP) (s:St):Prop:=
 V 4 false s fun s=>
 Φ .ret s
def W79_b4 (Φ:EP) (L0:SP) (s:St):Prop:=
 M 39 5 s fun s=>
 J 40 .add false 39 1 s fun s=>
 M 5 40 s fun s=>
 L0 s
def W79_b6 (Φ:EP) (L0:SP) (s:St):Prop:=
 F 41 3 2 s fun s=>
 L 42 1 41 false s fun s=>
 M 43 5 s fun s=>
 X 44 4 42 43 s fun s=>
 L 45 4 44 true s fun s=>
 F 46 3 3 s fun s=>
 L 47 1 46 false s fun s=>
 M 48 5 s fun s=>
 X 49 4 47 48 s fun s=>
 L 50 4 49 true s fun s=>
 C0 Tryz.prog 79 [(s.τ 45),(s.τ 50)] 51 s fun s=>
 Q 52 51 s fun s=>
 If 52 s (W79_b3 Φ L0 s) (W79_b4 Φ L0 s)
def W79_l7 (Φ:EP) (L0:SP) (s:St):Prop:=
 M 34 5 s fun s=>
 F 35 3 2 s fun s=>
 L 36 1 35 false s fun s=>
 N 37 36 s fun s=>
 B 38 .lss false 34 37 s fun s=>
 If 38 s (W79_b6 Φ L0 s) (W79_k2 Φ s)
def W79_b8 (Φ:EP) (s:St):Prop:=
 I 5 0 s fun s=>
 @sLoop s ⟨fun L0 s=>W79_l7 Φ L0 s⟩
def W79 (Φ:EP) (s:St):Prop:=
 Y 2 33 0 s fun s=>
 Y 3 33 1 s fun s=>
 V 4 false s fun s=>
 F 6 0 2 s fun s=>
 L 7 1 6 false s fun s=>
 F 8 0 3 s fun s=>
 L 9 1 8 false s fun s=>
 B 10 .neq false 7 9 s fun s=>
 M 11 10 s fun s=>
 gf 12 1 2 11 false s fun s=>
 gl 13 1 12 11 false false s fun s=>
 gf 14 1 3 11 false s fun s=>
 gl 15 1 14 11 false false s fun s=>
 go 16 11 false s (fun s=>(xBin .neq false (s.τ 13) (s.τ 15) s.H)) fun s=>
 O 17 11 16 s fun s=>
 M 18 17 s fun s=>
 gf 19 2 2 18 false s fun s=>
 gl 20 1 19 18 false false s fun s=>
 gf 21 2 3 18 false s fun s=>
 gl 22 1 21 18 false false s fun s=>
 go 23 18 false s (fun s=>(xBin .neq false (s.τ 20) (s.τ 22) s.H)) fun s=>
 O 24 18 23 s fun s=>
 M 25 24 s fun s=>
 gf 26 3 2 25 false s fun s=>
 gl 27 1 26 25 false false s fun s=>
 go 28 25 false s (fun s=>(xLen (s.τ 27) s.H)) fun s=>
 gf 29 3 3 25 false s fun s=>
 gl 30 1 29 25 false false s fun s=>
 go 31 25 false s (fun s=>(xLen (s.τ 30) s.H)) fun s=>
 go 32 25 false s (fun s=>(xBin .neq false (s.τ 28) (s.τ 31) s.H)) fun s=>
 O 33 25 32 s fun s=>
 If 33 s (W79_b1 Φ s) (W79_b8 Φ s)
theorem W79_rs (τ:Nat → AV) (H:Heap):resV Tryz.prog τ H [.tmp 4] = some (τ 4):=by kernel_rfl
theorem W79_eq:EqW Tryz.prog Tryz.f79 W79:=fun _ _=>by kernel_rfl
theorem W79_S:SpW Tryz.prog 79 53 [.tmp 4] W79:=spW Tryz.func79 Tryz.ntmps79 W79_eq
-- 80 "penance/run.nodes"
def W80 (Φ:EP) (s:St):Prop:=
 Y 1 35 0 s fun s=>
 @sOp (some 2) (xMov (.nilf) s.H) s<|.mk fun s=>
 @sOp (some 3) (xMkf 105 [(s.τ 1)] s.H) s<|.mk fun s=>
 M 2 3 s fun s=>
 Φ .ret s
theorem W80_rs (τ:Nat → AV) (H:Heap):resV Tryz.prog τ H [.tmp 2] = some (τ 2):=by kernel_rfl
theorem W80_eq:EqW Tryz.prog Tryz.f80 W80:=fun _ _=>by kernel_rfl
theorem W80_S:SpW Tryz.prog 80 4 [.tmp 2] W80:=spW Tryz.func80 Tryz.ntmps80 W80_eq
end Go.Proofs.YtnngddgaobhkiaaGreat
