import Derived.Test.YtnngddgaobhkiaaGA5
import Derived.Test.YtnngddgaobhkiaaProg
import Derived.KernelRfl
set_option linter.unusedVariables false
set_option maxRecDepth 100000
namespace Go.Proofs.Ytnngddgaobhkiaa
open Go Go.Am
-- 3 "penance/penancelaw8.RunLast"
def W3_b1 (Φ : EP) (s : St) : Prop :=
  @sOp (some 6) (xMov (.bool false) s.H) s <| .mk fun s =>
  Φ .ret s
def W3_k7 (Φ : EP) (s : St) : Prop :=
  @sMv 162 18 s <| .mk fun s =>
  @sMv 163 11 s <| .mk fun s =>
  @sCall Try.prog (.func 12 []) [(s.τ 162), (s.τ 163)] (some 164) s <| .mk fun s =>
  @sMv 165 164 s <| .mk fun s =>
  @sGf 166 0 17 165 true s <| .mk fun s =>
  @sGf 167 0 166 165 true s <| .mk fun s =>
  @sGl 168 1 167 165 false true s <| .mk fun s =>
  @sGo 169 165 true s (fun s => (xBin .eql false (s.τ 168) (.int .i64 0) s.H)) <| .mk fun s =>
  @sOp (some 170) (xPick (s.τ 165) (s.τ 169) (.bool false) s.H) s <| .mk fun s =>
  @sMv 6 170 s <| .mk fun s =>
  Φ .ret s
def W3_k8 (Φ : EP) (L0 : SP) (s : St) : Prop :=
  @sMv 131 19 s <| .mk fun s =>
  @sOp (some 132) (xBin .add false (s.τ 131) (.int .i64 1) s.H) s <| .mk fun s =>
  @sMv 19 132 s <| .mk fun s =>
  L0 s
def W3_b9 (Φ : EP) (L0 : SP) (s : St) : Prop :=
  @sOp (some 6) (xMov (.bool false) s.H) s <| .mk fun s =>
  Φ .ret s
def W3_b10 (Φ : EP) (L0 : SP) (s : St) : Prop :=
  @sLd 161 13 24 true s <| .mk fun s =>
  @sOp none (xStore 13 (s.τ 17) (s.τ 161) s.H) s <| .mk fun s =>
  W3_k8 Φ L0 s
def W3_b12 (Φ : EP) (L0 : SP) (s : St) : Prop :=
  @sMv 145 18 s <| .mk fun s =>
  @sFl 146 0 21 s <| .mk fun s =>
  @sLd 147 1 146 false s <| .mk fun s =>
  @sOp (some 148) (xLit 1 1 [.str ⟨#[]⟩] [(0, (s.τ 147))] s.H) s <| .mk fun s =>
  @sOp (some 149) (xApp Try.prog 9 1 16 (some 149) (s.τ 145) (s.τ 148) s.H) s <| .mk fun s =>
  @sMv 18 149 s <| .mk fun s =>
  @sLd 151 4 16 true s <| .mk fun s =>
  @sLd 152 13 17 true s <| .mk fun s =>
  @sFl 153 1 21 s <| .mk fun s =>
  @sLd 154 1 153 false s <| .mk fun s =>
  @sCall Try.prog (.func 11 []) [(s.τ 151), (s.τ 152), (s.τ 154), (.int .i64 0)] (some 155) s <| .mk fun s =>
  @sMv 150 155 s <| .mk fun s =>
  @sOp (some 156) (xExt (s.τ 150) 0 s.H) s <| .mk fun s =>
  @sOp (some 157) (xExt (s.τ 150) 1 s.H) s <| .mk fun s =>
  @sOp (some 158) (xExt (s.τ 150) 2 s.H) s <| .mk fun s =>
  @sOp (some 24) (xAlloc 24 36 [.int .i64 0, .int .i64 0, .int .i64 0, .str ⟨#[]⟩, .int .i64 0, .int .i64 0, .str ⟨#[]⟩, .nils, .nils, .nils, .nils, .int .i64 0, .int .i64 0] s.H) s <| .mk fun s =>
  @sOp (some 25) (xAlloc 25 39 [.str ⟨#[]⟩, .int .i64 0, .int .i64 0] s.H) s <| .mk fun s =>
  @sOp none (xStore 13 (s.τ 24) (s.τ 156) s.H) s <| .mk fun s =>
  @sOp none (xStore 3 (s.τ 25) (s.τ 157) s.H) s <| .mk fun s =>
  @sMv 26 158 s <| .mk fun s =>
  @sMv 159 26 s <| .mk fun s =>
  @sOp (some 160) (xNot (s.τ 159) s.H) s <| .mk fun s =>
  @sIf (s.τ 160) ⟨W3_b9 Φ L0 s⟩ ⟨W3_b10 Φ L0 s⟩
def W3_b13 (Φ : EP) (L0 : SP) (s : St) : Prop :=
  @sLd 143 13 20 true s <| .mk fun s =>
  @sOp none (xStore 13 (s.τ 17) (s.τ 143) s.H) s <| .mk fun s =>
  @sMv 144 22 s <| .mk fun s =>
  @sIf (s.τ 144) ⟨W3_b12 Φ L0 s⟩ ⟨W3_k8 Φ L0 s⟩
def W3_b15 (Φ : EP) (L0 : SP) (s : St) : Prop :=
  @sLd 134 4 16 true s <| .mk fun s =>
  @sLd 135 13 17 true s <| .mk fun s =>
  @sCall Try.prog (.func 10 []) [(s.τ 134), (s.τ 135), (.int .i64 0)] (some 136) s <| .mk fun s =>
  @sMv 133 136 s <| .mk fun s =>
  @sOp (some 137) (xExt (s.τ 133) 0 s.H) s <| .mk fun s =>
  @sOp (some 138) (xExt (s.τ 133) 1 s.H) s <| .mk fun s =>
  @sOp (some 139) (xExt (s.τ 133) 2 s.H) s <| .mk fun s =>
  @sOp (some 140) (xExt (s.τ 133) 3 s.H) s <| .mk fun s =>
  @sOp (some 20) (xAlloc 20 36 [.int .i64 0, .int .i64 0, .int .i64 0, .str ⟨#[]⟩, .int .i64 0, .int .i64 0, .str ⟨#[]⟩, .nils, .nils, .nils, .nils, .int .i64 0, .int .i64 0] s.H) s <| .mk fun s =>
  @sOp (some 21) (xAlloc 21 39 [.str ⟨#[]⟩, .int .i64 0, .int .i64 0] s.H) s <| .mk fun s =>
  @sOp none (xStore 13 (s.τ 20) (s.τ 137) s.H) s <| .mk fun s =>
  @sOp none (xStore 3 (s.τ 21) (s.τ 138) s.H) s <| .mk fun s =>
  @sMv 22 139 s <| .mk fun s =>
  @sMv 23 140 s <| .mk fun s =>
  @sMv 141 23 s <| .mk fun s =>
  @sOp (some 142) (xBin .neq false (s.τ 141) (.int .i64 0) s.H) s <| .mk fun s =>
  @sIf (s.τ 142) ⟨W3_k7 Φ s⟩ ⟨W3_b13 Φ L0 s⟩
def W3_l16 (Φ : EP) (L0 : SP) (s : St) : Prop :=
  @sMv 129 19 s <| .mk fun s =>
  @sOp (some 130) (xBin .lss false (s.τ 129) (.int .i64 60) s.H) s <| .mk fun s =>
  @sIf (s.τ 130) ⟨W3_b15 Φ L0 s⟩ ⟨W3_k7 Φ s⟩
def W3_k18 (Φ : EP) (s : St) : Prop :=
  @sLd 124 9 14 true s <| .mk fun s =>
  @sOp (some 125) (xLit 9 1 [.int .i64 0, .int .i64 0, .int .i64 0, .str ⟨#[]⟩, .int .i64 0, .int .i64 0, .str ⟨#[]⟩, .nils, .nils] [(0, (s.τ 124))] s.H) s <| .mk fun s =>
  @sOp (some 126) (xBuild [.nils, .int .i64 0, .nils, .int .i64 0] [(1, 1, (.int .i64 2)), (2, 1, (s.τ 125))] s.H) s <| .mk fun s =>
  @sOp (some 16) (xAlloc 16 33 [.nils, .int .i64 0, .nils, .int .i64 0] s.H) s <| .mk fun s =>
  @sOp none (xStore 4 (s.τ 16) (s.τ 126) s.H) s <| .mk fun s =>
  @sLd 127 4 16 true s <| .mk fun s =>
  @sCall Try.prog (.func 9 []) [(s.τ 127)] (some 128) s <| .mk fun s =>
  @sOp (some 17) (xAlloc 17 36 [.int .i64 0, .int .i64 0, .int .i64 0, .str ⟨#[]⟩, .int .i64 0, .int .i64 0, .str ⟨#[]⟩, .nils, .nils, .nils, .nils, .int .i64 0, .int .i64 0] s.H) s <| .mk fun s =>
  @sOp none (xStore 13 (s.τ 17) (s.τ 128) s.H) s <| .mk fun s =>
  @sOp (some 18) (xMov (.nils) s.H) s <| .mk fun s =>
  @sOp (some 19) (xMov (.int .i64 0) s.H) s <| .mk fun s =>
  @sLoop s ⟨fun L0 s => W3_l16 Φ L0 s⟩
def W3_b19 (Φ : EP) (L0 : SP) (s : St) : Prop :=
  @sMv 116 9 s <| .mk fun s =>
  @sMv 117 15 s <| .mk fun s =>
  @sOp (some 118) (xBin .sub false (s.τ 117) (.int .i64 1) s.H) s <| .mk fun s =>
  @sOp (some 119) (xIx 9 (s.τ 116) (s.τ 118) s.H) s <| .mk fun s =>
  @sLd 120 9 119 true s <| .mk fun s =>
  @sLd 121 9 14 true s <| .mk fun s =>
  @sOp (some 122) (xLit 9 2 [.int .i64 0, .int .i64 0, .int .i64 0, .str ⟨#[]⟩, .int .i64 0, .int .i64 0, .str ⟨#[]⟩, .nils, .nils] [(0, (s.τ 120)), (1, (s.τ 121))] s.H) s <| .mk fun s =>
  @sOp (some 123) (xBuild [.int .i64 0, .int .i64 0, .int .i64 0, .str ⟨#[]⟩, .int .i64 0, .int .i64 0, .str ⟨#[]⟩, .nils, .nils] [(0, 1, (.int .i64 12)), (8, 1, (s.τ 122))] s.H) s <| .mk fun s =>
  @sOp none (xStore 9 (s.τ 14) (s.τ 123) s.H) s <| .mk fun s =>
  @sMv 114 15 s <| .mk fun s =>
  @sOp (some 115) (xBin .sub false (s.τ 114) (.int .i64 1) s.H) s <| .mk fun s =>
  @sMv 15 115 s <| .mk fun s =>
  L0 s
def W3_l20 (Φ : EP) (L0 : SP) (s : St) : Prop :=
  @sMv 112 15 s <| .mk fun s =>
  @sOp (some 113) (xBin .gtr false (s.τ 112) (.int .i64 0) s.H) s <| .mk fun s =>
  @sIf (s.τ 113) ⟨W3_b19 Φ L0 s⟩ ⟨W3_k18 Φ s⟩
def W3_k21 (Φ : EP) (s : St) : Prop :=
  @sMv 103 9 s <| .mk fun s =>
  @sMv 104 9 s <| .mk fun s =>
  @sOp (some 105) (xLen (s.τ 104) s.H) s <| .mk fun s =>
  @sOp (some 106) (xBin .sub false (s.τ 105) (.int .i64 1) s.H) s <| .mk fun s =>
  @sOp (some 107) (xIx 9 (s.τ 103) (s.τ 106) s.H) s <| .mk fun s =>
  @sLd 108 9 107 true s <| .mk fun s =>
  @sOp (some 14) (xAlloc 14 29 [.int .i64 0, .int .i64 0, .int .i64 0, .str ⟨#[]⟩, .int .i64 0, .int .i64 0, .str ⟨#[]⟩, .nils, .nils] s.H) s <| .mk fun s =>
  @sOp none (xStore 9 (s.τ 14) (s.τ 108) s.H) s <| .mk fun s =>
  @sMv 109 9 s <| .mk fun s =>
  @sOp (some 110) (xLen (s.τ 109) s.H) s <| .mk fun s =>
  @sOp (some 111) (xBin .sub false (s.τ 110) (.int .i64 1) s.H) s <| .mk fun s =>
  @sMv 15 111 s <| .mk fun s =>
  @sLoop s ⟨fun L0 s => W3_l20 Φ L0 s⟩
def W3_b22 (Φ : EP) (L0 : SP) (s : St) : Prop :=
  @sMv 95 11 s <| .mk fun s =>
  @sMv 96 13 s <| .mk fun s =>
  @sOp (some 97) (xBin .sub false (s.τ 96) (.int .i64 1) s.H) s <| .mk fun s =>
  @sMv 98 13 s <| .mk fun s =>
  @sOp (some 99) (xSsl (.str ⟨#[97, 98, 99, 100, 101, 102]⟩) (some (s.τ 97)) (some (s.τ 98)) s.H) s <| .mk fun s =>
  @sOp (some 100) (xBin .add false (.str ⟨#[117, 110]⟩) (s.τ 99) s.H) s <| .mk fun s =>
  @sOp (some 101) (xLit 1 1 [.str ⟨#[]⟩] [(0, (s.τ 100))] s.H) s <| .mk fun s =>
  @sOp (some 102) (xApp Try.prog 9 1 16 (some 102) (s.τ 95) (s.τ 101) s.H) s <| .mk fun s =>
  @sMv 11 102 s <| .mk fun s =>
  @sMv 93 13 s <| .mk fun s =>
  @sOp (some 94) (xBin .sub false (s.τ 93) (.int .i64 1) s.H) s <| .mk fun s =>
  @sMv 13 94 s <| .mk fun s =>
  L0 s
def W3_l23 (Φ : EP) (L0 : SP) (s : St) : Prop :=
  @sMv 90 13 s <| .mk fun s =>
  @sMv 91 8 s <| .mk fun s =>
  @sOp (some 92) (xBin .gtr false (s.τ 90) (s.τ 91) s.H) s <| .mk fun s =>
  @sIf (s.τ 92) ⟨W3_b22 Φ L0 s⟩ ⟨W3_k21 Φ s⟩
def W3_k24 (Φ : EP) (s : St) : Prop :=
  @sMv 89 7 s <| .mk fun s =>
  @sMv 13 89 s <| .mk fun s =>
  @sLoop s ⟨fun L0 s => W3_l23 Φ L0 s⟩
def W3_b25 (Φ : EP) (L0 : SP) (s : St) : Prop :=
  @sMv 81 11 s <| .mk fun s =>
  @sMv 82 12 s <| .mk fun s =>
  @sMv 83 12 s <| .mk fun s =>
  @sOp (some 84) (xBin .add false (s.τ 83) (.int .i64 1) s.H) s <| .mk fun s =>
  @sOp (some 85) (xSsl (.str ⟨#[97, 98, 99, 100, 101, 102]⟩) (some (s.τ 82)) (some (s.τ 84)) s.H) s <| .mk fun s =>
  @sOp (some 86) (xBin .add false (.str ⟨#[100, 111]⟩) (s.τ 85) s.H) s <| .mk fun s =>
  @sOp (some 87) (xLit 1 1 [.str ⟨#[]⟩] [(0, (s.τ 86))] s.H) s <| .mk fun s =>
  @sOp (some 88) (xApp Try.prog 9 1 16 (some 88) (s.τ 81) (s.τ 87) s.H) s <| .mk fun s =>
  @sMv 11 88 s <| .mk fun s =>
  @sMv 79 12 s <| .mk fun s =>
  @sOp (some 80) (xBin .add false (s.τ 79) (.int .i64 1) s.H) s <| .mk fun s =>
  @sMv 12 80 s <| .mk fun s =>
  L0 s
def W3_l26 (Φ : EP) (L0 : SP) (s : St) : Prop :=
  @sMv 76 12 s <| .mk fun s =>
  @sMv 77 7 s <| .mk fun s =>
  @sOp (some 78) (xBin .lss false (s.τ 76) (s.τ 77) s.H) s <| .mk fun s =>
  @sIf (s.τ 78) ⟨W3_b25 Φ L0 s⟩ ⟨W3_k24 Φ s⟩
def W3_k27 (Φ : EP) (s : St) : Prop :=
  @sOp (some 11) (xMov (.nils) s.H) s <| .mk fun s =>
  @sOp (some 12) (xMov (.int .i64 0) s.H) s <| .mk fun s =>
  @sLoop s ⟨fun L0 s => W3_l26 Φ L0 s⟩
def W3_b28 (Φ : EP) (s : St) : Prop :=
  @sMv 67 9 s <| .mk fun s =>
  @sOp (some 68) (xBuild [.int .i64 0, .int .i64 0, .int .i64 0, .str ⟨#[]⟩, .int .i64 0, .int .i64 0, .str ⟨#[]⟩, .nils, .nils] [(0, 1, (.int .i64 6)), (2, 1, (.int .i64 1))] s.H) s <| .mk fun s =>
  @sOp (some 69) (xBuild [.int .i64 0, .int .i64 0, .int .i64 0, .str ⟨#[]⟩, .int .i64 0, .int .i64 0, .str ⟨#[]⟩, .nils, .nils] [(0, 1, (.int .i64 4)), (1, 1, (.int .i64 1))] s.H) s <| .mk fun s =>
  @sOp (some 70) (xLit 9 2 [.int .i64 0, .int .i64 0, .int .i64 0, .str ⟨#[]⟩, .int .i64 0, .int .i64 0, .str ⟨#[]⟩, .nils, .nils] [(0, (s.τ 68)), (1, (s.τ 69))] s.H) s <| .mk fun s =>
  @sOp (some 71) (xApp Try.prog 29 9 120 (some 71) (s.τ 67) (s.τ 70) s.H) s <| .mk fun s =>
  @sMv 9 71 s <| .mk fun s =>
  W3_k27 Φ s
def W3_b29 (Φ : EP) (s : St) : Prop :=
  @sMv 72 9 s <| .mk fun s =>
  @sOp (some 73) (xBuild [.int .i64 0, .int .i64 0, .int .i64 0, .str ⟨#[]⟩, .int .i64 0, .int .i64 0, .str ⟨#[]⟩, .nils, .nils] [(0, 1, (.int .i64 4))] s.H) s <| .mk fun s =>
  @sOp (some 74) (xLit 9 1 [.int .i64 0, .int .i64 0, .int .i64 0, .str ⟨#[]⟩, .int .i64 0, .int .i64 0, .str ⟨#[]⟩, .nils, .nils] [(0, (s.τ 73))] s.H) s <| .mk fun s =>
  @sOp (some 75) (xApp Try.prog 29 9 120 (some 75) (s.τ 72) (s.τ 74) s.H) s <| .mk fun s =>
  @sMv 9 75 s <| .mk fun s =>
  W3_k27 Φ s
def W3_k30 (Φ : EP) (s : St) : Prop :=
  @sMv 66 2 s <| .mk fun s =>
  @sIf (s.τ 66) ⟨W3_b28 Φ s⟩ ⟨W3_b29 Φ s⟩
def W3_k31 (Φ : EP) (L0 : SP) (s : St) : Prop :=
  @sMv 39 10 s <| .mk fun s =>
  @sOp (some 40) (xBin .add false (s.τ 39) (.int .i64 1) s.H) s <| .mk fun s =>
  @sMv 10 40 s <| .mk fun s =>
  L0 s
def W3_b32 (Φ : EP) (L0 : SP) (s : St) : Prop :=
  @sMv 62 9 s <| .mk fun s =>
  @sOp (some 63) (xBuild [.int .i64 0, .int .i64 0, .int .i64 0, .str ⟨#[]⟩, .int .i64 0, .int .i64 0, .str ⟨#[]⟩, .nils, .nils] [(0, 1, (.int .i64 5))] s.H) s <| .mk fun s =>
  @sOp (some 64) (xLit 9 1 [.int .i64 0, .int .i64 0, .int .i64 0, .str ⟨#[]⟩, .int .i64 0, .int .i64 0, .str ⟨#[]⟩, .nils, .nils] [(0, (s.τ 63))] s.H) s <| .mk fun s =>
  @sOp (some 65) (xApp Try.prog 29 9 120 (some 65) (s.τ 62) (s.τ 64) s.H) s <| .mk fun s =>
  @sMv 9 65 s <| .mk fun s =>
  W3_k31 Φ L0 s
def W3_b33 (Φ : EP) (L0 : SP) (s : St) : Prop :=
  @sMv 41 9 s <| .mk fun u1 =>
  @sMv 42 10 u1 <| .mk fun u2 =>
  @sMv 43 10 u2 <| .mk fun u3 =>
  @sOp (some 44) (xBin .add false (u3.τ 43) (.int .i64 1) u3.H) u3 <| .mk fun u4 =>
  @sOp (some 45) (xSsl (.str ⟨#[97, 98, 99, 100, 101, 102]⟩) (some (u4.τ 42)) (some (u4.τ 44)) u4.H) u4 <| .mk fun u5 =>
  @sOp (some 46) (xBin .add false (.str ⟨#[100, 111]⟩) (u5.τ 45) u5.H) u5 <| .mk fun u6 =>
  @sOp (some 47) (xBuild [.int .i64 0, .int .i64 0, .int .i64 0, .str ⟨#[]⟩, .int .i64 0, .int .i64 0, .str ⟨#[]⟩, .nils, .nils] [(0, 1, (.int .i64 1)), (1, 1, (.int .i64 (-1))), (3, 1, (u6.τ 46))] u6.H) u6 <| .mk fun u7 =>
  @sMv 48 10 u7 <| .mk fun u8 =>
  @sMv 49 10 u8 <| .mk fun u9 =>
  @sOp (some 50) (xBin .add false (u9.τ 49) (.int .i64 1) u9.H) u9 <| .mk fun u10 =>
  @sOp (some 51) (xSsl (.str ⟨#[97, 98, 99, 100, 101, 102]⟩) (some (u10.τ 48)) (some (u10.τ 50)) u10.H) u10 <| .mk fun u11 =>
  @sOp (some 52) (xBin .add false (.str ⟨#[117, 110]⟩) (u11.τ 51) u11.H) u11 <| .mk fun u12 =>
  @sOp (some 53) (xBuild [.int .i64 0, .int .i64 0, .int .i64 0, .str ⟨#[]⟩, .int .i64 0, .int .i64 0, .str ⟨#[]⟩, .nils, .nils] [(0, 1, (.int .i64 1)), (1, 1, (.int .i64 (-1))), (3, 1, (u12.τ 52))] u12.H) u12 <| .mk fun u13 =>
  @sChk (compat (occ (.str ⟨#[97, 98, 99, 100, 101, 102]⟩), []) ([54] ++ occL [(u13.τ 53)], [54] ++ occL [(u13.τ 53)])) <| .mk <|
  @sOp (some 54) (xLit 9 1 [.int .i64 0, .int .i64 0, .int .i64 0, .str ⟨#[]⟩, .int .i64 0, .int .i64 0, .str ⟨#[]⟩, .nils, .nils] [(0, (u13.τ 53))] u13.H) u13 <| .mk fun u14 =>
  @sOp (some 55) (xBuild [.int .i64 0, .int .i64 0, .int .i64 0, .str ⟨#[]⟩, .int .i64 0, .int .i64 0, .str ⟨#[]⟩, .nils, .nils] [(0, 1, (.int .i64 3)), (8, 1, (u14.τ 54))] u14.H) u14 <| .mk fun u15 =>
  @sOp (some 56) (xLit 9 2 [.int .i64 0, .int .i64 0, .int .i64 0, .str ⟨#[]⟩, .int .i64 0, .int .i64 0, .str ⟨#[]⟩, .nils, .nils] [(0, (u15.τ 47)), (1, (u15.τ 55))] u15.H) u15 <| .mk fun u16 =>
  @sOp (some 57) (xApp Try.prog 29 9 120 (some 57) (u16.τ 41) (u16.τ 56) u16.H) u16 <| .mk fun u17 =>
  @sMv 9 57 u17 <| .mk fun s =>
  @sMv 58 10 s <| .mk fun s =>
  @sOp (some 59) (xBin .add false (s.τ 58) (.int .i64 1) s.H) s <| .mk fun s =>
  @sMv 60 8 s <| .mk fun s =>
  @sOp (some 61) (xBin .eql false (s.τ 59) (s.τ 60) s.H) s <| .mk fun s =>
  @sIf (s.τ 61) ⟨W3_b32 Φ L0 s⟩ ⟨W3_k31 Φ L0 s⟩
def W3_l34 (Φ : EP) (L0 : SP) (s : St) : Prop :=
  @sMv 36 10 s <| .mk fun s =>
  @sMv 37 7 s <| .mk fun s =>
  @sOp (some 38) (xBin .lss false (s.τ 36) (s.τ 37) s.H) s <| .mk fun s =>
  @sIf (s.τ 38) ⟨W3_b33 Φ L0 s⟩ ⟨W3_k30 Φ s⟩
def W3_b37 (Φ : EP) (s : St) : Prop :=
  @sMv 29 0 s <| .mk fun s =>
  @sCall Try.prog (.func 8 []) [(s.τ 29), (.int .i64 5)] (some 30) s <| .mk fun s =>
  @sOp (some 31) (xBin .add false (.int .i64 1) (s.τ 30) s.H) s <| .mk fun s =>
  @sMv 7 31 s <| .mk fun s =>
  @sMv 32 1 s <| .mk fun s =>
  @sMv 33 7 s <| .mk fun s =>
  @sOp (some 34) (xBin .add false (s.τ 33) (.int .i64 1) s.H) s <| .mk fun s =>
  @sCall Try.prog (.func 8 []) [(s.τ 32), (s.τ 34)] (some 35) s <| .mk fun s =>
  @sMv 8 35 s <| .mk fun s =>
  @sOp (some 9) (xMov (.nils) s.H) s <| .mk fun s =>
  @sOp (some 10) (xMov (.int .i64 0) s.H) s <| .mk fun s =>
  @sLoop s ⟨fun L0 s => W3_l34 Φ L0 s⟩
def W3 (Φ : EP) (s : St) : Prop :=
  @sOp (some 6) (xMov (.bool false) s.H) s <| .mk fun s =>
  @sCall Try.prog (.func 7 []) [] (some 27) s <| .mk fun s =>
  @sOp (some 28) (xNot (s.τ 27) s.H) s <| .mk fun s =>
  @sIf (s.τ 28) ⟨W3_b1 Φ s⟩ ⟨W3_b37 Φ s⟩
theorem W3_rs (τ : Nat → AV) (H : Heap) : resV Try.prog τ H [.tmp 6] = some (τ 6) := by kernel_rfl
theorem W3_eq (Φ : EP) (s : St) : awp Try.prog (Try.f3.body.getD .skip) Φ s = W3 Φ s := by kernel_rfl
theorem W3_S {args : List AV} {r : AV} (hl : args.length ≤ 171) (h : ∀ vs, W3 (retK Try.prog [.tmp 6] r) ⟨Am.look (argT 0 args), hls [] vs, noG⟩) : Am.Spec Try.prog 3 args r := .of_W (W := W3) Try.func3 (by kernel_rfl) (by kernel_rfl) (by kernel_rfl) Try.ntmps3 W3_eq (by kernel_rfl) hl h

-- 4 "penance/penancelaw8.RunFuel"
def W4_b1 (Φ : EP) (s : St) : Prop :=
  @sOp (some 4) (xMov (.bool false) s.H) s <| .mk fun s =>
  Φ .ret s
def W4_k2 (Φ : EP) (s : St) : Prop :=
  @sOp (some 4) (xMov (.bool false) s.H) s <| .mk fun s =>
  Φ .ret s
def W4_b3 (Φ : EP) (L0 : SP) (s : St) : Prop :=
  @sLd 61 13 9 true s <| .mk fun s =>
  @sOp none (xStore 13 (s.τ 7) (s.τ 61) s.H) s <| .mk fun s =>
  @sMv 49 8 s <| .mk fun s =>
  @sOp (some 50) (xBin .add false (s.τ 49) (.int .i64 1) s.H) s <| .mk fun s =>
  @sMv 8 50 s <| .mk fun s =>
  L0 s
def W4_b16 (Φ : EP) (L0 : SP) (s : St) : Prop :=
  @sMv 63 12 s <| .mk fun u1 =>
  @sOp (some 64) (xBin .eql false (u1.τ 63) (.int .i64 11) u1.H) u1 <| .mk fun u2 =>
  @sMv 65 64 u2 <| .mk fun u3 =>
  @sGf 66 10 7 65 true u3 <| .mk fun u4 =>
  @sGl 67 1 66 65 false true u4 <| .mk fun u5 =>
  @sGrd (guardOf (u5.τ 65) true) (some 68) u5 ⟨fun s K => @sCall0 Try.prog (.func 13 []) [(s.τ 67)] (some 68) s ⟨K⟩⟩ <| .mk fun u6 =>
  @sChk (compat (cfp 68 13 [(u5.τ 67)]) (occ (u6.τ 7), [])) <| .mk <|
  @sGf 69 0 7 65 true u6 <| .mk fun u7 =>
  @sChk (compat (cfp 68 13 [(u5.τ 67)]) (occ (u7.τ 69), [])) <| .mk <|
  @sGl 70 9 69 65 true true u7 <| .mk fun u8 =>
  @sGrd (guardOf (u8.τ 65) true) (some 71) u8 ⟨fun s K => @sCall0 Try.prog (.func 14 []) [(s.τ 70)] (some 71) s ⟨K⟩⟩ <| .mk fun u9 =>
  @sGo 72 65 true u9 (fun s => (xBin .add false (s.τ 68) (s.τ 71) s.H)) <| .mk fun u10 =>
  @sGo 73 65 true u10 (fun s => (xBin .leq false (s.τ 72) (.int .i64 2000) s.H)) <| .mk fun u11 =>
  @sOp (some 74) (xPick (u11.τ 65) (u11.τ 73) (.bool false) u11.H) u11 <| .mk fun u12 =>
  @sMv 75 74 u12 <| .mk fun u13 =>
  @sGf 76 10 7 75 true u13 <| .mk fun u14 =>
  @sGl 77 1 76 75 false true u14 <| .mk fun u15 =>
  @sGrd (guardOf (u15.τ 75) true) (some 78) u15 ⟨fun s K => @sCall0 Try.prog (.func 13 []) [(s.τ 77)] (some 78) s ⟨K⟩⟩ <| .mk fun u16 =>
  @sGo 79 75 true u16 (fun s => (xBin .gtr false (s.τ 78) (.int .i64 1900) s.H)) <| .mk fun u17 =>
  @sOp (some 80) (xPick (u17.τ 75) (u17.τ 79) (.bool false) u17.H) u17 <| .mk fun u18 =>
  @sMv 4 80 u18 <| .mk fun s =>
  Φ .ret s
def W4_b20 (Φ : EP) (L0 : SP) (s : St) : Prop :=
  @sMv 81 12 s <| .mk fun s =>
  @sOp (some 82) (xBin .eql false (s.τ 81) (.int .i64 10) s.H) s <| .mk fun s =>
  @sMv 83 82 s <| .mk fun s =>
  @sGf 84 11 7 83 true s <| .mk fun s =>
  @sGl 85 1 84 83 false true s <| .mk fun s =>
  @sGo 86 83 true s (fun s => (xBin .eql false (s.τ 85) (.int .i64 5000) s.H)) <| .mk fun s =>
  @sOp (some 87) (xPick (s.τ 83) (s.τ 86) (.bool false) s.H) s <| .mk fun s =>
  @sMv 4 87 s <| .mk fun s =>
  Φ .ret s
def W4_b21 (Φ : EP) (L0 : SP) (s : St) : Prop :=
  @sMv 62 1 s <| .mk fun s =>
  @sIf (s.τ 62) ⟨W4_b16 Φ L0 s⟩ ⟨W4_b20 Φ L0 s⟩
def W4_b23 (Φ : EP) (L0 : SP) (s : St) : Prop :=
  @sLd 52 4 5 true s <| .mk fun s =>
  @sLd 53 13 7 true s <| .mk fun s =>
  @sCall Try.prog (.func 10 []) [(s.τ 52), (s.τ 53), (.int .i64 0)] (some 54) s <| .mk fun s =>
  @sMv 51 54 s <| .mk fun s =>
  @sOp (some 55) (xExt (s.τ 51) 0 s.H) s <| .mk fun s =>
  @sOp (some 56) (xExt (s.τ 51) 1 s.H) s <| .mk fun s =>
  @sOp (some 57) (xExt (s.τ 51) 2 s.H) s <| .mk fun s =>
  @sOp (some 58) (xExt (s.τ 51) 3 s.H) s <| .mk fun s =>
  @sOp (some 9) (xAlloc 9 36 [.int .i64 0, .int .i64 0, .int .i64 0, .str ⟨#[]⟩, .int .i64 0, .int .i64 0, .str ⟨#[]⟩, .nils, .nils, .nils, .nils, .int .i64 0, .int .i64 0] s.H) s <| .mk fun s =>
  @sOp (some 10) (xAlloc 10 39 [.str ⟨#[]⟩, .int .i64 0, .int .i64 0] s.H) s <| .mk fun s =>
  @sOp none (xStore 13 (s.τ 9) (s.τ 55) s.H) s <| .mk fun s =>
  @sOp none (xStore 3 (s.τ 10) (s.τ 56) s.H) s <| .mk fun s =>
  @sMv 11 57 s <| .mk fun s =>
  @sMv 12 58 s <| .mk fun s =>
  @sMv 59 12 s <| .mk fun s =>
  @sOp (some 60) (xBin .eql false (s.τ 59) (.int .i64 0) s.H) s <| .mk fun s =>
  @sIf (s.τ 60) ⟨W4_b3 Φ L0 s⟩ ⟨W4_b21 Φ L0 s⟩
def W4_l24 (Φ : EP) (L0 : SP) (s : St) : Prop :=
  @sMv 47 8 s <| .mk fun s =>
  @sOp (some 48) (xBin .lss false (s.τ 47) (.int .i64 6000) s.H) s <| .mk fun s =>
  @sIf (s.τ 48) ⟨W4_b23 Φ L0 s⟩ ⟨W4_k2 Φ s⟩
def W4_k26 (Φ : EP) (s : St) : Prop :=
  @sLd 45 4 5 true s <| .mk fun s =>
  @sCall Try.prog (.func 9 []) [(s.τ 45)] (some 46) s <| .mk fun s =>
  @sOp (some 7) (xAlloc 7 36 [.int .i64 0, .int .i64 0, .int .i64 0, .str ⟨#[]⟩, .int .i64 0, .int .i64 0, .str ⟨#[]⟩, .nils, .nils, .nils, .nils, .int .i64 0, .int .i64 0] s.H) s <| .mk fun s =>
  @sOp none (xStore 13 (s.τ 7) (s.τ 46) s.H) s <| .mk fun s =>
  @sOp (some 8) (xMov (.int .i64 0) s.H) s <| .mk fun s =>
  @sLoop s ⟨fun L0 s => W4_l24 Φ L0 s⟩
def W4_b27 (Φ : EP) (L0 : SP) (s : St) : Prop :=
  @sFl 35 2 5 s <| .mk fun u1 =>
  @sLd 36 1 35 false u1 <| .mk fun u2 =>
  @sOp (some 37) (xBuild [.int .i64 0, .int .i64 0, .int .i64 0, .str ⟨#[]⟩, .int .i64 0, .int .i64 0, .str ⟨#[]⟩, .nils, .nils] [] u2.H) u2 <| .mk fun u3 =>
  @sFl 38 2 5 u3 <| .mk fun u4 =>
  @sLd 39 1 38 false u4 <| .mk fun u5 =>
  @sOp (some 40) (xIx 9 (u5.τ 39) (.int .i64 0) u5.H) u5 <| .mk fun u6 =>
  @sLd 41 9 40 true u6 <| .mk fun u7 =>
  @sChk (compat (occ (s.τ 5), []) ([42] ++ occL [(u7.τ 37), (u7.τ 41)], [42] ++ occL [(u7.τ 37), (u7.τ 41)])) <| .mk <|
  @sChk (compat (occ (u1.τ 35), []) ([42] ++ occL [(u7.τ 37), (u7.τ 41)], [42] ++ occL [(u7.τ 37), (u7.τ 41)])) <| .mk <|
  @sOp (some 42) (xLit 9 2 [.int .i64 0, .int .i64 0, .int .i64 0, .str ⟨#[]⟩, .int .i64 0, .int .i64 0, .str ⟨#[]⟩, .nils, .nils] [(0, (u7.τ 37)), (1, (u7.τ 41))] u7.H) u7 <| .mk fun u8 =>
  @sOp (some 43) (xBuild [.int .i64 0, .int .i64 0, .int .i64 0, .str ⟨#[]⟩, .int .i64 0, .int .i64 0, .str ⟨#[]⟩, .nils, .nils] [(0, 1, (.int .i64 12)), (8, 1, (u8.τ 42))] u8.H) u8 <| .mk fun u9 =>
  @sOp (some 44) (xIx 9 (u9.τ 36) (.int .i64 0) u9.H) u9 <| .mk fun u10 =>
  @sOp none (xStore 9 (u10.τ 44) (u10.τ 43) u10.H) u10 <| .mk fun s =>
  @sMv 33 6 s <| .mk fun s =>
  @sOp (some 34) (xBin .add false (s.τ 33) (.int .i64 1) s.H) s <| .mk fun s =>
  @sMv 6 34 s <| .mk fun s =>
  L0 s
def W4_l29 (Φ : EP) (L0 : SP) (s : St) : Prop :=
  @sMv 29 6 s <| .mk fun s =>
  @sMv 30 0 s <| .mk fun s =>
  @sCall Try.prog (.func 8 []) [(s.τ 30), (.int .i64 5)] (some 31) s <| .mk fun s =>
  @sOp (some 32) (xBin .lss false (s.τ 29) (s.τ 31) s.H) s <| .mk fun s =>
  @sIf (s.τ 32) ⟨W4_b27 Φ L0 s⟩ ⟨W4_k26 Φ s⟩
def W4_b30 (Φ : EP) (s : St) : Prop :=
  @sFl 25 2 5 s <| .mk fun s =>
  @sLd 26 1 25 false s <| .mk fun s =>
  @sOp (some 27) (xBuild [.int .i64 0, .int .i64 0, .int .i64 0, .str ⟨#[]⟩, .int .i64 0, .int .i64 0, .str ⟨#[]⟩, .nils, .nils] [(0, 1, (.int .i64 13))] s.H) s <| .mk fun s =>
  @sOp (some 28) (xIx 9 (s.τ 26) (.int .i64 0) s.H) s <| .mk fun s =>
  @sOp none (xStore 9 (s.τ 28) (s.τ 27) s.H) s <| .mk fun s =>
  @sOp (some 6) (xMov (.int .i64 0) s.H) s <| .mk fun s =>
  @sLoop s ⟨fun L0 s => W4_l29 Φ L0 s⟩
def W4_b31 (Φ : EP) (s : St) : Prop :=
  @sOp (some 15) (xBuild [.int .i64 0, .int .i64 0, .int .i64 0, .str ⟨#[]⟩, .int .i64 0, .int .i64 0, .str ⟨#[]⟩, .nils, .nils] [] s.H) s <| .mk fun s =>
  @sOp (some 16) (xLit 9 1 [.int .i64 0, .int .i64 0, .int .i64 0, .str ⟨#[]⟩, .int .i64 0, .int .i64 0, .str ⟨#[]⟩, .nils, .nils] [(0, (s.τ 15))] s.H) s <| .mk fun s =>
  @sOp (some 17) (xBuild [.int .i64 0, .int .i64 0, .int .i64 0, .str ⟨#[]⟩, .int .i64 0, .int .i64 0, .str ⟨#[]⟩, .nils, .nils] [(0, 1, (.int .i64 3)), (8, 1, (s.τ 16))] s.H) s <| .mk fun s =>
  @sOp (some 18) (xBuild [.int .i64 0, .int .i64 0, .int .i64 0, .str ⟨#[]⟩, .int .i64 0, .int .i64 0, .str ⟨#[]⟩, .nils, .nils] [(0, 1, (.int .i64 13))] s.H) s <| .mk fun s =>
  @sOp (some 19) (xLit 9 2 [.int .i64 0, .int .i64 0, .int .i64 0, .str ⟨#[]⟩, .int .i64 0, .int .i64 0, .str ⟨#[]⟩, .nils, .nils] [(0, (s.τ 17)), (1, (s.τ 18))] s.H) s <| .mk fun s =>
  @sOp (some 20) (xBuild [.int .i64 0, .int .i64 0, .int .i64 0, .str ⟨#[]⟩, .int .i64 0, .int .i64 0, .str ⟨#[]⟩, .nils, .nils] [(0, 1, (.int .i64 12)), (8, 1, (s.τ 19))] s.H) s <| .mk fun s =>
  @sOp (some 21) (xRow 21 29 9 1 [.int .i64 0, .int .i64 0, .int .i64 0, .str ⟨#[]⟩, .int .i64 0, .int .i64 0, .str ⟨#[]⟩, .nils, .nils] [(0, (s.τ 20))] s.H) s <| .mk fun s =>
  @sOp (some 22) (xBuild [.nils, .int .i64 0, .nils, .int .i64 0] [(1, 1, (.int .i64 1)), (2, 1, (s.τ 21))] s.H) s <| .mk fun s =>
  @sOp (some 5) (xAlloc 5 33 [.nils, .int .i64 0, .nils, .int .i64 0] s.H) s <| .mk fun s =>
  @sOp none (xStore 4 (s.τ 5) (s.τ 22) s.H) s <| .mk fun s =>
  @sMv 23 1 s <| .mk fun s =>
  @sOp (some 24) (xNot (s.τ 23) s.H) s <| .mk fun s =>
  @sIf (s.τ 24) ⟨W4_b30 Φ s⟩ ⟨W4_k26 Φ s⟩
def W4 (Φ : EP) (s : St) : Prop :=
  @sOp (some 4) (xMov (.bool false) s.H) s <| .mk fun s =>
  @sCall Try.prog (.func 7 []) [] (some 13) s <| .mk fun s =>
  @sOp (some 14) (xNot (s.τ 13) s.H) s <| .mk fun s =>
  @sIf (s.τ 14) ⟨W4_b1 Φ s⟩ ⟨W4_b31 Φ s⟩
theorem W4_rs (τ : Nat → AV) (H : Heap) : resV Try.prog τ H [.tmp 4] = some (τ 4) := by kernel_rfl
theorem W4_eq (Φ : EP) (s : St) : awp Try.prog (Try.f4.body.getD .skip) Φ s = W4 Φ s := by kernel_rfl
theorem W4_S {args : List AV} {r : AV} (hl : args.length ≤ 88) (h : ∀ vs, W4 (retK Try.prog [.tmp 4] r) ⟨Am.look (argT 0 args), hls [] vs, noG⟩) : Am.Spec Try.prog 4 args r := .of_W (W := W4) Try.func4 (by kernel_rfl) (by kernel_rfl) (by kernel_rfl) Try.ntmps4 W4_eq (by kernel_rfl) hl h

-- 7 "penance/penancelaw8.known"

def W7 (Φ : EP) (s : St) : Prop :=
  @sOp (some 0) (xMov (.bool false) s.H) s <| .mk fun s =>
  @sOp (some 14) (xBuild [.int .i64 0, .int .i64 0, .int .i64 0, .str ⟨#[]⟩, .int .i64 0, .int .i64 0, .str ⟨#[]⟩, .nils, .nils] [(0, 1, (.int .i64 1)), (1, 1, (.int .i64 (-1))), (3, 1, (.str ⟨#[112, 97, 121]⟩))] s.H) s <| .mk fun s =>
  @sOp (some 15) (xLit 9 1 [.int .i64 0, .int .i64 0, .int .i64 0, .str ⟨#[]⟩, .int .i64 0, .int .i64 0, .str ⟨#[]⟩, .nils, .nils] [(0, (s.τ 14))] s.H) s <| .mk fun s =>
  @sOp (some 16) (xBuild [.nils, .int .i64 0, .nils, .int .i64 0] [(2, 1, (s.τ 15))] s.H) s <| .mk fun s =>
  @sOp (some 1) (xAlloc 1 33 [.nils, .int .i64 0, .nils, .int .i64 0] s.H) s <| .mk fun s =>
  @sOp none (xStore 4 (s.τ 1) (s.τ 16) s.H) s <| .mk fun s =>
  @sLd 17 4 1 true s <| .mk fun s =>
  @sCall Try.prog (.func 9 []) [(s.τ 17)] (some 18) s <| .mk fun s =>
  @sOp (some 2) (xAlloc 2 36 [.int .i64 0, .int .i64 0, .int .i64 0, .str ⟨#[]⟩, .int .i64 0, .int .i64 0, .str ⟨#[]⟩, .nils, .nils, .nils, .nils, .int .i64 0, .int .i64 0] s.H) s <| .mk fun s =>
  @sOp none (xStore 13 (s.τ 2) (s.τ 18) s.H) s <| .mk fun s =>
  @sLd 20 4 1 true s <| .mk fun s =>
  @sLd 21 13 2 true s <| .mk fun s =>
  @sCall Try.prog (.func 10 []) [(s.τ 20), (s.τ 21), (.int .i64 0)] (some 22) s <| .mk fun s =>
  @sMv 19 22 s <| .mk fun s =>
  @sOp (some 23) (xExt (s.τ 19) 0 s.H) s <| .mk fun s =>
  @sOp (some 24) (xExt (s.τ 19) 1 s.H) s <| .mk fun s =>
  @sOp (some 25) (xExt (s.τ 19) 2 s.H) s <| .mk fun s =>
  @sOp (some 26) (xExt (s.τ 19) 3 s.H) s <| .mk fun s =>
  @sOp (some 3) (xAlloc 3 36 [.int .i64 0, .int .i64 0, .int .i64 0, .str ⟨#[]⟩, .int .i64 0, .int .i64 0, .str ⟨#[]⟩, .nils, .nils, .nils, .nils, .int .i64 0, .int .i64 0] s.H) s <| .mk fun s =>
  @sOp (some 4) (xAlloc 4 39 [.str ⟨#[]⟩, .int .i64 0, .int .i64 0] s.H) s <| .mk fun s =>
  @sOp none (xStore 13 (s.τ 3) (s.τ 23) s.H) s <| .mk fun s =>
  @sOp none (xStore 3 (s.τ 4) (s.τ 24) s.H) s <| .mk fun s =>
  @sMv 5 25 s <| .mk fun s =>
  @sMv 6 26 s <| .mk fun s =>
  @sLd 28 4 1 true s <| .mk fun s =>
  @sLd 29 13 2 true s <| .mk fun s =>
  @sCall Try.prog (.func 10 []) [(s.τ 28), (s.τ 29), (.int .i64 1)] (some 30) s <| .mk fun s =>
  @sMv 27 30 s <| .mk fun s =>
  @sOp (some 31) (xExt (s.τ 27) 0 s.H) s <| .mk fun s =>
  @sOp (some 32) (xExt (s.τ 27) 1 s.H) s <| .mk fun s =>
  @sOp (some 33) (xExt (s.τ 27) 2 s.H) s <| .mk fun s =>
  @sOp (some 34) (xExt (s.τ 27) 3 s.H) s <| .mk fun s =>
  @sOp (some 7) (xAlloc 7 36 [.int .i64 0, .int .i64 0, .int .i64 0, .str ⟨#[]⟩, .int .i64 0, .int .i64 0, .str ⟨#[]⟩, .nils, .nils, .nils, .nils, .int .i64 0, .int .i64 0] s.H) s <| .mk fun s =>
  @sOp (some 8) (xAlloc 8 39 [.str ⟨#[]⟩, .int .i64 0, .int .i64 0] s.H) s <| .mk fun s =>
  @sOp none (xStore 13 (s.τ 7) (s.τ 31) s.H) s <| .mk fun s =>
  @sOp none (xStore 3 (s.τ 8) (s.τ 32) s.H) s <| .mk fun s =>
  @sMv 9 33 s <| .mk fun s =>
  @sMv 10 34 s <| .mk fun s =>
  @sLd 36 4 1 true s <| .mk fun s =>
  @sLd 37 13 3 true s <| .mk fun s =>
  @sCall Try.prog (.func 11 []) [(s.τ 36), (s.τ 37), (.int .i64 0), (.int .i64 7)] (some 38) s <| .mk fun s =>
  @sMv 35 38 s <| .mk fun s =>
  @sOp (some 39) (xExt (s.τ 35) 0 s.H) s <| .mk fun s =>
  @sOp (some 40) (xExt (s.τ 35) 1 s.H) s <| .mk fun s =>
  @sOp (some 41) (xExt (s.τ 35) 2 s.H) s <| .mk fun s =>
  @sOp (some 11) (xAlloc 11 36 [.int .i64 0, .int .i64 0, .int .i64 0, .str ⟨#[]⟩, .int .i64 0, .int .i64 0, .str ⟨#[]⟩, .nils, .nils, .nils, .nils, .int .i64 0, .int .i64 0] s.H) s <| .mk fun s =>
  @sOp (some 12) (xAlloc 12 39 [.str ⟨#[]⟩, .int .i64 0, .int .i64 0] s.H) s <| .mk fun s =>
  @sOp none (xStore 13 (s.τ 11) (s.τ 39) s.H) s <| .mk fun s =>
  @sOp none (xStore 3 (s.τ 12) (s.τ 40) s.H) s <| .mk fun s =>
  @sMv 13 41 s <| .mk fun s =>
  @sLd 42 4 1 true s <| .mk fun s =>
  @sCall Try.prog (.func 18 []) [(s.τ 42)] (some 43) s <| .mk fun s =>
  @sMv 44 43 s <| .mk fun s =>
  @sGm 45 6 44 true s <| .mk fun s =>
  @sGo 46 44 true s (fun s => (xBin .eql false (s.τ 45) (.int .i64 0) s.H)) <| .mk fun s =>
  @sOp (some 47) (xPick (s.τ 44) (s.τ 46) (.bool false) s.H) s <| .mk fun s =>
  @sMv 48 47 s <| .mk fun s =>
  @sGm 49 5 48 true s <| .mk fun s =>
  @sOp (some 50) (xPick (s.τ 48) (s.τ 49) (.bool false) s.H) s <| .mk fun s =>
  @sMv 51 50 s <| .mk fun s =>
  @sGf 52 0 4 51 true s <| .mk fun s =>
  @sGl 53 1 52 51 false true s <| .mk fun s =>
  @sGo 54 51 true s (fun s => (xBin .eql false (s.τ 53) (.str ⟨#[112, 97, 121]⟩) s.H)) <| .mk fun s =>
  @sOp (some 55) (xPick (s.τ 51) (s.τ 54) (.bool false) s.H) s <| .mk fun s =>
  @sMv 56 55 s <| .mk fun s =>
  @sGf 57 12 3 56 true s <| .mk fun s =>
  @sGl 58 1 57 56 false true s <| .mk fun s =>
  @sGo 59 56 true s (fun s => (xBin .eql false (s.τ 58) (.int .i64 1) s.H)) <| .mk fun s =>
  @sOp (some 60) (xPick (s.τ 56) (s.τ 59) (.bool false) s.H) s <| .mk fun s =>
  @sMv 61 60 s <| .mk fun s =>
  @sGm 62 10 61 true s <| .mk fun s =>
  @sGo 63 61 true s (fun s => (xBin .eql false (s.τ 62) (.int .i64 12) s.H)) <| .mk fun s =>
  @sOp (some 64) (xPick (s.τ 61) (s.τ 63) (.bool false) s.H) s <| .mk fun s =>
  @sMv 65 64 s <| .mk fun s =>
  @sGm 66 13 65 true s <| .mk fun s =>
  @sOp (some 67) (xPick (s.τ 65) (s.τ 66) (.bool false) s.H) s <| .mk fun s =>
  @sMv 68 67 s <| .mk fun s =>
  @sGf 69 2 12 68 true s <| .mk fun s =>
  @sGl 70 1 69 68 false true s <| .mk fun s =>
  @sGo 71 68 true s (fun s => (xBin .eql false (s.τ 70) (.int .i64 7) s.H)) <| .mk fun s =>
  @sOp (some 72) (xPick (s.τ 68) (s.τ 71) (.bool false) s.H) s <| .mk fun s =>
  @sMv 73 72 s <| .mk fun s =>
  @sGf 74 0 11 73 true s <| .mk fun s =>
  @sGf 75 0 74 73 true s <| .mk fun s =>
  @sGl 76 1 75 73 false true s <| .mk fun s =>
  @sGo 77 73 true s (fun s => (xBin .eql false (s.τ 76) (.int .i64 0) s.H)) <| .mk fun s =>
  @sOp (some 78) (xPick (s.τ 73) (s.τ 77) (.bool false) s.H) s <| .mk fun s =>
  @sMv 0 78 s <| .mk fun s =>
  Φ .ret s
theorem W7_rs (τ : Nat → AV) (H : Heap) : resV Try.prog τ H [.tmp 0] = some (τ 0) := by kernel_rfl
theorem W7_eq (Φ : EP) (s : St) : awp Try.prog (Try.f7.body.getD .skip) Φ s = W7 Φ s := by kernel_rfl
theorem W7_S {args : List AV} {r : AV} (hl : args.length ≤ 79) (h : ∀ vs, W7 (retK Try.prog [.tmp 0] r) ⟨Am.look (argT 0 args), hls [] vs, noG⟩) : Am.Spec Try.prog 7 args r := .of_W (W := W7) Try.func7 (by kernel_rfl) (by kernel_rfl) (by kernel_rfl) Try.ntmps7 W7_eq (by kernel_rfl) hl h

-- 8 "penance/penancelaw8.within"
def W8_k1 (Φ : EP) (s : St) : Prop :=
  @sMv 14 5 s <| .mk fun s =>
  @sMv 4 14 s <| .mk fun s =>
  Φ .ret s
def W8_b2 (Φ : EP) (s : St) : Prop :=
  @sMv 11 5 s <| .mk fun s =>
  @sMv 12 1 s <| .mk fun s =>
  @sOp (some 13) (xBin .add false (s.τ 11) (s.τ 12) s.H) s <| .mk fun s =>
  @sMv 5 13 s <| .mk fun s =>
  W8_k1 Φ s
def W8 (Φ : EP) (s : St) : Prop :=
  @sOp (some 4) (xMov (.int .i64 0) s.H) s <| .mk fun s =>
  @sMv 6 0 s <| .mk fun s =>
  @sMv 7 1 s <| .mk fun s =>
  @sOp (some 8) (xBin .rem false (s.τ 6) (s.τ 7) s.H) s <| .mk fun s =>
  @sMv 5 8 s <| .mk fun s =>
  @sMv 9 5 s <| .mk fun s =>
  @sOp (some 10) (xBin .lss false (s.τ 9) (.int .i64 0) s.H) s <| .mk fun s =>
  @sIf (s.τ 10) ⟨W8_b2 Φ s⟩ ⟨W8_k1 Φ s⟩
theorem W8_rs (τ : Nat → AV) (H : Heap) : resV Try.prog τ H [.tmp 4] = some (τ 4) := by kernel_rfl
theorem W8_eq (Φ : EP) (s : St) : awp Try.prog (Try.f8.body.getD .skip) Φ s = W8 Φ s := by kernel_rfl
theorem W8_S {args : List AV} {r : AV} (hl : args.length ≤ 15) (h : ∀ vs, W8 (retK Try.prog [.tmp 4] r) ⟨Am.look (argT 0 args), hls [] vs, noG⟩) : Am.Spec Try.prog 8 args r := .of_W (W := W8) Try.func8 (by kernel_rfl) (by kernel_rfl) (by kernel_rfl) Try.ntmps8 W8_eq (by kernel_rfl) hl h

-- 9 "penance/run.Begin"

def W9 (Φ : EP) (s : St) : Prop :=
  @sOp (some 1) (xBox 1 33 (s.τ 0) s.H) s <| .mk fun s =>
  @sOp (some 2) (xAlloc 2 36 [.int .i64 0, .int .i64 0, .int .i64 0, .str ⟨#[]⟩, .int .i64 0, .int .i64 0, .str ⟨#[]⟩, .nils, .nils, .nils, .nils, .int .i64 0, .int .i64 0] s.H) s <| .mk fun s =>
  @sFl 3 2 1 s <| .mk fun u1 =>
  @sLd 4 1 3 false u1 <| .mk fun u2 =>
  @sFl 5 3 1 u2 <| .mk fun u3 =>
  @sLd 6 1 5 false u3 <| .mk fun u4 =>
  @sOp (some 7) (xIx 9 (u4.τ 4) (u4.τ 6) u4.H) u4 <| .mk fun u5 =>
  @sLd 8 9 7 true u5 <| .mk fun u6 =>
  @sCall0 Try.prog (.func 19 []) [(u6.τ 8)] (some 9) u6 <| .mk fun u7 =>
  @sChk (compat (cfp 9 19 [(u6.τ 8)]) (occ (u7.τ 1), [])) <| .mk <|
  @sFl 10 0 1 u7 <| .mk fun u8 =>
  @sChk (compat (cfp 9 19 [(u6.τ 8)]) (occ (u8.τ 10), [])) <| .mk <|
  @sLd 11 1 10 false u8 <| .mk fun u9 =>
  @sCall0 Try.prog (.func 20 []) [(u9.τ 11)] (some 12) u9 <| .mk fun u10 =>
  @sChk (compat (cfp 9 19 [(u6.τ 8)]) (occ (u10.τ 1), [])) <| .mk <|
  @sChk (compat (cfp 12 20 [(u9.τ 11)]) (occ (u10.τ 1), [])) <| .mk <|
  @sFl 13 1 1 u10 <| .mk fun u11 =>
  @sChk (compat (cfp 9 19 [(u6.τ 8)]) (occ (u11.τ 13), [])) <| .mk <|
  @sChk (compat (cfp 12 20 [(u9.τ 11)]) (occ (u11.τ 13), [])) <| .mk <|
  @sLd 14 1 13 false u11 <| .mk fun u12 =>
  @sChk (compat (occ (s.τ 1), []) ([15], [15])) <| .mk <|
  @sChk (compat (occ (u1.τ 3), []) ([15], [15])) <| .mk <|
  @sChk (compat (occ (u2.τ 1), []) ([15], [15])) <| .mk <|
  @sChk (compat (occ (u3.τ 5), []) ([15], [15])) <| .mk <|
  @sChk (compat (occ (u4.τ 4), []) ([15], [15])) <| .mk <|
  @sChk (compat (occ (u5.τ 7), []) ([15], [15])) <| .mk <|
  @sChk (compat (cfp 9 19 [(u6.τ 8)]) ([15], [15])) <| .mk <|
  @sChk (compat (occ (u7.τ 1), []) ([15], [15])) <| .mk <|
  @sChk (compat (occ (u8.τ 10), []) ([15], [15])) <| .mk <|
  @sChk (compat (cfp 12 20 [(u9.τ 11)]) ([15], [15])) <| .mk <|
  @sOp (some 15) (xMks 15 24 1 24 [.nils] (u12.τ 14) (u12.τ 14) u12.H) u12 <| .mk fun u13 =>
  @sCall0 Try.prog (.func 21 []) [(u13.τ 15), (.int .i64 0), (.int .i64 0)] (some 16) u13 <| .mk fun u14 =>
  @sOp (some 17) (xBuild [.int .i64 0, .int .i64 0, .int .i64 0, .str ⟨#[]⟩, .int .i64 0, .int .i64 0, .str ⟨#[]⟩, .nils, .nils, .nils, .nils, .int .i64 0, .int .i64 0] [(0, 9, (u14.τ 9)), (9, 1, (u14.τ 12)), (10, 1, (u14.τ 16))] u14.H) u14 <| .mk fun u15 =>
  @sOp none (xStore 13 (u15.τ 2) (u15.τ 17) u15.H) u15 <| .mk fun s =>
  Φ .ret s
theorem W9_rs (τ : Nat → AV) (H : Heap) : resV Try.prog τ H [.cell 2 36] = rdV H 13 true (τ 2) := by kernel_rfl
theorem W9_eq (Φ : EP) (s : St) : awp Try.prog (Try.f9.body.getD .skip) Φ s = W9 Φ s := by kernel_rfl
theorem W9_S {args : List AV} {r : AV} (hl : args.length ≤ 18) (h : ∀ vs, W9 (retK Try.prog [.cell 2 36] r) ⟨Am.look (argT 0 args), hls [] vs, noG⟩) : Am.Spec Try.prog 9 args r := .of_W (W := W9) Try.func9 (by kernel_rfl) (by kernel_rfl) (by kernel_rfl) Try.ntmps9 W9_eq (by kernel_rfl) hl h

end Go.Proofs.Ytnngddgaobhkiaa
set_option linter.unusedVariables false
set_option maxRecDepth 100000
namespace Go.Proofs.Ytnngddgaobhkiaa
open Go Go.Am
-- 10 "penance/run.Do"
def W10_b1 (Φ : EP) (J0 : Nat → SP) (s : St) : Prop :=
  @sOp (some 28) (xBuild [.int .i64 0, .int .i64 0, .int .i64 0, .str ⟨#[]⟩, .int .i64 0, .int .i64 0, .str ⟨#[]⟩, .nils, .nils, .nils, .nils, .int .i64 0, .int .i64 0] [] s.H) s <| .mk fun s =>
  @sOp (some 29) (xBuild [.str ⟨#[]⟩, .int .i64 0, .int .i64 0] [] s.H) s <| .mk fun s =>
  @sOp none (xStore 13 (s.τ 6) (s.τ 28) s.H) s <| .mk fun s =>
  @sOp none (xStore 3 (s.τ 7) (s.τ 29) s.H) s <| .mk fun s =>
  @sOp (some 8) (xMov (.bool false) s.H) s <| .mk fun s =>
  @sOp (some 9) (xMov (.int .i64 12) s.H) s <| .mk fun s =>
  Φ .ret s
def W10_b2 (Φ : EP) (J0 : Nat → SP) (s : St) : Prop :=
  @sOp (some 34) (xBuild [.int .i64 0, .int .i64 0, .int .i64 0, .str ⟨#[]⟩, .int .i64 0, .int .i64 0, .str ⟨#[]⟩, .nils, .nils, .nils, .nils, .int .i64 0, .int .i64 0] [] s.H) s <| .mk fun s =>
  @sOp (some 35) (xBuild [.str ⟨#[]⟩, .int .i64 0, .int .i64 0] [] s.H) s <| .mk fun s =>
  @sOp none (xStore 13 (s.τ 6) (s.τ 34) s.H) s <| .mk fun s =>
  @sOp none (xStore 3 (s.τ 7) (s.τ 35) s.H) s <| .mk fun s =>
  @sOp (some 8) (xMov (.bool false) s.H) s <| .mk fun s =>
  @sOp (some 9) (xMov (.int .i64 10) s.H) s <| .mk fun s =>
  Φ .ret s
def W10_b3 (Φ : EP) (J0 : Nat → SP) (s : St) : Prop :=
  @sOp (some 9) (xMov (.int .i64 11) s.H) s <| .mk fun s =>
  J0 0 s
def W10_b4 (Φ : EP) (J0 : Nat → SP) (s : St) : Prop :=
  @sLd 190 13 6 true s <| .mk fun u1 =>
  @sLd 191 3 7 true u1 <| .mk fun u2 =>
  @sMv 192 8 u2 <| .mk fun u3 =>
  @sChk (compat (occ (u1.τ 7), []) (occ (u3.τ 6), occ (u3.τ 6))) <| .mk <|
  @sOp none (xStore 13 (u3.τ 6) (u3.τ 190) u3.H) u3 <| .mk fun u4 =>
  @sOp none (xStore 3 (u4.τ 7) (u4.τ 191) u4.H) u4 <| .mk fun u5 =>
  @sMv 8 192 u5 <| .mk fun u6 =>
  @sOp (some 9) (xMov (.int .i64 0) u6.H) u6 <| .mk fun s =>
  Φ .ret s
def W10_k9 (Φ : EP) (J0 : Nat → SP) (s : St) : Prop :=
  @sFl 171 0 6 s <| .mk fun s =>
  @sLd 172 9 171 true s <| .mk fun s =>
  @sMv 173 13 s <| .mk fun s =>
  @sLd 174 9 14 true s <| .mk fun s =>
  @sCall Try.prog (.func 30 []) [(s.τ 172), (s.τ 173), (s.τ 174)] (some 175) s <| .mk fun s =>
  @sCall Try.prog (.func 19 []) [(s.τ 175)] (some 176) s <| .mk fun s =>
  @sFl 177 0 6 s <| .mk fun s =>
  @sOp none (xStore 9 (s.τ 177) (s.τ 176) s.H) s <| .mk fun s =>
  @sFl 178 11 6 s <| .mk fun s =>
  @sLd 179 1 178 false s <| .mk fun s =>
  @sOp (some 180) (xBin .add false (s.τ 179) (.int .i64 1) s.H) s <| .mk fun s =>
  @sFl 181 11 6 s <| .mk fun s =>
  @sOp none (xStore 1 (s.τ 181) (s.τ 180) s.H) s <| .mk fun s =>
  @sFl 182 0 6 s <| .mk fun u1 =>
  @sLd 183 9 182 true u1 <| .mk fun u2 =>
  @sCall0 Try.prog (.func 31 []) [(u2.τ 183)] (some 184) u2 <| .mk fun u3 =>
  @sChk (compat (cfp 184 31 [(u2.τ 183)]) (occ (u3.τ 6), [])) <| .mk <|
  @sFl 185 10 6 u3 <| .mk fun u4 =>
  @sChk (compat (cfp 184 31 [(u2.τ 183)]) (occ (u4.τ 185), [])) <| .mk <|
  @sLd 186 1 185 false u4 <| .mk fun u5 =>
  @sCall0 Try.prog (.func 32 []) [(u5.τ 186)] (some 187) u5 <| .mk fun u6 =>
  @sOp (some 188) (xBin .add false (u6.τ 184) (u6.τ 187) u6.H) u6 <| .mk fun u7 =>
  @sOp (some 189) (xBin .gtr false (u7.τ 188) (.int .i64 2000) u7.H) u7 <| .mk fun s =>
  @sIf (s.τ 189) ⟨W10_b3 Φ J0 s⟩ ⟨W10_b4 Φ J0 s⟩
def W10_b10 (Φ : EP) (J0 : Nat → SP) (s : St) : Prop :=
  @sFl 72 12 6 s <| .mk fun s =>
  @sLd 73 1 72 false s <| .mk fun s =>
  @sFl 74 1 12 s <| .mk fun s =>
  @sLd 75 1 74 false s <| .mk fun s =>
  @sFl 76 3 12 s <| .mk fun s =>
  @sLd 77 1 76 false s <| .mk fun s =>
  @sOp (some 78) (xBuild [.int .i64 0, .int .i64 0, .int .i64 0, .str ⟨#[]⟩, .int .i64 0, .int .i64 0, .str ⟨#[]⟩, .nils, .nils] [(0, 1, (.int .i64 14)), (1, 1, (s.τ 73)), (2, 1, (s.τ 75)), (3, 1, (s.τ 77))] s.H) s <| .mk fun s =>
  @sOp none (xStore 9 (s.τ 14) (s.τ 78) s.H) s <| .mk fun s =>
  @sFl 79 3 12 s <| .mk fun s =>
  @sLd 80 1 79 false s <| .mk fun s =>
  @sFl 81 12 6 s <| .mk fun s =>
  @sLd 82 1 81 false s <| .mk fun s =>
  @sOp (some 83) (xBuild [.str ⟨#[]⟩, .int .i64 0, .int .i64 0] [(0, 1, (s.τ 80)), (1, 1, (s.τ 82))] s.H) s <| .mk fun s =>
  @sOp none (xStore 3 (s.τ 7) (s.τ 83) s.H) s <| .mk fun s =>
  @sOp (some 8) (xMov (.bool true) s.H) s <| .mk fun s =>
  @sFl 84 12 6 s <| .mk fun s =>
  @sLd 85 1 84 false s <| .mk fun s =>
  @sOp (some 86) (xBin .add false (s.τ 85) (.int .i64 1) s.H) s <| .mk fun s =>
  @sFl 87 12 6 s <| .mk fun s =>
  @sOp none (xStore 1 (s.τ 87) (s.τ 86) s.H) s <| .mk fun s =>
  W10_k9 Φ J0 s
def W10_b11 (Φ : EP) (J0 : Nat → SP) (s : St) : Prop :=
  @sFl 90 9 6 s <| .mk fun s =>
  @sLd 91 1 90 false s <| .mk fun s =>
  @sFl 92 1 12 s <| .mk fun s =>
  @sLd 93 1 92 false s <| .mk fun s =>
  @sMv 94 15 s <| .mk fun s =>
  @sOp (some 95) (xIx 1 (s.τ 91) (s.τ 93) s.H) s <| .mk fun s =>
  @sOp none (xStore 1 (s.τ 95) (s.τ 94) s.H) s <| .mk fun s =>
  W10_k9 Φ J0 s
def W10_b13 (Φ : EP) (J0 : Nat → SP) (s : St) : Prop :=
  @sFl 98 10 6 s <| .mk fun s =>
  @sLd 99 1 98 false s <| .mk fun s =>
  @sFl 100 1 12 s <| .mk fun s =>
  @sLd 101 1 100 false s <| .mk fun s =>
  @sFl 102 8 12 s <| .mk fun s =>
  @sLd 103 1 102 false s <| .mk fun s =>
  @sOp (some 104) (xIx 9 (s.τ 103) (.int .i64 0) s.H) s <| .mk fun s =>
  @sLd 105 9 104 true s <| .mk fun s =>
  @sCall0 Try.prog (.func 26 []) [(s.τ 99), (s.τ 101), (s.τ 105)] (some 106) s <| .mk fun s =>
  @sFl 107 10 6 s <| .mk fun s =>
  @sOp none (xStore 1 (s.τ 107) (s.τ 106) s.H) s <| .mk fun s =>
  W10_k9 Φ J0 s
def W10_b15 (Φ : EP) (J0 : Nat → SP) (s : St) : Prop :=
  @sFl 111 10 6 s <| .mk fun s =>
  @sLd 112 1 111 false s <| .mk fun s =>
  @sFl 113 1 12 s <| .mk fun s =>
  @sLd 114 1 113 false s <| .mk fun s =>
  @sCall Try.prog (.func 27 []) [(s.τ 112), (s.τ 114)] (some 115) s <| .mk fun s =>
  @sMv 110 115 s <| .mk fun s =>
  @sOp (some 116) (xExt (s.τ 110) 0 s.H) s <| .mk fun s =>
  @sOp (some 117) (xExt (s.τ 110) 1 s.H) s <| .mk fun s =>
  @sOp none (xStore 9 (s.τ 14) (s.τ 116) s.H) s <| .mk fun s =>
  @sFl 118 10 6 s <| .mk fun s =>
  @sOp none (xStore 1 (s.τ 118) (s.τ 117) s.H) s <| .mk fun s =>
  W10_k9 Φ J0 s
def W10_b17 (Φ : EP) (J0 : Nat → SP) (s : St) : Prop :=
  @sFl 121 10 6 s <| .mk fun s =>
  @sLd 122 1 121 false s <| .mk fun s =>
  @sFl 123 1 12 s <| .mk fun s =>
  @sLd 124 1 123 false s <| .mk fun s =>
  @sCall Try.prog (.func 28 []) [(s.τ 122), (s.τ 124)] (some 125) s <| .mk fun s =>
  @sFl 126 10 6 s <| .mk fun s =>
  @sOp none (xStore 1 (s.τ 126) (s.τ 125) s.H) s <| .mk fun s =>
  W10_k9 Φ J0 s
def W10_b19 (Φ : EP) (J0 : Nat → SP) (s : St) : Prop :=
  @sFl 129 10 6 s <| .mk fun s =>
  @sLd 130 1 129 false s <| .mk fun s =>
  @sFl 131 1 12 s <| .mk fun s =>
  @sLd 132 1 131 false s <| .mk fun s =>
  @sFl 133 2 12 s <| .mk fun s =>
  @sLd 134 1 133 false s <| .mk fun s =>
  @sCall Try.prog (.func 21 []) [(s.τ 130), (s.τ 132), (s.τ 134)] (some 135) s <| .mk fun s =>
  @sFl 136 10 6 s <| .mk fun s =>
  @sOp none (xStore 1 (s.τ 136) (s.τ 135) s.H) s <| .mk fun s =>
  W10_k9 Φ J0 s
def W10_b20 (Φ : EP) (J0 : Nat → SP) (s : St) : Prop :=
  @sFl 145 8 12 s <| .mk fun s =>
  @sLd 146 1 145 false s <| .mk fun s =>
  @sOp (some 147) (xIx 9 (s.τ 146) (.int .i64 0) s.H) s <| .mk fun s =>
  @sLd 148 9 147 true s <| .mk fun s =>
  @sOp none (xStore 9 (s.τ 14) (s.τ 148) s.H) s <| .mk fun s =>
  W10_k9 Φ J0 s
def W10_b21 (Φ : EP) (J0 : Nat → SP) (s : St) : Prop :=
  @sFl 139 8 12 s <| .mk fun s =>
  @sLd 140 1 139 false s <| .mk fun s =>
  @sOp (some 141) (xIx 9 (s.τ 140) (.int .i64 1) s.H) s <| .mk fun s =>
  @sLd 142 9 141 true s <| .mk fun s =>
  @sOp none (xStore 9 (s.τ 14) (s.τ 142) s.H) s <| .mk fun s =>
  @sMv 143 15 s <| .mk fun s =>
  @sOp (some 144) (xBin .neq false (s.τ 143) (.int .i64 0) s.H) s <| .mk fun s =>
  @sIf (s.τ 144) ⟨W10_b20 Φ J0 s⟩ ⟨W10_k9 Φ J0 s⟩
def W10_b22 (Φ : EP) (J0 : Nat → SP) (s : St) : Prop :=
  @sFl 151 8 12 s <| .mk fun s =>
  @sLd 152 1 151 false s <| .mk fun s =>
  @sFl 153 2 11 s <| .mk fun s =>
  @sLd 154 1 153 false s <| .mk fun s =>
  @sOp (some 155) (xIx 9 (s.τ 152) (s.τ 154) s.H) s <| .mk fun s =>
  @sLd 156 9 155 true s <| .mk fun s =>
  @sOp none (xStore 9 (s.τ 14) (s.τ 156) s.H) s <| .mk fun s =>
  W10_k9 Φ J0 s
def W10_b23 (Φ : EP) (J0 : Nat → SP) (s : St) : Prop :=
  @sFl 159 2 3 s <| .mk fun s =>
  @sLd 160 1 159 false s <| .mk fun s =>
  @sFl 161 1 12 s <| .mk fun s =>
  @sLd 162 1 161 false s <| .mk fun s =>
  @sOp (some 163) (xIx 9 (s.τ 160) (s.τ 162) s.H) s <| .mk fun s =>
  @sLd 164 9 163 true s <| .mk fun s =>
  @sOp none (xStore 9 (s.τ 14) (s.τ 164) s.H) s <| .mk fun s =>
  W10_k9 Φ J0 s
def W10_b25 (Φ : EP) (J0 : Nat → SP) (s : St) : Prop :=
  @sFl 167 0 6 s <| .mk fun s =>
  @sLd 168 9 167 true s <| .mk fun s =>
  @sMv 169 13 s <| .mk fun s =>
  @sCall Try.prog (.func 29 []) [(s.τ 168), (s.τ 169)] (some 170) s <| .mk fun s =>
  @sMv 13 170 s <| .mk fun s =>
  W10_k9 Φ J0 s
def W10_b26 (Φ : EP) (J0 : Nat → SP) (s : St) : Prop :=
  @sOp (some 166) (xBin .eql false (s.τ 69) (.int .i64 8) s.H) s <| .mk fun s =>
  @sMv 165 166 s <| .mk fun s =>
  @sIf (s.τ 165) ⟨W10_b25 Φ J0 s⟩ ⟨W10_k9 Φ J0 s⟩
def W10_b27 (Φ : EP) (J0 : Nat → SP) (s : St) : Prop :=
  @sOp (some 158) (xBin .eql false (s.τ 69) (.int .i64 13) s.H) s <| .mk fun s =>
  @sMv 157 158 s <| .mk fun s =>
  @sIf (s.τ 157) ⟨W10_b23 Φ J0 s⟩ ⟨W10_b26 Φ J0 s⟩
def W10_b28 (Φ : EP) (J0 : Nat → SP) (s : St) : Prop :=
  @sOp (some 150) (xBin .eql false (s.τ 69) (.int .i64 10) s.H) s <| .mk fun s =>
  @sMv 149 150 s <| .mk fun s =>
  @sIf (s.τ 149) ⟨W10_b22 Φ J0 s⟩ ⟨W10_b27 Φ J0 s⟩
def W10_b29 (Φ : EP) (J0 : Nat → SP) (s : St) : Prop :=
  @sOp (some 138) (xBin .eql false (s.τ 69) (.int .i64 9) s.H) s <| .mk fun s =>
  @sMv 137 138 s <| .mk fun s =>
  @sIf (s.τ 137) ⟨W10_b21 Φ J0 s⟩ ⟨W10_b28 Φ J0 s⟩
def W10_b30 (Φ : EP) (J0 : Nat → SP) (s : St) : Prop :=
  @sOp (some 128) (xBin .eql false (s.τ 69) (.int .i64 6) s.H) s <| .mk fun s =>
  @sMv 127 128 s <| .mk fun s =>
  @sIf (s.τ 127) ⟨W10_b19 Φ J0 s⟩ ⟨W10_b29 Φ J0 s⟩
def W10_b31 (Φ : EP) (J0 : Nat → SP) (s : St) : Prop :=
  @sOp (some 120) (xBin .eql false (s.τ 69) (.int .i64 5) s.H) s <| .mk fun s =>
  @sMv 119 120 s <| .mk fun s =>
  @sIf (s.τ 119) ⟨W10_b17 Φ J0 s⟩ ⟨W10_b30 Φ J0 s⟩
def W10_b32 (Φ : EP) (J0 : Nat → SP) (s : St) : Prop :=
  @sOp (some 109) (xBin .eql false (s.τ 69) (.int .i64 4) s.H) s <| .mk fun s =>
  @sMv 108 109 s <| .mk fun s =>
  @sIf (s.τ 108) ⟨W10_b15 Φ J0 s⟩ ⟨W10_b31 Φ J0 s⟩
def W10_b33 (Φ : EP) (J0 : Nat → SP) (s : St) : Prop :=
  @sOp (some 97) (xBin .eql false (s.τ 69) (.int .i64 3) s.H) s <| .mk fun s =>
  @sMv 96 97 s <| .mk fun s =>
  @sIf (s.τ 96) ⟨W10_b13 Φ J0 s⟩ ⟨W10_b32 Φ J0 s⟩
def W10_b34 (Φ : EP) (J0 : Nat → SP) (s : St) : Prop :=
  @sOp (some 89) (xBin .eql false (s.τ 69) (.int .i64 2) s.H) s <| .mk fun s =>
  @sMv 88 89 s <| .mk fun s =>
  @sIf (s.τ 88) ⟨W10_b11 Φ J0 s⟩ ⟨W10_b33 Φ J0 s⟩
def W10_k35 (Φ : EP) (J0 : Nat → SP) (s : St) : Prop :=
  @sFl 68 0 12 s <| .mk fun s =>
  @sLd 69 1 68 false s <| .mk fun s =>
  @sOp (some 71) (xBin .eql false (s.τ 69) (.int .i64 1) s.H) s <| .mk fun s =>
  @sMv 70 71 s <| .mk fun s =>
  @sIf (s.τ 70) ⟨W10_b10 Φ J0 s⟩ ⟨W10_b34 Φ J0 s⟩
def W10_b37 (Φ : EP) (J0 : Nat → SP) (s : St) : Prop :=
  @sFl 59 4 12 s <| .mk fun s =>
  @sLd 60 4 59 true s <| .mk fun s =>
  @sFl 61 9 6 s <| .mk fun s =>
  @sLd 62 1 61 false s <| .mk fun s =>
  @sCall Try.prog (.func 25 []) [(s.τ 60), (s.τ 62)] (some 63) s <| .mk fun s =>
  @sMv 58 63 s <| .mk fun s =>
  @sOp (some 64) (xExt (s.τ 58) 0 s.H) s <| .mk fun s =>
  @sOp (some 65) (xExt (s.τ 58) 1 s.H) s <| .mk fun s =>
  @sMv 15 64 s <| .mk fun s =>
  @sMv 9 65 s <| .mk fun s =>
  @sMv 66 9 s <| .mk fun s =>
  @sOp (some 67) (xBin .neq false (s.τ 66) (.int .i64 0) s.H) s <| .mk fun s =>
  @sIf (s.τ 67) ⟨J0 0 s⟩ ⟨W10_k35 Φ J0 s⟩
def W10_b43 (Φ : EP) (J0 : Nat → SP) (s : St) : Prop :=
  @sLd 36 13 4 true s <| .mk fun s =>
  @sCall Try.prog (.func 23 []) [(s.τ 36)] (some 37) s <| .mk fun s =>
  @sOp none (xStore 13 (s.τ 6) (s.τ 37) s.H) s <| .mk fun s =>
  @sMv 38 10 s <| .mk fun s =>
  @sMv 39 2 s <| .mk fun s =>
  @sOp (some 40) (xIx 3 (s.τ 38) (s.τ 39) s.H) s <| .mk fun s =>
  @sLd 41 3 40 true s <| .mk fun s =>
  @sOp (some 11) (xAlloc 11 53 [.int .i64 0, .nils, .int .i64 0] s.H) s <| .mk fun s =>
  @sOp none (xStore 3 (s.τ 11) (s.τ 41) s.H) s <| .mk fun s =>
  @sFl 42 0 6 s <| .mk fun s =>
  @sLd 43 9 42 true s <| .mk fun s =>
  @sFl 44 1 11 s <| .mk fun s =>
  @sLd 45 1 44 false s <| .mk fun s =>
  @sCall Try.prog (.func 24 []) [(s.τ 43), (s.τ 45)] (some 46) s <| .mk fun s =>
  @sOp (some 12) (xAlloc 12 29 [.int .i64 0, .int .i64 0, .int .i64 0, .str ⟨#[]⟩, .int .i64 0, .int .i64 0, .str ⟨#[]⟩, .nils, .nils] s.H) s <| .mk fun s =>
  @sOp none (xStore 9 (s.τ 12) (s.τ 46) s.H) s <| .mk fun s =>
  @sFl 47 1 11 s <| .mk fun s =>
  @sLd 48 1 47 false s <| .mk fun s =>
  @sOp (some 49) (xBuild [.int .i64 0, .int .i64 0, .int .i64 0, .str ⟨#[]⟩, .int .i64 0, .int .i64 0, .str ⟨#[]⟩, .nils, .nils] [] s.H) s <| .mk fun s =>
  @sOp (some 14) (xAlloc 14 29 [.int .i64 0, .int .i64 0, .int .i64 0, .str ⟨#[]⟩, .int .i64 0, .int .i64 0, .str ⟨#[]⟩, .nils, .nils] s.H) s <| .mk fun s =>
  @sMv 13 48 s <| .mk fun s =>
  @sOp none (xStore 9 (s.τ 14) (s.τ 49) s.H) s <| .mk fun s =>
  @sOp (some 15) (xMov (.int .i64 0) s.H) s <| .mk fun s =>
  @sFl 50 0 12 s <| .mk fun s =>
  @sLd 51 1 50 false s <| .mk fun s =>
  @sOp (some 52) (xBin .eql false (s.τ 51) (.int .i64 2) s.H) s <| .mk fun s =>
  @sMv 53 52 s <| .mk fun s =>
  @sGf 54 0 12 53 false s <| .mk fun s =>
  @sGl 55 1 54 53 false false s <| .mk fun s =>
  @sGo 56 53 false s (fun s => (xBin .eql false (s.τ 55) (.int .i64 9) s.H)) <| .mk fun s =>
  @sOp (some 57) (xPick (s.τ 53) (.bool true) (s.τ 56) s.H) s <| .mk fun s =>
  @sIf (s.τ 57) ⟨W10_b37 Φ J0 s⟩ ⟨W10_k35 Φ J0 s⟩
def W10_b44 (Φ : EP) (J0 : Nat → SP) (s : St) : Prop :=
  @sFl 31 11 4 s <| .mk fun s =>
  @sLd 32 1 31 false s <| .mk fun s =>
  @sOp (some 33) (xBin .geq false (s.τ 32) (.int .i64 5000) s.H) s <| .mk fun s =>
  @sMv 30 33 s <| .mk fun s =>
  @sIf (s.τ 30) ⟨W10_b2 Φ J0 s⟩ ⟨W10_b43 Φ J0 s⟩
def W10_s50 (Φ : EP) (J0 : Nat → SP) (s : St) : Prop :=
  @sFl 16 0 4 s <| .mk fun s =>
  @sLd 17 9 16 true s <| .mk fun s =>
  @sCall Try.prog (.func 22 []) [(s.τ 17)] (some 18) s <| .mk fun s =>
  @sMv 10 18 s <| .mk fun s =>
  @sMv 20 2 s <| .mk fun s =>
  @sOp (some 21) (xBin .lss false (s.τ 20) (.int .i64 0) s.H) s <| .mk fun s =>
  @sMv 22 21 s <| .mk fun s =>
  @sGm 23 2 22 false s <| .mk fun s =>
  @sGm 24 10 22 false s <| .mk fun s =>
  @sGo 25 22 false s (fun s => (xLen (s.τ 24) s.H)) <| .mk fun s =>
  @sGo 26 22 false s (fun s => (xBin .geq false (s.τ 23) (s.τ 25) s.H)) <| .mk fun s =>
  @sOp (some 27) (xPick (s.τ 22) (.bool true) (s.τ 26) s.H) s <| .mk fun s =>
  @sMv 19 27 s <| .mk fun s =>
  @sIf (s.τ 19) ⟨W10_b1 Φ J0 s⟩ ⟨W10_b44 Φ J0 s⟩
def W10_g51 (Φ : EP) (J0 : Nat → SP) (s : St) : Prop :=
  @sOp (some 193) (xBuild [.int .i64 0, .int .i64 0, .int .i64 0, .str ⟨#[]⟩, .int .i64 0, .int .i64 0, .str ⟨#[]⟩, .nils, .nils, .nils, .nils, .int .i64 0, .int .i64 0] [] s.H) s <| .mk fun s =>
  @sOp (some 194) (xBuild [.str ⟨#[]⟩, .int .i64 0, .int .i64 0] [] s.H) s <| .mk fun s =>
  @sMv 195 9 s <| .mk fun s =>
  @sOp none (xStore 13 (s.τ 6) (s.τ 193) s.H) s <| .mk fun s =>
  @sOp none (xStore 3 (s.τ 7) (s.τ 194) s.H) s <| .mk fun s =>
  @sOp (some 8) (xMov (.bool false) s.H) s <| .mk fun s =>
  @sMv 9 195 s <| .mk fun s =>
  Φ .ret s
def W10 (Φ : EP) (s : St) : Prop :=
  @sOp (some 3) (xBox 3 33 (s.τ 0) s.H) s <| .mk fun s =>
  @sOp (some 4) (xBox 4 36 (s.τ 1) s.H) s <| .mk fun s =>
  @sOp (some 6) (xAlloc 6 36 [.int .i64 0, .int .i64 0, .int .i64 0, .str ⟨#[]⟩, .int .i64 0, .int .i64 0, .str ⟨#[]⟩, .nils, .nils, .nils, .nils, .int .i64 0, .int .i64 0] s.H) s <| .mk fun s =>
  @sOp (some 7) (xAlloc 7 39 [.str ⟨#[]⟩, .int .i64 0, .int .i64 0] s.H) s <| .mk fun s =>
  @sOp (some 8) (xMov (.bool false) s.H) s <| .mk fun s =>
  @sOp (some 9) (xMov (.int .i64 0) s.H) s <| .mk fun s =>
  @sScope s ⟨fun J0 s => W10_s50 Φ J0 s⟩ ⟨[(0, fun J0 s => W10_g51 Φ J0 s)]⟩
theorem W10_rs (τ : Nat → AV) (H : Heap) : resV Try.prog τ H [.cell 6 36, .cell 7 39, .tmp 8, .tmp 9] = ob (ob (rdV H 13 true (τ 6)) fun v => ob (ob (rdV H 3 true (τ 7)) fun v => ob (ob (some (τ 8)) fun v => ob (ob (some (τ 9)) fun v => ob (some []) fun vs => some (v :: vs)) fun vs => some (v :: vs)) fun vs => some (v :: vs)) fun vs => some (v :: vs)) fun vs => some (.tup vs) := by kernel_rfl
theorem W10_eq (Φ : EP) (s : St) : awp Try.prog (Try.f10.body.getD .skip) Φ s = W10 Φ s := by kernel_rfl
theorem W10_S {args : List AV} {r : AV} (hl : args.length ≤ 196) (h : ∀ vs, W10 (retK Try.prog [.cell 6 36, .cell 7 39, .tmp 8, .tmp 9] r) ⟨Am.look (argT 0 args), hls [] vs, noG⟩) : Am.Spec Try.prog 10 args r := .of_W (W := W10) Try.func10 (by kernel_rfl) (by kernel_rfl) (by kernel_rfl) Try.ntmps10 W10_eq (by kernel_rfl) hl h

-- 11 "penance/run.Tell"
def W11_b1 (Φ : EP) (s : St) : Prop :=
  @sOp (some 24) (xBuild [.int .i64 0, .int .i64 0, .int .i64 0, .str ⟨#[]⟩, .int .i64 0, .int .i64 0, .str ⟨#[]⟩, .nils, .nils, .nils, .nils, .int .i64 0, .int .i64 0] [] s.H) s <| .mk fun s =>
  @sOp (some 25) (xBuild [.str ⟨#[]⟩, .int .i64 0, .int .i64 0] [] s.H) s <| .mk fun s =>
  @sOp none (xStore 13 (s.τ 8) (s.τ 24) s.H) s <| .mk fun s =>
  @sOp none (xStore 3 (s.τ 9) (s.τ 25) s.H) s <| .mk fun s =>
  @sOp (some 10) (xMov (.bool false) s.H) s <| .mk fun s =>
  Φ .ret s
def W11_k4 (Φ : EP) (s : St) : Prop :=
  @sFl 47 0 8 s <| .mk fun s =>
  @sLd 48 9 47 true s <| .mk fun s =>
  @sMv 49 11 s <| .mk fun s =>
  @sOp (some 50) (xBuild [.int .i64 0, .int .i64 0, .int .i64 0, .str ⟨#[]⟩, .int .i64 0, .int .i64 0, .str ⟨#[]⟩, .nils, .nils] [] s.H) s <| .mk fun s =>
  @sCall Try.prog (.func 30 []) [(s.τ 48), (s.τ 49), (s.τ 50)] (some 51) s <| .mk fun s =>
  @sCall Try.prog (.func 19 []) [(s.τ 51)] (some 52) s <| .mk fun s =>
  @sFl 53 0 8 s <| .mk fun s =>
  @sOp none (xStore 9 (s.τ 53) (s.τ 52) s.H) s <| .mk fun s =>
  @sLd 54 13 8 true s <| .mk fun u1 =>
  @sFl 55 3 12 u1 <| .mk fun u2 =>
  @sLd 56 1 55 false u2 <| .mk fun u3 =>
  @sMv 57 2 u3 <| .mk fun u4 =>
  @sMv 58 3 u4 <| .mk fun u5 =>
  @sOp (some 59) (xBuild [.str ⟨#[]⟩, .int .i64 0, .int .i64 0] [(0, 1, (u5.τ 56)), (1, 1, (u5.τ 57)), (2, 1, (u5.τ 58))] u5.H) u5 <| .mk fun u6 =>
  @sChk (compat (occ (u1.τ 12), []) (occ (u6.τ 8), occ (u6.τ 8))) <| .mk <|
  @sChk (compat (occ (u2.τ 55), []) (occ (u6.τ 8), occ (u6.τ 8))) <| .mk <|
  @sOp none (xStore 13 (u6.τ 8) (u6.τ 54) u6.H) u6 <| .mk fun u7 =>
  @sOp none (xStore 3 (u7.τ 9) (u7.τ 59) u7.H) u7 <| .mk fun u8 =>
  @sOp (some 10) (xMov (.bool true) u8.H) u8 <| .mk fun s =>
  Φ .ret s
def W11_b5 (Φ : EP) (s : St) : Prop :=
  @sFl 41 9 8 s <| .mk fun s =>
  @sLd 42 1 41 false s <| .mk fun s =>
  @sFl 43 2 12 s <| .mk fun s =>
  @sLd 44 1 43 false s <| .mk fun s =>
  @sMv 45 3 s <| .mk fun s =>
  @sOp (some 46) (xIx 1 (s.τ 42) (s.τ 44) s.H) s <| .mk fun s =>
  @sOp none (xStore 1 (s.τ 46) (s.τ 45) s.H) s <| .mk fun s =>
  W11_k4 Φ s
def W11_b13 (Φ : EP) (s : St) : Prop :=
  @sFl 26 0 8 s <| .mk fun s =>
  @sLd 27 9 26 true s <| .mk fun s =>
  @sMv 28 11 s <| .mk fun s =>
  @sCall Try.prog (.func 24 []) [(s.τ 27), (s.τ 28)] (some 29) s <| .mk fun s =>
  @sOp (some 12) (xAlloc 12 29 [.int .i64 0, .int .i64 0, .int .i64 0, .str ⟨#[]⟩, .int .i64 0, .int .i64 0, .str ⟨#[]⟩, .nils, .nils] s.H) s <| .mk fun s =>
  @sOp none (xStore 9 (s.τ 12) (s.τ 29) s.H) s <| .mk fun s =>
  @sFl 30 2 12 s <| .mk fun s =>
  @sLd 31 1 30 false s <| .mk fun s =>
  @sOp (some 32) (xBin .geq false (s.τ 31) (.int .i64 0) s.H) s <| .mk fun s =>
  @sMv 33 32 s <| .mk fun s =>
  @sGf 34 2 12 33 true s <| .mk fun s =>
  @sGl 35 1 34 33 false true s <| .mk fun s =>
  @sGf 36 9 8 33 true s <| .mk fun s =>
  @sGl 37 1 36 33 false true s <| .mk fun s =>
  @sGo 38 33 true s (fun s => (xLen (s.τ 37) s.H)) <| .mk fun s =>
  @sGo 39 33 true s (fun s => (xBin .lss false (s.τ 35) (s.τ 38) s.H)) <| .mk fun s =>
  @sOp (some 40) (xPick (s.τ 33) (s.τ 39) (.bool false) s.H) s <| .mk fun s =>
  @sIf (s.τ 40) ⟨W11_b5 Φ s⟩ ⟨W11_k4 Φ s⟩
def W11 (Φ : EP) (s : St) : Prop :=
  @sOp (some 4) (xBox 4 33 (s.τ 0) s.H) s <| .mk fun s =>
  @sOp (some 5) (xBox 5 36 (s.τ 1) s.H) s <| .mk fun s =>
  @sOp (some 8) (xAlloc 8 36 [.int .i64 0, .int .i64 0, .int .i64 0, .str ⟨#[]⟩, .int .i64 0, .int .i64 0, .str ⟨#[]⟩, .nils, .nils, .nils, .nils, .int .i64 0, .int .i64 0] s.H) s <| .mk fun s =>
  @sOp (some 9) (xAlloc 9 39 [.str ⟨#[]⟩, .int .i64 0, .int .i64 0] s.H) s <| .mk fun s =>
  @sOp (some 10) (xMov (.bool false) s.H) s <| .mk fun s =>
  @sLd 13 13 5 true s <| .mk fun s =>
  @sCall Try.prog (.func 23 []) [(s.τ 13)] (some 14) s <| .mk fun s =>
  @sOp none (xStore 13 (s.τ 8) (s.τ 14) s.H) s <| .mk fun s =>
  @sFl 16 0 8 s <| .mk fun s =>
  @sLd 17 9 16 true s <| .mk fun s =>
  @sMv 18 2 s <| .mk fun s =>
  @sCall Try.prog (.func 33 []) [(s.τ 17), (s.τ 18)] (some 19) s <| .mk fun s =>
  @sMv 15 19 s <| .mk fun s =>
  @sOp (some 20) (xExt (s.τ 15) 0 s.H) s <| .mk fun s =>
  @sOp (some 21) (xExt (s.τ 15) 1 s.H) s <| .mk fun s =>
  @sMv 11 20 s <| .mk fun s =>
  @sMv 10 21 s <| .mk fun s =>
  @sMv 22 10 s <| .mk fun s =>
  @sOp (some 23) (xNot (s.τ 22) s.H) s <| .mk fun s =>
  @sIf (s.τ 23) ⟨W11_b1 Φ s⟩ ⟨W11_b13 Φ s⟩
theorem W11_rs (τ : Nat → AV) (H : Heap) : resV Try.prog τ H [.cell 8 36, .cell 9 39, .tmp 10] = ob (ob (rdV H 13 true (τ 8)) fun v => ob (ob (rdV H 3 true (τ 9)) fun v => ob (ob (some (τ 10)) fun v => ob (some []) fun vs => some (v :: vs)) fun vs => some (v :: vs)) fun vs => some (v :: vs)) fun vs => some (.tup vs) := by kernel_rfl
theorem W11_eq (Φ : EP) (s : St) : awp Try.prog (Try.f11.body.getD .skip) Φ s = W11 Φ s := by kernel_rfl
theorem W11_S {args : List AV} {r : AV} (hl : args.length ≤ 60) (h : ∀ vs, W11 (retK Try.prog [.cell 8 36, .cell 9 39, .tmp 10] r) ⟨Am.look (argT 0 args), hls [] vs, noG⟩) : Am.Spec Try.prog 11 args r := .of_W (W := W11) Try.func11 (by kernel_rfl) (by kernel_rfl) (by kernel_rfl) Try.ntmps11 W11_eq (by kernel_rfl) hl h

-- 12 "penance/penanceref1.Words"
def W12_b1 (Φ : EP) (s : St) : Prop :=
  @sOp (some 4) (xMov (.bool false) s.H) s <| .mk fun s =>
  Φ .ret s
def W12_k2 (Φ : EP) (s : St) : Prop :=
  @sOp (some 4) (xMov (.bool true) s.H) s <| .mk fun s =>
  Φ .ret s
def W12_b3 (Φ : EP) (L0 : SP) (s : St) : Prop :=
  @sOp (some 4) (xMov (.bool false) s.H) s <| .mk fun s =>
  Φ .ret s
def W12_b4 (Φ : EP) (L0 : SP) (s : St) : Prop :=
  @sMv 15 5 s <| .mk fun s =>
  @sOp (some 16) (xBin .add false (s.τ 15) (.int .i64 1) s.H) s <| .mk fun s =>
  @sMv 5 16 s <| .mk fun s =>
  L0 s
def W12_b5 (Φ : EP) (L0 : SP) (s : St) : Prop :=
  @sMv 17 0 s <| .mk fun s =>
  @sMv 18 5 s <| .mk fun s =>
  @sOp (some 19) (xIx 1 (s.τ 17) (s.τ 18) s.H) s <| .mk fun s =>
  @sLd 20 1 19 false s <| .mk fun s =>
  @sMv 21 1 s <| .mk fun s =>
  @sMv 22 5 s <| .mk fun s =>
  @sOp (some 23) (xIx 1 (s.τ 21) (s.τ 22) s.H) s <| .mk fun s =>
  @sLd 24 1 23 false s <| .mk fun s =>
  @sOp (some 25) (xBin .neq false (s.τ 20) (s.τ 24) s.H) s <| .mk fun s =>
  @sIf (s.τ 25) ⟨W12_b3 Φ L0 s⟩ ⟨W12_b4 Φ L0 s⟩
def W12_l6 (Φ : EP) (L0 : SP) (s : St) : Prop :=
  @sMv 11 5 s <| .mk fun s =>
  @sMv 12 0 s <| .mk fun s =>
  @sOp (some 13) (xLen (s.τ 12) s.H) s <| .mk fun s =>
  @sOp (some 14) (xBin .lss false (s.τ 11) (s.τ 13) s.H) s <| .mk fun s =>
  @sIf (s.τ 14) ⟨W12_b5 Φ L0 s⟩ ⟨W12_k2 Φ s⟩
def W12_b7 (Φ : EP) (s : St) : Prop :=
  @sOp (some 5) (xMov (.int .i64 0) s.H) s <| .mk fun s =>
  @sLoop s ⟨fun L0 s => W12_l6 Φ L0 s⟩
def W12 (Φ : EP) (s : St) : Prop :=
  @sOp (some 4) (xMov (.bool false) s.H) s <| .mk fun s =>
  @sMv 6 0 s <| .mk fun s =>
  @sOp (some 7) (xLen (s.τ 6) s.H) s <| .mk fun s =>
  @sMv 8 1 s <| .mk fun s =>
  @sOp (some 9) (xLen (s.τ 8) s.H) s <| .mk fun s =>
  @sOp (some 10) (xBin .neq false (s.τ 7) (s.τ 9) s.H) s <| .mk fun s =>
  @sIf (s.τ 10) ⟨W12_b1 Φ s⟩ ⟨W12_b7 Φ s⟩
theorem W12_rs (τ : Nat → AV) (H : Heap) : resV Try.prog τ H [.tmp 4] = some (τ 4) := by kernel_rfl
theorem W12_eq (Φ : EP) (s : St) : awp Try.prog (Try.f12.body.getD .skip) Φ s = W12 Φ s := by kernel_rfl
theorem W12_S {args : List AV} {r : AV} (hl : args.length ≤ 26) (h : ∀ vs, W12 (retK Try.prog [.tmp 4] r) ⟨Am.look (argT 0 args), hls [] vs, noG⟩) : Am.Spec Try.prog 12 args r := .of_W (W := W12) Try.func12 (by kernel_rfl) (by kernel_rfl) (by kernel_rfl) Try.ntmps12 W12_eq (by kernel_rfl) hl h

-- 13 "penance/penanceref6.Size"
def W13_k1 (Φ : EP) (s : St) : Prop :=
  @sMv 31 3 s <| .mk fun s =>
  @sMv 2 31 s <| .mk fun s =>
  Φ .ret s
def W13_k2 (Φ : EP) (L0 : SP) (s : St) : Prop :=
  @sMv 10 4 s <| .mk fun s =>
  @sOp (some 11) (xBin .add false (s.τ 10) (.int .i64 1) s.H) s <| .mk fun s =>
  @sMv 4 11 s <| .mk fun s =>
  L0 s
def W13_b4 (Φ : EP) (L0 : SP) (L1 : SP) (s : St) : Prop :=
  @sMv 21 3 s <| .mk fun s =>
  @sMv 22 0 s <| .mk fun s =>
  @sMv 23 4 s <| .mk fun s =>
  @sOp (some 24) (xIx 1 (s.τ 22) (s.τ 23) s.H) s <| .mk fun s =>
  @sLd 25 1 24 false s <| .mk fun s =>
  @sMv 26 5 s <| .mk fun s =>
  @sOp (some 27) (xIx 9 (s.τ 25) (s.τ 26) s.H) s <| .mk fun s =>
  @sLd 28 9 27 true s <| .mk fun s =>
  @sCall Try.prog (.func 14 []) [(s.τ 28)] (some 29) s <| .mk fun s =>
  @sOp (some 30) (xBin .add false (s.τ 21) (s.τ 29) s.H) s <| .mk fun s =>
  @sMv 3 30 s <| .mk fun s =>
  @sMv 19 5 s <| .mk fun s =>
  @sOp (some 20) (xBin .add false (s.τ 19) (.int .i64 1) s.H) s <| .mk fun s =>
  @sMv 5 20 s <| .mk fun s =>
  L1 s
def W13_l5 (Φ : EP) (L0 : SP) (L1 : SP) (s : St) : Prop :=
  @sMv 12 5 s <| .mk fun s =>
  @sMv 13 0 s <| .mk fun s =>
  @sMv 14 4 s <| .mk fun s =>
  @sOp (some 15) (xIx 1 (s.τ 13) (s.τ 14) s.H) s <| .mk fun s =>
  @sLd 16 1 15 false s <| .mk fun s =>
  @sOp (some 17) (xLen (s.τ 16) s.H) s <| .mk fun s =>
  @sOp (some 18) (xBin .lss false (s.τ 12) (s.τ 17) s.H) s <| .mk fun s =>
  @sIf (s.τ 18) ⟨W13_b4 Φ L0 L1 s⟩ ⟨W13_k2 Φ L0 s⟩
def W13_b6 (Φ : EP) (L0 : SP) (s : St) : Prop :=
  @sOp (some 5) (xMov (.int .i64 0) s.H) s <| .mk fun s =>
  @sLoop s ⟨fun L1 s => W13_l5 Φ L0 L1 s⟩
def W13_l7 (Φ : EP) (L0 : SP) (s : St) : Prop :=
  @sMv 6 4 s <| .mk fun s =>
  @sMv 7 0 s <| .mk fun s =>
  @sOp (some 8) (xLen (s.τ 7) s.H) s <| .mk fun s =>
  @sOp (some 9) (xBin .lss false (s.τ 6) (s.τ 8) s.H) s <| .mk fun s =>
  @sIf (s.τ 9) ⟨W13_b6 Φ L0 s⟩ ⟨W13_k1 Φ s⟩
def W13 (Φ : EP) (s : St) : Prop :=
  @sOp (some 2) (xMov (.int .i64 0) s.H) s <| .mk fun s =>
  @sOp (some 3) (xMov (.int .i64 0) s.H) s <| .mk fun s =>
  @sOp (some 4) (xMov (.int .i64 0) s.H) s <| .mk fun s =>
  @sLoop s ⟨fun L0 s => W13_l7 Φ L0 s⟩
theorem W13_rs (τ : Nat → AV) (H : Heap) : resV Try.prog τ H [.tmp 2] = some (τ 2) := by kernel_rfl
theorem W13_eq (Φ : EP) (s : St) : awp Try.prog (Try.f13.body.getD .skip) Φ s = W13 Φ s := by kernel_rfl
theorem W13_S {args : List AV} {r : AV} (hl : args.length ≤ 32) (h : ∀ vs, W13 (retK Try.prog [.tmp 2] r) ⟨Am.look (argT 0 args), hls [] vs, noG⟩) : Am.Spec Try.prog 13 args r := .of_W (W := W13) Try.func13 (by kernel_rfl) (by kernel_rfl) (by kernel_rfl) Try.ntmps13 W13_eq (by kernel_rfl) hl h

-- 14 "penance/penanceref5.Size"
def W14_k1 (Φ : EP) (s : St) : Prop :=
  @sMv 20 3 s <| .mk fun s =>
  @sMv 2 20 s <| .mk fun s =>
  Φ .ret s
def W14_b3 (Φ : EP) (L0 : SP) (s : St) : Prop :=
  @sMv 12 3 s <| .mk fun s =>
  @sFl 13 8 1 s <| .mk fun s =>
  @sLd 14 1 13 false s <| .mk fun s =>
  @sMv 15 4 s <| .mk fun s =>
  @sOp (some 16) (xIx 9 (s.τ 14) (s.τ 15) s.H) s <| .mk fun s =>
  @sLd 17 9 16 true s <| .mk fun s =>
  @sCall Try.prog (.func 14 []) [(s.τ 17)] (some 18) s <| .mk fun s =>
  @sOp (some 19) (xBin .add false (s.τ 12) (s.τ 18) s.H) s <| .mk fun s =>
  @sMv 3 19 s <| .mk fun s =>
  @sMv 10 4 s <| .mk fun s =>
  @sOp (some 11) (xBin .add false (s.τ 10) (.int .i64 1) s.H) s <| .mk fun s =>
  @sMv 4 11 s <| .mk fun s =>
  L0 s
def W14_l4 (Φ : EP) (L0 : SP) (s : St) : Prop :=
  @sMv 5 4 s <| .mk fun s =>
  @sFl 6 8 1 s <| .mk fun s =>
  @sLd 7 1 6 false s <| .mk fun s =>
  @sOp (some 8) (xLen (s.τ 7) s.H) s <| .mk fun s =>
  @sOp (some 9) (xBin .lss false (s.τ 5) (s.τ 8) s.H) s <| .mk fun s =>
  @sIf (s.τ 9) ⟨W14_b3 Φ L0 s⟩ ⟨W14_k1 Φ s⟩
def W14 (Φ : EP) (s : St) : Prop :=
  @sOp (some 1) (xBox 1 29 (s.τ 0) s.H) s <| .mk fun s =>
  @sOp (some 2) (xMov (.int .i64 0) s.H) s <| .mk fun s =>
  @sOp (some 3) (xMov (.int .i64 1) s.H) s <| .mk fun s =>
  @sOp (some 4) (xMov (.int .i64 0) s.H) s <| .mk fun s =>
  @sLoop s ⟨fun L0 s => W14_l4 Φ L0 s⟩
theorem W14_rs (τ : Nat → AV) (H : Heap) : resV Try.prog τ H [.tmp 2] = some (τ 2) := by kernel_rfl
theorem W14_eq (Φ : EP) (s : St) : awp Try.prog (Try.f14.body.getD .skip) Φ s = W14 Φ s := by kernel_rfl
theorem W14_S {args : List AV} {r : AV} (hl : args.length ≤ 21) (h : ∀ vs, W14 (retK Try.prog [.tmp 2] r) ⟨Am.look (argT 0 args), hls [] vs, noG⟩) : Am.Spec Try.prog 14 args r := .of_W (W := W14) Try.func14 (by kernel_rfl) (by kernel_rfl) (by kernel_rfl) Try.ntmps14 W14_eq (by kernel_rfl) hl h

-- 18 "penance/run.Check"
def W18_b1 (Φ : EP) (s : St) : Prop :=
  @sOp (some 2) (xMov (.bool false) s.H) s <| .mk fun s =>
  Φ .ret s
def W18_k2 (Φ : EP) (s : St) : Prop :=
  @sOp (some 2) (xMov (.bool true) s.H) s <| .mk fun s =>
  Φ .ret s
def W18_b3 (Φ : EP) (L0 : SP) (s : St) : Prop :=
  @sOp (some 2) (xMov (.bool false) s.H) s <| .mk fun s =>
  Φ .ret s
def W18_b4 (Φ : EP) (L0 : SP) (s : St) : Prop :=
  @sOp (some 71) (xBin .add false (s.τ 47) (.int .i64 1) s.H) s <| .mk fun s =>
  @sMv 47 71 s <| .mk fun s =>
  L0 s
def W18_b19 (Φ : EP) (L0 : SP) (s : St) : Prop :=
  @sOp (some 49) (xIx 9 (s.τ 45) (s.τ 47) s.H) s <| .mk fun s =>
  @sLd 50 9 49 true s <| .mk fun s =>
  @sOp (some 4) (xAlloc 4 29 [.int .i64 0, .int .i64 0, .int .i64 0, .str ⟨#[]⟩, .int .i64 0, .int .i64 0, .str ⟨#[]⟩, .nils, .nils] s.H) s <| .mk fun s =>
  @sOp none (xStore 9 (s.τ 4) (s.τ 50) s.H) s <| .mk fun s =>
  @sLd 51 9 4 true s <| .mk fun s =>
  @sCall Try.prog (.func 31 []) [(s.τ 51)] (some 52) s <| .mk fun s =>
  @sOp (some 53) (xBin .gtr false (s.τ 52) (.int .i64 2000) s.H) s <| .mk fun s =>
  @sMv 54 53 s <| .mk fun s =>
  @sGl 55 9 4 54 true false s <| .mk fun s =>
  @sGrd (guardOf (s.τ 54) false) (some 56) s ⟨fun s K => @sCall Try.prog (.func 40 []) [(s.τ 55)] (some 56) s ⟨K⟩⟩ <| .mk fun s =>
  @sOp (some 57) (xPick (s.τ 54) (.bool true) (s.τ 56) s.H) s <| .mk fun s =>
  @sMv 58 57 s <| .mk fun s =>
  @sGl 59 9 4 58 true false s <| .mk fun s =>
  @sGf 60 0 1 58 false s <| .mk fun s =>
  @sGl 61 1 60 58 false false s <| .mk fun s =>
  @sGo 62 58 false s (fun s => (xLen (s.τ 61) s.H)) <| .mk fun s =>
  @sGf 63 1 1 58 false s <| .mk fun s =>
  @sGl 64 1 63 58 false false s <| .mk fun s =>
  @sGf 65 2 1 58 false s <| .mk fun s =>
  @sGl 66 1 65 58 false false s <| .mk fun s =>
  @sGo 67 58 false s (fun s => (xLen (s.τ 66) s.H)) <| .mk fun s =>
  @sGrd (guardOf (s.τ 58) false) (some 68) s ⟨fun s K => @sCall Try.prog (.func 41 []) [(s.τ 59), (s.τ 62), (s.τ 64), (s.τ 67)] (some 68) s ⟨K⟩⟩ <| .mk fun s =>
  @sGo 69 58 false s (fun s => (xNot (s.τ 68) s.H)) <| .mk fun s =>
  @sOp (some 70) (xPick (s.τ 58) (.bool true) (s.τ 69) s.H) s <| .mk fun s =>
  @sIf (s.τ 70) ⟨W18_b3 Φ L0 s⟩ ⟨W18_b4 Φ L0 s⟩
def W18_l20 (Φ : EP) (L0 : SP) (s : St) : Prop :=
  @sOp (some 48) (xBin .lss false (s.τ 47) (s.τ 46) s.H) s <| .mk fun s =>
  @sIf (s.τ 48) ⟨W18_b19 Φ L0 s⟩ ⟨W18_k2 Φ s⟩
def W18_b21 (Φ : EP) (s : St) : Prop :=
  @sFl 44 2 1 s <| .mk fun s =>
  @sLd 45 1 44 false s <| .mk fun s =>
  @sOp (some 46) (xLen (s.τ 45) s.H) s <| .mk fun s =>
  @sOp (some 47) (xMov (.int .i64 0) s.H) s <| .mk fun s =>
  @sLoop s ⟨fun L0 s => W18_l20 Φ L0 s⟩
def W18 (Φ : EP) (s : St) : Prop :=
  @sOp (some 1) (xBox 1 33 (s.τ 0) s.H) s <| .mk fun s =>
  @sOp (some 2) (xMov (.bool false) s.H) s <| .mk fun s =>
  @sFl 5 0 1 s <| .mk fun s =>
  @sLd 6 1 5 false s <| .mk fun s =>
  @sOp (some 7) (xLen (s.τ 6) s.H) s <| .mk fun s =>
  @sOp (some 8) (xBin .gtr false (s.τ 7) (.int .i64 20) s.H) s <| .mk fun s =>
  @sMv 9 8 s <| .mk fun s =>
  @sGf 10 1 1 9 false s <| .mk fun s =>
  @sGl 11 1 10 9 false false s <| .mk fun s =>
  @sGo 12 9 false s (fun s => (xBin .lss false (s.τ 11) (.int .i64 0) s.H)) <| .mk fun s =>
  @sOp (some 13) (xPick (s.τ 9) (.bool true) (s.τ 12) s.H) s <| .mk fun s =>
  @sMv 14 13 s <| .mk fun s =>
  @sGf 15 1 1 14 false s <| .mk fun s =>
  @sGl 16 1 15 14 false false s <| .mk fun s =>
  @sGo 17 14 false s (fun s => (xBin .gtr false (s.τ 16) (.int .i64 10) s.H)) <| .mk fun s =>
  @sOp (some 18) (xPick (s.τ 14) (.bool true) (s.τ 17) s.H) s <| .mk fun s =>
  @sMv 19 18 s <| .mk fun s =>
  @sGf 20 2 1 19 false s <| .mk fun s =>
  @sGl 21 1 20 19 false false s <| .mk fun s =>
  @sGo 22 19 false s (fun s => (xLen (s.τ 21) s.H)) <| .mk fun s =>
  @sGo 23 19 false s (fun s => (xBin .lss false (s.τ 22) (.int .i64 1) s.H)) <| .mk fun s =>
  @sOp (some 24) (xPick (s.τ 19) (.bool true) (s.τ 23) s.H) s <| .mk fun s =>
  @sMv 25 24 s <| .mk fun s =>
  @sGf 26 2 1 25 false s <| .mk fun s =>
  @sGl 27 1 26 25 false false s <| .mk fun s =>
  @sGo 28 25 false s (fun s => (xLen (s.τ 27) s.H)) <| .mk fun s =>
  @sGo 29 25 false s (fun s => (xBin .gtr false (s.τ 28) (.int .i64 20) s.H)) <| .mk fun s =>
  @sOp (some 30) (xPick (s.τ 25) (.bool true) (s.τ 29) s.H) s <| .mk fun s =>
  @sMv 31 30 s <| .mk fun s =>
  @sGf 32 3 1 31 false s <| .mk fun s =>
  @sGl 33 1 32 31 false false s <| .mk fun s =>
  @sGo 34 31 false s (fun s => (xBin .lss false (s.τ 33) (.int .i64 0) s.H)) <| .mk fun s =>
  @sOp (some 35) (xPick (s.τ 31) (.bool true) (s.τ 34) s.H) s <| .mk fun s =>
  @sMv 36 35 s <| .mk fun s =>
  @sGf 37 3 1 36 false s <| .mk fun s =>
  @sGl 38 1 37 36 false false s <| .mk fun s =>
  @sGf 39 2 1 36 false s <| .mk fun s =>
  @sGl 40 1 39 36 false false s <| .mk fun s =>
  @sGo 41 36 false s (fun s => (xLen (s.τ 40) s.H)) <| .mk fun s =>
  @sGo 42 36 false s (fun s => (xBin .geq false (s.τ 38) (s.τ 41) s.H)) <| .mk fun s =>
  @sOp (some 43) (xPick (s.τ 36) (.bool true) (s.τ 42) s.H) s <| .mk fun s =>
  @sIf (s.τ 43) ⟨W18_b1 Φ s⟩ ⟨W18_b21 Φ s⟩
theorem W18_rs (τ : Nat → AV) (H : Heap) : resV Try.prog τ H [.tmp 2] = some (τ 2) := by kernel_rfl
theorem W18_eq (Φ : EP) (s : St) : awp Try.prog (Try.f18.body.getD .skip) Φ s = W18 Φ s := by kernel_rfl
theorem W18_S {args : List AV} {r : AV} (hl : args.length ≤ 72) (h : ∀ vs, W18 (retK Try.prog [.tmp 2] r) ⟨Am.look (argT 0 args), hls [] vs, noG⟩) : Am.Spec Try.prog 18 args r := .of_W (W := W18) Try.func18 (by kernel_rfl) (by kernel_rfl) (by kernel_rfl) Try.ntmps18 W18_eq (by kernel_rfl) hl h

-- 19 "penance/term.Norm"
def W19_b2 (Φ : EP) (s : St) : Prop :=
  @sFl 26 8 1 s <| .mk fun s =>
  @sLd 27 1 26 false s <| .mk fun s =>
  @sOp (some 28) (xIx 9 (s.τ 27) (.int .i64 1) s.H) s <| .mk fun s =>
  @sLd 29 9 28 true s <| .mk fun s =>
  @sCall Try.prog (.func 19 []) [(s.τ 29)] (some 30) s <| .mk fun s =>
  @sOp none (xStore 9 (s.τ 2) (s.τ 30) s.H) s <| .mk fun s =>
  Φ .ret s
def W19_b4 (Φ : EP) (s : St) : Prop :=
  @sLd 31 9 4 true s <| .mk fun u1 =>
  @sFl 32 8 1 u1 <| .mk fun u2 =>
  @sLd 33 1 32 false u2 <| .mk fun u3 =>
  @sOp (some 34) (xIx 9 (u3.τ 33) (.int .i64 1) u3.H) u3 <| .mk fun u4 =>
  @sLd 35 9 34 true u4 <| .mk fun u5 =>
  @sChk (compat (occ (s.τ 4), []) (cfp 36 43 [(u5.τ 35)])) <| .mk <|
  @sCall0 Try.prog (.func 43 []) [(u5.τ 35)] (some 36) u5 <| .mk fun u6 =>
  @sOp (some 37) (xLit 9 2 [.int .i64 0, .int .i64 0, .int .i64 0, .str ⟨#[]⟩, .int .i64 0, .int .i64 0, .str ⟨#[]⟩, .nils, .nils] [(0, (u6.τ 31)), (1, (u6.τ 36))] u6.H) u6 <| .mk fun u7 =>
  @sOp (some 38) (xBuild [.int .i64 0, .int .i64 0, .int .i64 0, .str ⟨#[]⟩, .int .i64 0, .int .i64 0, .str ⟨#[]⟩, .nils, .nils] [(0, 1, (.int .i64 12)), (8, 1, (u7.τ 37))] u7.H) u7 <| .mk fun u8 =>
  @sOp none (xStore 9 (u8.τ 2) (u8.τ 38) u8.H) u8 <| .mk fun s =>
  Φ .ret s
def W19_b7 (Φ : EP) (s : St) : Prop :=
  @sFl 18 8 1 s <| .mk fun s =>
  @sLd 19 1 18 false s <| .mk fun s =>
  @sOp (some 20) (xIx 9 (s.τ 19) (.int .i64 0) s.H) s <| .mk fun s =>
  @sLd 21 9 20 true s <| .mk fun s =>
  @sCall Try.prog (.func 19 []) [(s.τ 21)] (some 22) s <| .mk fun s =>
  @sOp (some 4) (xAlloc 4 29 [.int .i64 0, .int .i64 0, .int .i64 0, .str ⟨#[]⟩, .int .i64 0, .int .i64 0, .str ⟨#[]⟩, .nils, .nils] s.H) s <| .mk fun s =>
  @sOp none (xStore 9 (s.τ 4) (s.τ 22) s.H) s <| .mk fun s =>
  @sMv 23 3 s <| .mk fun s =>
  @sLd 24 9 4 true s <| .mk fun s =>
  @sCall Try.prog (s.τ 23) [(s.τ 24)] (some 25) s <| .mk fun s =>
  @sIf (s.τ 25) ⟨W19_b2 Φ s⟩ ⟨W19_b4 Φ s⟩
def W19_b8 (Φ : EP) (s : St) : Prop :=
  @sOp (some 67) (xBuild [.int .i64 0, .int .i64 0, .int .i64 0, .str ⟨#[]⟩, .int .i64 0, .int .i64 0, .str ⟨#[]⟩, .nils, .nils] [] s.H) s <| .mk fun s =>
  @sOp none (xStore 9 (s.τ 2) (s.τ 67) s.H) s <| .mk fun s =>
  Φ .ret s
def W19_b9 (Φ : EP) (s : St) : Prop :=
  @sLd 68 9 5 true s <| .mk fun s =>
  @sLd 69 9 6 true s <| .mk fun s =>
  @sOp (some 70) (xLit 9 2 [.int .i64 0, .int .i64 0, .int .i64 0, .str ⟨#[]⟩, .int .i64 0, .int .i64 0, .str ⟨#[]⟩, .nils, .nils] [(0, (s.τ 68)), (1, (s.τ 69))] s.H) s <| .mk fun s =>
  @sOp (some 71) (xBuild [.int .i64 0, .int .i64 0, .int .i64 0, .str ⟨#[]⟩, .int .i64 0, .int .i64 0, .str ⟨#[]⟩, .nils, .nils] [(0, 1, (.int .i64 11)), (8, 1, (s.τ 70))] s.H) s <| .mk fun s =>
  @sOp none (xStore 9 (s.τ 2) (s.τ 71) s.H) s <| .mk fun s =>
  Φ .ret s
def W19_b16 (Φ : EP) (s : St) : Prop :=
  @sFl 49 8 1 s <| .mk fun u1 =>
  @sLd 50 1 49 false u1 <| .mk fun u2 =>
  @sOp (some 51) (xIx 9 (u2.τ 50) (.int .i64 0) u2.H) u2 <| .mk fun u3 =>
  @sLd 52 9 51 true u3 <| .mk fun u4 =>
  @sCall0 Try.prog (.func 19 []) [(u4.τ 52)] (some 53) u4 <| .mk fun u5 =>
  @sChk (compat (cfp 53 19 [(u4.τ 52)]) (occ (u5.τ 1), [])) <| .mk <|
  @sFl 54 8 1 u5 <| .mk fun u6 =>
  @sChk (compat (cfp 53 19 [(u4.τ 52)]) (occ (u6.τ 54), [])) <| .mk <|
  @sLd 55 1 54 false u6 <| .mk fun u7 =>
  @sChk (compat (cfp 53 19 [(u4.τ 52)]) (occ (u7.τ 55), [])) <| .mk <|
  @sOp (some 56) (xIx 9 (u7.τ 55) (.int .i64 1) u7.H) u7 <| .mk fun u8 =>
  @sChk (compat (cfp 53 19 [(u4.τ 52)]) (occ (u8.τ 56), [])) <| .mk <|
  @sLd 57 9 56 true u8 <| .mk fun u9 =>
  @sCall0 Try.prog (.func 19 []) [(u9.τ 57)] (some 58) u9 <| .mk fun u10 =>
  @sChk (compat (occ (s.τ 1), []) ([5], [5])) <| .mk <|
  @sChk (compat (occ (u1.τ 49), []) ([5], [5])) <| .mk <|
  @sChk (compat (occ (u2.τ 50), []) ([5], [5])) <| .mk <|
  @sChk (compat (occ (u3.τ 51), []) ([5], [5])) <| .mk <|
  @sChk (compat (cfp 53 19 [(u4.τ 52)]) ([5], [5])) <| .mk <|
  @sChk (compat (occ (u5.τ 1), []) ([5], [5])) <| .mk <|
  @sChk (compat (occ (u6.τ 54), []) ([5], [5])) <| .mk <|
  @sChk (compat (occ (u7.τ 55), []) ([5], [5])) <| .mk <|
  @sChk (compat (occ (u8.τ 56), []) ([5], [5])) <| .mk <|
  @sChk (compat (cfp 58 19 [(u9.τ 57)]) ([5], [5])) <| .mk <|
  @sOp (some 5) (xAlloc 5 29 [.int .i64 0, .int .i64 0, .int .i64 0, .str ⟨#[]⟩, .int .i64 0, .int .i64 0, .str ⟨#[]⟩, .nils, .nils] u10.H) u10 <| .mk fun u11 =>
  @sChk (compat (occ (s.τ 1), []) ([6], [6])) <| .mk <|
  @sChk (compat (occ (u1.τ 49), []) ([6], [6])) <| .mk <|
  @sChk (compat (occ (u2.τ 50), []) ([6], [6])) <| .mk <|
  @sChk (compat (occ (u3.τ 51), []) ([6], [6])) <| .mk <|
  @sChk (compat (cfp 53 19 [(u4.τ 52)]) ([6], [6])) <| .mk <|
  @sChk (compat (occ (u5.τ 1), []) ([6], [6])) <| .mk <|
  @sChk (compat (occ (u6.τ 54), []) ([6], [6])) <| .mk <|
  @sChk (compat (occ (u7.τ 55), []) ([6], [6])) <| .mk <|
  @sChk (compat (occ (u8.τ 56), []) ([6], [6])) <| .mk <|
  @sChk (compat (cfp 58 19 [(u9.τ 57)]) ([6], [6])) <| .mk <|
  @sChk (compat ([5], [5]) ([6], [6])) <| .mk <|
  @sOp (some 6) (xAlloc 6 29 [.int .i64 0, .int .i64 0, .int .i64 0, .str ⟨#[]⟩, .int .i64 0, .int .i64 0, .str ⟨#[]⟩, .nils, .nils] u11.H) u11 <| .mk fun u12 =>
  @sOp none (xStore 9 (u12.τ 5) (u12.τ 53) u12.H) u12 <| .mk fun u13 =>
  @sOp none (xStore 9 (u13.τ 6) (u13.τ 58) u13.H) u13 <| .mk fun s =>
  @sMv 59 3 s <| .mk fun s =>
  @sLd 60 9 5 true s <| .mk fun s =>
  @sCall Try.prog (s.τ 59) [(s.τ 60)] (some 61) s <| .mk fun s =>
  @sMv 62 61 s <| .mk fun s =>
  @sGm 63 3 62 true s <| .mk fun s =>
  @sGl 64 9 6 62 true true s <| .mk fun s =>
  @sGrd (guardOf (s.τ 62) true) (some 65) s ⟨fun s K => @sCall Try.prog (s.τ 63) [(s.τ 64)] (some 65) s ⟨K⟩⟩ <| .mk fun s =>
  @sOp (some 66) (xPick (s.τ 62) (s.τ 65) (.bool false) s.H) s <| .mk fun s =>
  @sIf (s.τ 66) ⟨W19_b8 Φ s⟩ ⟨W19_b9 Φ s⟩
def W19_b17 (Φ : EP) (s : St) : Prop :=
  @sOp (some 90) (xBuild [.int .i64 0, .int .i64 0, .int .i64 0, .str ⟨#[]⟩, .int .i64 0, .int .i64 0, .str ⟨#[]⟩, .nils, .nils] [] s.H) s <| .mk fun s =>
  @sOp none (xStore 9 (s.τ 2) (s.τ 90) s.H) s <| .mk fun s =>
  Φ .ret s
def W19_b18 (Φ : EP) (s : St) : Prop :=
  @sLd 91 9 7 true s <| .mk fun s =>
  @sOp (some 92) (xLit 9 1 [.int .i64 0, .int .i64 0, .int .i64 0, .str ⟨#[]⟩, .int .i64 0, .int .i64 0, .str ⟨#[]⟩, .nils, .nils] [(0, (s.τ 91))] s.H) s <| .mk fun s =>
  @sOp (some 93) (xBuild [.int .i64 0, .int .i64 0, .int .i64 0, .str ⟨#[]⟩, .int .i64 0, .int .i64 0, .str ⟨#[]⟩, .nils, .nils] [(0, 1, (.int .i64 7)), (8, 1, (s.τ 92))] s.H) s <| .mk fun s =>
  @sOp none (xStore 9 (s.τ 2) (s.τ 93) s.H) s <| .mk fun s =>
  Φ .ret s
def W19_b21 (Φ : EP) (s : St) : Prop :=
  @sFl 82 8 1 s <| .mk fun s =>
  @sLd 83 1 82 false s <| .mk fun s =>
  @sOp (some 84) (xIx 9 (s.τ 83) (.int .i64 0) s.H) s <| .mk fun s =>
  @sLd 85 9 84 true s <| .mk fun s =>
  @sCall Try.prog (.func 19 []) [(s.τ 85)] (some 86) s <| .mk fun s =>
  @sOp (some 7) (xAlloc 7 29 [.int .i64 0, .int .i64 0, .int .i64 0, .str ⟨#[]⟩, .int .i64 0, .int .i64 0, .str ⟨#[]⟩, .nils, .nils] s.H) s <| .mk fun s =>
  @sOp none (xStore 9 (s.τ 7) (s.τ 86) s.H) s <| .mk fun s =>
  @sMv 87 3 s <| .mk fun s =>
  @sLd 88 9 7 true s <| .mk fun s =>
  @sCall Try.prog (s.τ 87) [(s.τ 88)] (some 89) s <| .mk fun s =>
  @sIf (s.τ 89) ⟨W19_b17 Φ s⟩ ⟨W19_b18 Φ s⟩
def W19_b23 (Φ : EP) (s : St) : Prop :=
  @sLd 94 9 1 true s <| .mk fun s =>
  @sCall Try.prog (.func 43 []) [(s.τ 94)] (some 95) s <| .mk fun s =>
  @sOp none (xStore 9 (s.τ 2) (s.τ 95) s.H) s <| .mk fun s =>
  Φ .ret s
def W19_b28 (Φ : EP) (s : St) : Prop :=
  @sFl 73 0 1 s <| .mk fun s =>
  @sLd 74 1 73 false s <| .mk fun s =>
  @sOp (some 75) (xBin .eql false (s.τ 74) (.int .i64 7) s.H) s <| .mk fun s =>
  @sMv 76 75 s <| .mk fun s =>
  @sGf 77 8 1 76 true s <| .mk fun s =>
  @sGl 78 1 77 76 false true s <| .mk fun s =>
  @sGo 79 76 true s (fun s => (xLen (s.τ 78) s.H)) <| .mk fun s =>
  @sGo 80 76 true s (fun s => (xBin .eql false (s.τ 79) (.int .i64 1) s.H)) <| .mk fun s =>
  @sOp (some 81) (xPick (s.τ 76) (s.τ 80) (.bool false) s.H) s <| .mk fun s =>
  @sMv 72 81 s <| .mk fun s =>
  @sIf (s.τ 72) ⟨W19_b21 Φ s⟩ ⟨W19_b23 Φ s⟩
def W19_b33 (Φ : EP) (s : St) : Prop :=
  @sFl 40 0 1 s <| .mk fun s =>
  @sLd 41 1 40 false s <| .mk fun s =>
  @sOp (some 42) (xBin .eql false (s.τ 41) (.int .i64 11) s.H) s <| .mk fun s =>
  @sMv 43 42 s <| .mk fun s =>
  @sGf 44 8 1 43 true s <| .mk fun s =>
  @sGl 45 1 44 43 false true s <| .mk fun s =>
  @sGo 46 43 true s (fun s => (xLen (s.τ 45) s.H)) <| .mk fun s =>
  @sGo 47 43 true s (fun s => (xBin .eql false (s.τ 46) (.int .i64 2) s.H)) <| .mk fun s =>
  @sOp (some 48) (xPick (s.τ 43) (s.τ 47) (.bool false) s.H) s <| .mk fun s =>
  @sMv 39 48 s <| .mk fun s =>
  @sIf (s.τ 39) ⟨W19_b16 Φ s⟩ ⟨W19_b28 Φ s⟩
def W19 (Φ : EP) (s : St) : Prop :=
  @sOp (some 1) (xBox 1 29 (s.τ 0) s.H) s <| .mk fun s =>
  @sOp (some 2) (xAlloc 2 29 [.int .i64 0, .int .i64 0, .int .i64 0, .str ⟨#[]⟩, .int .i64 0, .int .i64 0, .str ⟨#[]⟩, .nils, .nils] s.H) s <| .mk fun s =>
  @sOp (some 3) (xMov (.func 42 []) s.H) s <| .mk fun s =>
  @sFl 9 0 1 s <| .mk fun s =>
  @sLd 10 1 9 false s <| .mk fun s =>
  @sOp (some 11) (xBin .eql false (s.τ 10) (.int .i64 12) s.H) s <| .mk fun s =>
  @sMv 12 11 s <| .mk fun s =>
  @sGf 13 8 1 12 true s <| .mk fun s =>
  @sGl 14 1 13 12 false true s <| .mk fun s =>
  @sGo 15 12 true s (fun s => (xLen (s.τ 14) s.H)) <| .mk fun s =>
  @sGo 16 12 true s (fun s => (xBin .eql false (s.τ 15) (.int .i64 2) s.H)) <| .mk fun s =>
  @sOp (some 17) (xPick (s.τ 12) (s.τ 16) (.bool false) s.H) s <| .mk fun s =>
  @sMv 8 17 s <| .mk fun s =>
  @sIf (s.τ 8) ⟨W19_b7 Φ s⟩ ⟨W19_b33 Φ s⟩
theorem W19_rs (τ : Nat → AV) (H : Heap) : resV Try.prog τ H [.cell 2 29] = rdV H 9 true (τ 2) := by kernel_rfl
theorem W19_eq (Φ : EP) (s : St) : awp Try.prog (Try.f19.body.getD .skip) Φ s = W19 Φ s := by kernel_rfl
theorem W19_S {args : List AV} {r : AV} (hl : args.length ≤ 96) (h : ∀ vs, W19 (retK Try.prog [.cell 2 29] r) ⟨Am.look (argT 0 args), hls [] vs, noG⟩) : Am.Spec Try.prog 19 args r := .of_W (W := W19) Try.func19 (by kernel_rfl) (by kernel_rfl) (by kernel_rfl) Try.ntmps19 W19_eq (by kernel_rfl) hl h

-- 20 "slices.Clone[[]int,int]"
def W20_b1 (Φ : EP) (s : St) : Prop :=
  @sOp (some 2) (xMov (.nils) s.H) s <| .mk fun s =>
  Φ .ret s
def W20_b2 (Φ : EP) (s : St) : Prop :=
  @sOp (some 5) (xRow 5 3 1 0 [.int .i64 0] [] s.H) s <| .mk fun s =>
  @sMv 6 0 s <| .mk fun s =>
  @sOp (some 7) (xApp Try.prog 3 1 8 (some 7) (s.τ 5) (s.τ 6) s.H) s <| .mk fun s =>
  @sMv 2 7 s <| .mk fun s =>
  Φ .ret s
def W20 (Φ : EP) (s : St) : Prop :=
  @sOp (some 2) (xMov (.nils) s.H) s <| .mk fun s =>
  @sMv 3 0 s <| .mk fun s =>
  @sNil false (s.τ 3) (some 4) s <| .mk fun s =>
  @sIf (s.τ 4) ⟨W20_b1 Φ s⟩ ⟨W20_b2 Φ s⟩
theorem W20_rs (τ : Nat → AV) (H : Heap) : resV Try.prog τ H [.tmp 2] = some (τ 2) := by kernel_rfl
theorem W20_eq (Φ : EP) (s : St) : awp Try.prog (Try.f20.body.getD .skip) Φ s = W20 Φ s := by kernel_rfl
theorem W20_S {args : List AV} {r : AV} (hl : args.length ≤ 8) (h : ∀ vs, W20 (retK Try.prog [.tmp 2] r) ⟨Am.look (argT 0 args), hls [] vs, noG⟩) : Am.Spec Try.prog 20 args r := .of_W (W := W20) Try.func20 (by kernel_rfl) (by kernel_rfl) (by kernel_rfl) Try.ntmps20 W20_eq (by kernel_rfl) hl h

-- 21 "penance/stacks.Merge"
def W21_k1 (Φ : EP) (s : St) : Prop :=
  @sMv 38 7 s <| .mk fun s =>
  @sMv 6 38 s <| .mk fun s =>
  Φ .ret s
def W21_b2 (Φ : EP) (s : St) : Prop :=
  @sMv 23 7 s <| .mk fun s =>
  @sMv 24 2 s <| .mk fun s =>
  @sMv 25 7 s <| .mk fun s =>
  @sMv 26 1 s <| .mk fun s =>
  @sMv 27 7 s <| .mk fun s =>
  @sMv 28 2 s <| .mk fun s =>
  @sOp (some 29) (xIx 1 (s.τ 27) (s.τ 28) s.H) s <| .mk fun s =>
  @sLd 30 1 29 false s <| .mk fun s =>
  @sMv 31 7 s <| .mk fun s =>
  @sMv 32 1 s <| .mk fun s =>
  @sOp (some 33) (xIx 1 (s.τ 31) (s.τ 32) s.H) s <| .mk fun s =>
  @sLd 34 1 33 false s <| .mk fun s =>
  @sOp (some 35) (xApp Try.prog 29 9 120 (some 35) (s.τ 30) (s.τ 34) s.H) s <| .mk fun s =>
  @sOp (some 36) (xIx 1 (s.τ 23) (s.τ 24) s.H) s <| .mk fun s =>
  @sOp none (xStore 1 (s.τ 36) (s.τ 35) s.H) s <| .mk fun s =>
  @sOp (some 37) (xIx 1 (s.τ 25) (s.τ 26) s.H) s <| .mk fun s =>
  @sOp none (xStore 1 (s.τ 37) (.nils) s.H) s <| .mk fun s =>
  W21_k1 Φ s
def W21 (Φ : EP) (s : St) : Prop :=
  @sOp (some 6) (xMov (.nils) s.H) s <| .mk fun s =>
  @sMv 8 0 s <| .mk fun s =>
  @sCall Try.prog (.func 44 []) [(s.τ 8)] (some 9) s <| .mk fun s =>
  @sMv 7 9 s <| .mk fun s =>
  @sMv 10 1 s <| .mk fun s =>
  @sMv 11 2 s <| .mk fun s =>
  @sOp (some 12) (xBin .neq false (s.τ 10) (s.τ 11) s.H) s <| .mk fun s =>
  @sMv 13 12 s <| .mk fun s =>
  @sGm 14 7 13 true s <| .mk fun s =>
  @sGm 15 1 13 true s <| .mk fun s =>
  @sGrd (guardOf (s.τ 13) true) (some 16) s ⟨fun s K => @sCall Try.prog (.func 45 []) [(s.τ 14), (s.τ 15)] (some 16) s ⟨K⟩⟩ <| .mk fun s =>
  @sOp (some 17) (xPick (s.τ 13) (s.τ 16) (.bool false) s.H) s <| .mk fun s =>
  @sMv 18 17 s <| .mk fun s =>
  @sGm 19 7 18 true s <| .mk fun s =>
  @sGm 20 2 18 true s <| .mk fun s =>
  @sGrd (guardOf (s.τ 18) true) (some 21) s ⟨fun s K => @sCall Try.prog (.func 45 []) [(s.τ 19), (s.τ 20)] (some 21) s ⟨K⟩⟩ <| .mk fun s =>
  @sOp (some 22) (xPick (s.τ 18) (s.τ 21) (.bool false) s.H) s <| .mk fun s =>
  @sIf (s.τ 22) ⟨W21_b2 Φ s⟩ ⟨W21_k1 Φ s⟩
theorem W21_rs (τ : Nat → AV) (H : Heap) : resV Try.prog τ H [.tmp 6] = some (τ 6) := by kernel_rfl
theorem W21_eq (Φ : EP) (s : St) : awp Try.prog (Try.f21.body.getD .skip) Φ s = W21 Φ s := by kernel_rfl
theorem W21_S {args : List AV} {r : AV} (hl : args.length ≤ 39) (h : ∀ vs, W21 (retK Try.prog [.tmp 6] r) ⟨Am.look (argT 0 args), hls [] vs, noG⟩) : Am.Spec Try.prog 21 args r := .of_W (W := W21) Try.func21 (by kernel_rfl) (by kernel_rfl) (by kernel_rfl) Try.ntmps21 W21_eq (by kernel_rfl) hl h

-- 22 "penance/steps.Enabled"
def W22_k2 (Φ : EP) (J0 : Nat → SP) (s : St) : Prop :=
  @sLd 42 1 3 false s <| .mk fun s =>
  @sCall Try.prog (.func 47 []) [(s.τ 42)] (some 43) s <| .mk fun s =>
  @sMv 2 43 s <| .mk fun s =>
  Φ .ret s
def W22_b4 (Φ : EP) (L0 : SP) (s : St) : Prop :=
  @sMv 29 27 s <| .mk fun s =>
  @sMv 6 29 s <| .mk fun s =>
  @sLd 30 1 3 false s <| .mk fun u1 =>
  @sFl 31 0 4 u1 <| .mk fun u2 =>
  @sFl 32 0 31 u2 <| .mk fun u3 =>
  @sLd 33 1 32 false u3 <| .mk fun u4 =>
  @sFl 34 9 4 u4 <| .mk fun u5 =>
  @sLd 35 1 34 false u5 <| .mk fun u6 =>
  @sChk (compat (occ (s.τ 3), []) (cfp 36 20 [(u6.τ 35)])) <| .mk <|
  @sChk (compat (occ (u1.τ 4), []) (cfp 36 20 [(u6.τ 35)])) <| .mk <|
  @sChk (compat (occ (u2.τ 31), []) (cfp 36 20 [(u6.τ 35)])) <| .mk <|
  @sChk (compat (occ (u3.τ 32), []) (cfp 36 20 [(u6.τ 35)])) <| .mk <|
  @sCall0 Try.prog (.func 20 []) [(u6.τ 35)] (some 36) u6 <| .mk fun u7 =>
  @sMv 37 6 u7 <| .mk fun u8 =>
  @sOp (some 38) (xBuild [.int .i64 0, .nils, .int .i64 0] [(0, 1, (u8.τ 33)), (1, 1, (u8.τ 36)), (2, 1, (u8.τ 37))] u8.H) u8 <| .mk fun u9 =>
  @sChk (compat (occ (s.τ 3), []) ([39] ++ occL [(u9.τ 38)], [39] ++ occL [(u9.τ 38)])) <| .mk <|
  @sOp (some 39) (xLit 3 1 [.int .i64 0, .nils, .int .i64 0] [(0, (u9.τ 38))] u9.H) u9 <| .mk fun u10 =>
  @sOp (some 40) (xApp Try.prog 53 3 40 (some 40) (u10.τ 30) (u10.τ 39) u10.H) u10 <| .mk fun u11 =>
  @sOp none (xStore 1 (u11.τ 3) (u11.τ 40) u11.H) u11 <| .mk fun s =>
  @sOp (some 41) (xBin .add false (s.τ 27) (.int .i64 1) s.H) s <| .mk fun s =>
  @sMv 27 41 s <| .mk fun s =>
  L0 s
def W22_l5 (Φ : EP) (L0 : SP) (s : St) : Prop :=
  @sOp (some 28) (xBin .lss false (s.τ 27) (s.τ 26) s.H) s <| .mk fun s =>
  @sIf (s.τ 28) ⟨W22_b4 Φ L0 s⟩ ⟨Φ .normal s⟩
def W22_k6 (Φ : EP) (s : St) : Prop :=
  @sMv 26 5 s <| .mk fun s =>
  @sOp (some 27) (xMov (.int .i64 0) s.H) s <| .mk fun s =>
  @sLoop s ⟨fun L0 s => W22_l5 Φ L0 s⟩
def W22_b7 (Φ : EP) (s : St) : Prop :=
  @sFl 22 10 4 s <| .mk fun s =>
  @sLd 23 1 22 false s <| .mk fun s =>
  @sIf (s.τ 23) ⟨Φ .normal s⟩ ⟨W22_k6 Φ s⟩
def W22_b8 (Φ : EP) (s : St) : Prop :=
  @sOp (some 5) (xMov (.int .i64 2) s.H) s <| .mk fun s =>
  W22_k6 Φ s
def W22_b9 (Φ : EP) (s : St) : Prop :=
  @sOp (some 25) (xBin .eql false (s.τ 13) (.int .i64 10) s.H) s <| .mk fun s =>
  @sMv 24 25 s <| .mk fun s =>
  @sIf (s.τ 24) ⟨W22_b8 Φ s⟩ ⟨W22_k6 Φ s⟩
def W22_b10 (Φ : EP) (s : St) : Prop :=
  @sOp (some 21) (xBin .eql false (s.τ 13) (.int .i64 8) s.H) s <| .mk fun s =>
  @sMv 20 21 s <| .mk fun s =>
  @sIf (s.τ 20) ⟨W22_b7 Φ s⟩ ⟨W22_b9 Φ s⟩
def W22_k11 (Φ : EP) (s : St) : Prop :=
  @sIf (s.τ 14) ⟨Φ .normal s⟩ ⟨W22_b10 Φ s⟩
def W22_b12 (Φ : EP) (s : St) : Prop :=
  @sOp (some 19) (xBin .eql false (s.τ 13) (.int .i64 7) s.H) s <| .mk fun s =>
  @sMv 14 19 s <| .mk fun s =>
  W22_k11 Φ s
def W22_b13 (Φ : EP) (s : St) : Prop :=
  @sOp (some 18) (xBin .eql false (s.τ 13) (.int .i64 11) s.H) s <| .mk fun s =>
  @sMv 14 18 s <| .mk fun s =>
  @sIf (s.τ 14) ⟨W22_k11 Φ s⟩ ⟨W22_b12 Φ s⟩
def W22_b14 (Φ : EP) (s : St) : Prop :=
  @sOp (some 17) (xBin .eql false (s.τ 13) (.int .i64 12) s.H) s <| .mk fun s =>
  @sMv 14 17 s <| .mk fun s =>
  @sIf (s.τ 14) ⟨W22_k11 Φ s⟩ ⟨W22_b13 Φ s⟩
def W22_b15 (Φ : EP) (s : St) : Prop :=
  @sOp (some 16) (xBin .eql false (s.τ 13) (.int .i64 14) s.H) s <| .mk fun s =>
  @sMv 14 16 s <| .mk fun s =>
  @sIf (s.τ 14) ⟨W22_k11 Φ s⟩ ⟨W22_b14 Φ s⟩
def W22_r16 (Φ : EP) (s : St) : Prop :=
  @sOp (some 4) (xAlloc 4 87 [.int .i64 0, .int .i64 0, .int .i64 0, .str ⟨#[]⟩, .int .i64 0, .int .i64 0, .str ⟨#[]⟩, .nils, .nils, .nils, .bool false] s.H) s <| .mk fun s =>
  @sOp none (xStore 11 (s.τ 4) (s.τ 10) s.H) s <| .mk fun s =>
  @sOp (some 5) (xMov (.int .i64 1) s.H) s <| .mk fun s =>
  @sFl 11 0 4 s <| .mk fun s =>
  @sFl 12 0 11 s <| .mk fun s =>
  @sLd 13 1 12 false s <| .mk fun s =>
  @sOp (some 15) (xBin .eql false (s.τ 13) (.int .i64 0) s.H) s <| .mk fun s =>
  @sMv 14 15 s <| .mk fun s =>
  @sIf (s.τ 14) ⟨W22_k11 Φ s⟩ ⟨W22_b15 Φ s⟩
def W22_s19 (Φ : EP) (J0 : Nat → SP) (s : St) : Prop :=
  @sOp (some 3) (xAlloc 3 50 [.nils] s.H) s <| .mk fun s =>
  @sLd 7 9 1 true s <| .mk fun s =>
  @sCall Try.prog (.func 19 []) [(s.τ 7)] (some 8) s <| .mk fun s =>
  @sCall Try.prog (.func 46 []) [(s.τ 8)] (some 9) s <| .mk fun s =>
  @sRange Try.prog (s.τ 9) [10] s ⟨fun Φ s => W22_r16 Φ s⟩ ⟨(blkK 0 (thenK (W22_k2 Φ J0) (gotoK J0 Φ)))⟩
def W22_k21 (Φ : EP) (J0 : Nat → SP) (s : St) : Prop :=
  @sLd 42 1 3 false s <| .mk fun s =>
  @sCall Try.prog (.func 47 []) [(s.τ 42)] (some 43) s <| .mk fun s =>
  @sMv 2 43 s <| .mk fun s =>
  Φ .ret s
def W22_b23 (Φ : EP) (L0 : SP) (s : St) : Prop :=
  @sMv 29 27 s <| .mk fun s =>
  @sMv 6 29 s <| .mk fun s =>
  @sLd 30 1 3 false s <| .mk fun u1 =>
  @sFl 31 0 4 u1 <| .mk fun u2 =>
  @sFl 32 0 31 u2 <| .mk fun u3 =>
  @sLd 33 1 32 false u3 <| .mk fun u4 =>
  @sFl 34 9 4 u4 <| .mk fun u5 =>
  @sLd 35 1 34 false u5 <| .mk fun u6 =>
  @sChk (compat (occ (s.τ 3), []) (cfp 36 20 [(u6.τ 35)])) <| .mk <|
  @sChk (compat (occ (u1.τ 4), []) (cfp 36 20 [(u6.τ 35)])) <| .mk <|
  @sChk (compat (occ (u2.τ 31), []) (cfp 36 20 [(u6.τ 35)])) <| .mk <|
  @sChk (compat (occ (u3.τ 32), []) (cfp 36 20 [(u6.τ 35)])) <| .mk <|
  @sCall0 Try.prog (.func 20 []) [(u6.τ 35)] (some 36) u6 <| .mk fun u7 =>
  @sMv 37 6 u7 <| .mk fun u8 =>
  @sOp (some 38) (xBuild [.int .i64 0, .nils, .int .i64 0] [(0, 1, (u8.τ 33)), (1, 1, (u8.τ 36)), (2, 1, (u8.τ 37))] u8.H) u8 <| .mk fun u9 =>
  @sChk (compat (occ (s.τ 3), []) ([39] ++ occL [(u9.τ 38)], [39] ++ occL [(u9.τ 38)])) <| .mk <|
  @sOp (some 39) (xLit 3 1 [.int .i64 0, .nils, .int .i64 0] [(0, (u9.τ 38))] u9.H) u9 <| .mk fun u10 =>
  @sOp (some 40) (xApp Try.prog 53 3 40 (some 40) (u10.τ 30) (u10.τ 39) u10.H) u10 <| .mk fun u11 =>
  @sOp none (xStore 1 (u11.τ 3) (u11.τ 40) u11.H) u11 <| .mk fun s =>
  @sOp (some 41) (xBin .add false (s.τ 27) (.int .i64 1) s.H) s <| .mk fun s =>
  @sMv 27 41 s <| .mk fun s =>
  L0 s
def W22_l24 (Φ : EP) (L0 : SP) (s : St) : Prop :=
  @sOp (some 28) (xBin .lss false (s.τ 27) (s.τ 26) s.H) s <| .mk fun s =>
  @sIf (s.τ 28) ⟨W22_b23 Φ L0 s⟩ ⟨Φ .normal s⟩
def W22_k25 (Φ : EP) (s : St) : Prop :=
  @sMv 26 5 s <| .mk fun s =>
  @sOp (some 27) (xMov (.int .i64 0) s.H) s <| .mk fun s =>
  @sLoop s ⟨fun L0 s => W22_l24 Φ L0 s⟩
def W22_b26 (Φ : EP) (s : St) : Prop :=
  @sFl 22 10 4 s <| .mk fun s =>
  @sLd 23 1 22 false s <| .mk fun s =>
  @sIf (s.τ 23) ⟨Φ .normal s⟩ ⟨W22_k25 Φ s⟩
def W22_b27 (Φ : EP) (s : St) : Prop :=
  @sOp (some 5) (xMov (.int .i64 2) s.H) s <| .mk fun s =>
  W22_k25 Φ s
def W22_b28 (Φ : EP) (s : St) : Prop :=
  @sOp (some 25) (xBin .eql false (s.τ 13) (.int .i64 10) s.H) s <| .mk fun s =>
  @sMv 24 25 s <| .mk fun s =>
  @sIf (s.τ 24) ⟨W22_b27 Φ s⟩ ⟨W22_k25 Φ s⟩
def W22_b29 (Φ : EP) (s : St) : Prop :=
  @sOp (some 21) (xBin .eql false (s.τ 13) (.int .i64 8) s.H) s <| .mk fun s =>
  @sMv 20 21 s <| .mk fun s =>
  @sIf (s.τ 20) ⟨W22_b26 Φ s⟩ ⟨W22_b28 Φ s⟩
def W22_k30 (Φ : EP) (s : St) : Prop :=
  @sIf (s.τ 14) ⟨Φ .normal s⟩ ⟨W22_b29 Φ s⟩
def W22_b31 (Φ : EP) (s : St) : Prop :=
  @sOp (some 19) (xBin .eql false (s.τ 13) (.int .i64 7) s.H) s <| .mk fun s =>
  @sMv 14 19 s <| .mk fun s =>
  W22_k30 Φ s
def W22_b32 (Φ : EP) (s : St) : Prop :=
  @sOp (some 18) (xBin .eql false (s.τ 13) (.int .i64 11) s.H) s <| .mk fun s =>
  @sMv 14 18 s <| .mk fun s =>
  @sIf (s.τ 14) ⟨W22_k30 Φ s⟩ ⟨W22_b31 Φ s⟩
def W22_b33 (Φ : EP) (s : St) : Prop :=
  @sOp (some 17) (xBin .eql false (s.τ 13) (.int .i64 12) s.H) s <| .mk fun s =>
  @sMv 14 17 s <| .mk fun s =>
  @sIf (s.τ 14) ⟨W22_k30 Φ s⟩ ⟨W22_b32 Φ s⟩
def W22_b34 (Φ : EP) (s : St) : Prop :=
  @sOp (some 16) (xBin .eql false (s.τ 13) (.int .i64 14) s.H) s <| .mk fun s =>
  @sMv 14 16 s <| .mk fun s =>
  @sIf (s.τ 14) ⟨W22_k30 Φ s⟩ ⟨W22_b33 Φ s⟩
def W22_r35 (Φ : EP) (s : St) : Prop :=
  @sOp (some 4) (xAlloc 4 87 [.int .i64 0, .int .i64 0, .int .i64 0, .str ⟨#[]⟩, .int .i64 0, .int .i64 0, .str ⟨#[]⟩, .nils, .nils, .nils, .bool false] s.H) s <| .mk fun s =>
  @sOp none (xStore 11 (s.τ 4) (s.τ 10) s.H) s <| .mk fun s =>
  @sOp (some 5) (xMov (.int .i64 1) s.H) s <| .mk fun s =>
  @sFl 11 0 4 s <| .mk fun s =>
  @sFl 12 0 11 s <| .mk fun s =>
  @sLd 13 1 12 false s <| .mk fun s =>
  @sOp (some 15) (xBin .eql false (s.τ 13) (.int .i64 0) s.H) s <| .mk fun s =>
  @sMv 14 15 s <| .mk fun s =>
  @sIf (s.τ 14) ⟨W22_k30 Φ s⟩ ⟨W22_b34 Φ s⟩
def W22_g38 (Φ : EP) (J0 : Nat → SP) (s : St) : Prop :=
  @sLd 7 9 1 true s <| .mk fun s =>
  @sCall Try.prog (.func 19 []) [(s.τ 7)] (some 8) s <| .mk fun s =>
  @sCall Try.prog (.func 46 []) [(s.τ 8)] (some 9) s <| .mk fun s =>
  @sRange Try.prog (s.τ 9) [10] s ⟨fun Φ s => W22_r35 Φ s⟩ ⟨(blkK 0 (thenK (W22_k21 Φ J0) (gotoK J0 Φ)))⟩
def W22 (Φ : EP) (s : St) : Prop :=
  @sOp (some 1) (xBox 1 29 (s.τ 0) s.H) s <| .mk fun s =>
  @sOp (some 2) (xMov (.nils) s.H) s <| .mk fun s =>
  @sScope s ⟨fun J0 s => W22_s19 Φ J0 s⟩ ⟨[(0, fun J0 s => W22_g38 Φ J0 s)]⟩
theorem W22_rs (τ : Nat → AV) (H : Heap) : resV Try.prog τ H [.tmp 2] = some (τ 2) := by kernel_rfl
theorem W22_eq (Φ : EP) (s : St) : awp Try.prog (Try.f22.body.getD .skip) Φ s = W22 Φ s := by kernel_rfl
theorem W22_S {args : List AV} {r : AV} (hl : args.length ≤ 44) (h : ∀ vs, W22 (retK Try.prog [.tmp 2] r) ⟨Am.look (argT 0 args), hls [] vs, noG⟩) : Am.Spec Try.prog 22 args r := .of_W (W := W22) Try.func22 (by kernel_rfl) (by kernel_rfl) (by kernel_rfl) Try.ntmps22 W22_eq (by kernel_rfl) hl h

end Go.Proofs.Ytnngddgaobhkiaa
set_option linter.unusedVariables false
set_option maxRecDepth 100000
namespace Go.Proofs.Ytnngddgaobhkiaa
open Go Go.Am
-- 23 "penance/run.own"

def W23 (Φ : EP) (s : St) : Prop :=
  @sOp (some 1) (xBox 1 36 (s.τ 0) s.H) s <| .mk fun s =>
  @sOp (some 2) (xAlloc 2 36 [.int .i64 0, .int .i64 0, .int .i64 0, .str ⟨#[]⟩, .int .i64 0, .int .i64 0, .str ⟨#[]⟩, .nils, .nils, .nils, .nils, .int .i64 0, .int .i64 0] s.H) s <| .mk fun s =>
  @sFl 3 0 1 s <| .mk fun u1 =>
  @sLd 4 9 3 true u1 <| .mk fun u2 =>
  @sCall0 Try.prog (.func 19 []) [(u2.τ 4)] (some 5) u2 <| .mk fun u3 =>
  @sChk (compat (cfp 5 19 [(u2.τ 4)]) (occ (u3.τ 1), [])) <| .mk <|
  @sFl 6 9 1 u3 <| .mk fun u4 =>
  @sChk (compat (cfp 5 19 [(u2.τ 4)]) (occ (u4.τ 6), [])) <| .mk <|
  @sLd 7 1 6 false u4 <| .mk fun u5 =>
  @sCall0 Try.prog (.func 20 []) [(u5.τ 7)] (some 8) u5 <| .mk fun u6 =>
  @sChk (compat (cfp 5 19 [(u2.τ 4)]) (occ (u6.τ 1), [])) <| .mk <|
  @sChk (compat (cfp 8 20 [(u5.τ 7)]) (occ (u6.τ 1), [])) <| .mk <|
  @sFl 9 10 1 u6 <| .mk fun u7 =>
  @sChk (compat (cfp 5 19 [(u2.τ 4)]) (occ (u7.τ 9), [])) <| .mk <|
  @sChk (compat (cfp 8 20 [(u5.τ 7)]) (occ (u7.τ 9), [])) <| .mk <|
  @sLd 10 1 9 false u7 <| .mk fun u8 =>
  @sCall0 Try.prog (.func 21 []) [(u8.τ 10), (.int .i64 0), (.int .i64 0)] (some 11) u8 <| .mk fun u9 =>
  @sChk (compat (cfp 8 20 [(u5.τ 7)]) (occ (u9.τ 1), [])) <| .mk <|
  @sChk (compat (cfp 11 21 [(u8.τ 10), (.int .i64 0), (.int .i64 0)]) (occ (u9.τ 1), [])) <| .mk <|
  @sFl 12 0 1 u9 <| .mk fun u10 =>
  @sOp none (xStore 9 (u10.τ 12) (u10.τ 5) u10.H) u10 <| .mk fun u11 =>
  @sFl 13 9 1 u11 <| .mk fun u12 =>
  @sOp none (xStore 1 (u12.τ 13) (u12.τ 8) u12.H) u12 <| .mk fun u13 =>
  @sFl 14 10 1 u13 <| .mk fun u14 =>
  @sOp none (xStore 1 (u14.τ 14) (u14.τ 11) u14.H) u14 <| .mk fun s =>
  @sLd 15 13 1 true s <| .mk fun s =>
  @sOp none (xStore 13 (s.τ 2) (s.τ 15) s.H) s <| .mk fun s =>
  Φ .ret s
theorem W23_rs (τ : Nat → AV) (H : Heap) : resV Try.prog τ H [.cell 2 36] = rdV H 13 true (τ 2) := by kernel_rfl
theorem W23_eq (Φ : EP) (s : St) : awp Try.prog (Try.f23.body.getD .skip) Φ s = W23 Φ s := by kernel_rfl
theorem W23_S {args : List AV} {r : AV} (hl : args.length ≤ 16) (h : ∀ vs, W23 (retK Try.prog [.cell 2 36] r) ⟨Am.look (argT 0 args), hls [] vs, noG⟩) : Am.Spec Try.prog 23 args r := .of_W (W := W23) Try.func23 (by kernel_rfl) (by kernel_rfl) (by kernel_rfl) Try.ntmps23 W23_eq (by kernel_rfl) hl h

-- 24 "penance/run.at"
def W24_k1 (Φ : EP) (s : St) : Prop :=
  @sLd 19 9 2 true s <| .mk fun s =>
  @sOp none (xStore 9 (s.τ 4) (s.τ 19) s.H) s <| .mk fun s =>
  Φ .ret s
def W24_b2 (Φ : EP) (L0 : SP) (s : St) : Prop :=
  @sOp (some 11) (xIx 1 (s.τ 7) (s.τ 9) s.H) s <| .mk fun s =>
  @sLd 12 1 11 false s <| .mk fun s =>
  @sMv 6 12 s <| .mk fun s =>
  @sFl 13 8 2 s <| .mk fun s =>
  @sLd 14 1 13 false s <| .mk fun s =>
  @sMv 15 6 s <| .mk fun s =>
  @sOp (some 16) (xIx 9 (s.τ 14) (s.τ 15) s.H) s <| .mk fun s =>
  @sLd 17 9 16 true s <| .mk fun s =>
  @sOp none (xStore 9 (s.τ 2) (s.τ 17) s.H) s <| .mk fun s =>
  @sOp (some 18) (xBin .add false (s.τ 9) (.int .i64 1) s.H) s <| .mk fun s =>
  @sMv 9 18 s <| .mk fun s =>
  L0 s
def W24_l3 (Φ : EP) (L0 : SP) (s : St) : Prop :=
  @sOp (some 10) (xBin .lss false (s.τ 9) (s.τ 8) s.H) s <| .mk fun s =>
  @sIf (s.τ 10) ⟨W24_b2 Φ L0 s⟩ ⟨W24_k1 Φ s⟩
def W24 (Φ : EP) (s : St) : Prop :=
  @sOp (some 2) (xBox 2 29 (s.τ 0) s.H) s <| .mk fun s =>
  @sOp (some 4) (xAlloc 4 29 [.int .i64 0, .int .i64 0, .int .i64 0, .str ⟨#[]⟩, .int .i64 0, .int .i64 0, .str ⟨#[]⟩, .nils, .nils] s.H) s <| .mk fun s =>
  @sMv 7 1 s <| .mk fun s =>
  @sOp (some 8) (xLen (s.τ 7) s.H) s <| .mk fun s =>
  @sOp (some 9) (xMov (.int .i64 0) s.H) s <| .mk fun s =>
  @sLoop s ⟨fun L0 s => W24_l3 Φ L0 s⟩
theorem W24_rs (τ : Nat → AV) (H : Heap) : resV Try.prog τ H [.cell 4 29] = rdV H 9 true (τ 4) := by kernel_rfl
theorem W24_eq (Φ : EP) (s : St) : awp Try.prog (Try.f24.body.getD .skip) Φ s = W24 Φ s := by kernel_rfl
theorem W24_S {args : List AV} {r : AV} (hl : args.length ≤ 20) (h : ∀ vs, W24 (retK Try.prog [.cell 4 29] r) ⟨Am.look (argT 0 args), hls [] vs, noG⟩) : Am.Spec Try.prog 24 args r := .of_W (W := W24) Try.func24 (by kernel_rfl) (by kernel_rfl) (by kernel_rfl) Try.ntmps24 W24_eq (by kernel_rfl) hl h

-- 25 "penance/expr.Eval"
def W25_b1 (Φ : EP) (s : St) : Prop :=
  @sFl 12 1 2 s <| .mk fun s =>
  @sLd 13 1 12 false s <| .mk fun s =>
  @sMv 4 13 s <| .mk fun s =>
  @sOp (some 5) (xMov (.int .i64 0) s.H) s <| .mk fun s =>
  Φ .ret s
def W25_b2 (Φ : EP) (s : St) : Prop :=
  @sOp (some 4) (xMov (.int .i64 0) s.H) s <| .mk fun s =>
  @sOp (some 5) (xMov (.int .i64 0) s.H) s <| .mk fun s =>
  Φ .ret s
def W25_b3 (Φ : EP) (s : St) : Prop :=
  @sMv 27 1 s <| .mk fun s =>
  @sFl 28 1 2 s <| .mk fun s =>
  @sLd 29 1 28 false s <| .mk fun s =>
  @sOp (some 30) (xIx 1 (s.τ 27) (s.τ 29) s.H) s <| .mk fun s =>
  @sLd 31 1 30 false s <| .mk fun s =>
  @sMv 4 31 s <| .mk fun s =>
  @sOp (some 5) (xMov (.int .i64 0) s.H) s <| .mk fun s =>
  Φ .ret s
def W25_b9 (Φ : EP) (s : St) : Prop :=
  @sFl 17 1 2 s <| .mk fun s =>
  @sLd 18 1 17 false s <| .mk fun s =>
  @sOp (some 19) (xBin .lss false (s.τ 18) (.int .i64 0) s.H) s <| .mk fun s =>
  @sMv 20 19 s <| .mk fun s =>
  @sGf 21 1 2 20 false s <| .mk fun s =>
  @sGl 22 1 21 20 false false s <| .mk fun s =>
  @sGm 23 1 20 false s <| .mk fun s =>
  @sGo 24 20 false s (fun s => (xLen (s.τ 23) s.H)) <| .mk fun s =>
  @sGo 25 20 false s (fun s => (xBin .geq false (s.τ 22) (s.τ 24) s.H)) <| .mk fun s =>
  @sOp (some 26) (xPick (s.τ 20) (.bool true) (s.τ 25) s.H) s <| .mk fun s =>
  @sIf (s.τ 26) ⟨W25_b2 Φ s⟩ ⟨W25_b3 Φ s⟩
def W25_b10 (Φ : EP) (s : St) : Prop :=
  @sOp (some 4) (xMov (.int .i64 0) s.H) s <| .mk fun s =>
  @sOp (some 5) (xMov (.int .i64 0) s.H) s <| .mk fun s =>
  Φ .ret s
def W25_b11 (Φ : EP) (s : St) : Prop :=
  @sMv 48 7 s <| .mk fun s =>
  @sOp (some 4) (xMov (.int .i64 0) s.H) s <| .mk fun s =>
  @sMv 5 48 s <| .mk fun s =>
  Φ .ret s
def W25_b13 (Φ : EP) (s : St) : Prop :=
  @sMv 53 6 s <| .mk fun s =>
  @sOp (some 54) (xBin .eql false (s.τ 53) (.int .i64 0) s.H) s <| .mk fun s =>
  @sCall Try.prog (.func 48 []) [(s.τ 54)] (some 55) s <| .mk fun s =>
  @sMv 4 55 s <| .mk fun s =>
  @sOp (some 5) (xMov (.int .i64 0) s.H) s <| .mk fun s =>
  Φ .ret s
def W25_b15 (Φ : EP) (s : St) : Prop :=
  @sMv 60 6 s <| .mk fun s =>
  @sCall Try.prog (.func 49 []) [(s.τ 60), (.int .i64 (-1))] (some 61) s <| .mk fun s =>
  @sOp (some 62) (xExt (s.τ 61) 0 s.H) s <| .mk fun s =>
  @sOp (some 63) (xExt (s.τ 61) 1 s.H) s <| .mk fun s =>
  @sMv 4 62 s <| .mk fun s =>
  @sMv 5 63 s <| .mk fun s =>
  Φ .ret s
def W25_b16 (Φ : EP) (s : St) : Prop :=
  @sOp (some 4) (xMov (.int .i64 0) s.H) s <| .mk fun s =>
  @sOp (some 5) (xMov (.int .i64 0) s.H) s <| .mk fun s =>
  Φ .ret s
def W25_b17 (Φ : EP) (s : St) : Prop :=
  @sOp (some 4) (xMov (.int .i64 1) s.H) s <| .mk fun s =>
  @sOp (some 5) (xMov (.int .i64 0) s.H) s <| .mk fun s =>
  Φ .ret s
def W25_b18 (Φ : EP) (s : St) : Prop :=
  @sOp (some 4) (xMov (.int .i64 0) s.H) s <| .mk fun s =>
  @sOp (some 5) (xMov (.int .i64 0) s.H) s <| .mk fun s =>
  Φ .ret s
def W25_b19 (Φ : EP) (s : St) : Prop :=
  @sMv 97 7 s <| .mk fun s =>
  @sOp (some 4) (xMov (.int .i64 0) s.H) s <| .mk fun s =>
  @sMv 5 97 s <| .mk fun s =>
  Φ .ret s
def W25_b21 (Φ : EP) (s : St) : Prop :=
  @sMv 107 8 s <| .mk fun s =>
  @sOp (some 108) (xBin .neq false (s.τ 107) (.int .i64 0) s.H) s <| .mk fun s =>
  @sCall Try.prog (.func 48 []) [(s.τ 108)] (some 109) s <| .mk fun s =>
  @sMv 4 109 s <| .mk fun s =>
  @sOp (some 5) (xMov (.int .i64 0) s.H) s <| .mk fun s =>
  Φ .ret s
def W25_b23 (Φ : EP) (s : St) : Prop :=
  @sFl 110 0 2 s <| .mk fun s =>
  @sLd 111 1 110 false s <| .mk fun s =>
  @sMv 112 6 s <| .mk fun s =>
  @sMv 113 8 s <| .mk fun s =>
  @sCall Try.prog (.func 50 []) [(s.τ 111), (s.τ 112), (s.τ 113)] (some 114) s <| .mk fun s =>
  @sOp (some 115) (xExt (s.τ 114) 0 s.H) s <| .mk fun s =>
  @sOp (some 116) (xExt (s.τ 114) 1 s.H) s <| .mk fun s =>
  @sMv 4 115 s <| .mk fun s =>
  @sMv 5 116 s <| .mk fun s =>
  Φ .ret s
def W25_b27 (Φ : EP) (s : St) : Prop :=
  @sFl 99 0 2 s <| .mk fun s =>
  @sLd 100 1 99 false s <| .mk fun s =>
  @sOp (some 101) (xBin .eql false (s.τ 100) (.int .i64 16) s.H) s <| .mk fun s =>
  @sMv 102 101 s <| .mk fun s =>
  @sGf 103 0 2 102 false s <| .mk fun s =>
  @sGl 104 1 103 102 false false s <| .mk fun s =>
  @sGo 105 102 false s (fun s => (xBin .eql false (s.τ 104) (.int .i64 17) s.H)) <| .mk fun s =>
  @sOp (some 106) (xPick (s.τ 102) (.bool true) (s.τ 105) s.H) s <| .mk fun s =>
  @sMv 98 106 s <| .mk fun s =>
  @sIf (s.τ 98) ⟨W25_b21 Φ s⟩ ⟨W25_b23 Φ s⟩
def W25_b29 (Φ : EP) (s : St) : Prop :=
  @sFl 86 3 2 s <| .mk fun s =>
  @sLd 87 1 86 false s <| .mk fun s =>
  @sOp (some 88) (xIx 4 (s.τ 87) (.int .i64 1) s.H) s <| .mk fun s =>
  @sLd 89 4 88 true s <| .mk fun s =>
  @sMv 90 1 s <| .mk fun s =>
  @sCall Try.prog (.func 25 []) [(s.τ 89), (s.τ 90)] (some 91) s <| .mk fun s =>
  @sMv 85 91 s <| .mk fun s =>
  @sOp (some 92) (xExt (s.τ 85) 0 s.H) s <| .mk fun s =>
  @sOp (some 93) (xExt (s.τ 85) 1 s.H) s <| .mk fun s =>
  @sMv 8 92 s <| .mk fun s =>
  @sMv 7 93 s <| .mk fun s =>
  @sMv 95 7 s <| .mk fun s =>
  @sOp (some 96) (xBin .neq false (s.τ 95) (.int .i64 0) s.H) s <| .mk fun s =>
  @sMv 94 96 s <| .mk fun s =>
  @sIf (s.τ 94) ⟨W25_b19 Φ s⟩ ⟨W25_b27 Φ s⟩
def W25_b30 (Φ : EP) (s : St) : Prop :=
  @sFl 81 3 2 s <| .mk fun s =>
  @sLd 82 1 81 false s <| .mk fun s =>
  @sOp (some 83) (xLen (s.τ 82) s.H) s <| .mk fun s =>
  @sOp (some 84) (xBin .eql false (s.τ 83) (.int .i64 1) s.H) s <| .mk fun s =>
  @sMv 80 84 s <| .mk fun s =>
  @sIf (s.τ 80) ⟨W25_b18 Φ s⟩ ⟨W25_b29 Φ s⟩
def W25_b33 (Φ : EP) (s : St) : Prop :=
  @sFl 73 0 2 s <| .mk fun s =>
  @sLd 74 1 73 false s <| .mk fun s =>
  @sOp (some 75) (xBin .eql false (s.τ 74) (.int .i64 17) s.H) s <| .mk fun s =>
  @sMv 76 75 s <| .mk fun s =>
  @sGm 77 6 76 true s <| .mk fun s =>
  @sGo 78 76 true s (fun s => (xBin .neq false (s.τ 77) (.int .i64 0) s.H)) <| .mk fun s =>
  @sOp (some 79) (xPick (s.τ 76) (s.τ 78) (.bool false) s.H) s <| .mk fun s =>
  @sMv 72 79 s <| .mk fun s =>
  @sIf (s.τ 72) ⟨W25_b17 Φ s⟩ ⟨W25_b30 Φ s⟩
def W25_b36 (Φ : EP) (s : St) : Prop :=
  @sFl 65 0 2 s <| .mk fun s =>
  @sLd 66 1 65 false s <| .mk fun s =>
  @sOp (some 67) (xBin .eql false (s.τ 66) (.int .i64 16) s.H) s <| .mk fun s =>
  @sMv 68 67 s <| .mk fun s =>
  @sGm 69 6 68 true s <| .mk fun s =>
  @sGo 70 68 true s (fun s => (xBin .eql false (s.τ 69) (.int .i64 0) s.H)) <| .mk fun s =>
  @sOp (some 71) (xPick (s.τ 68) (s.τ 70) (.bool false) s.H) s <| .mk fun s =>
  @sMv 64 71 s <| .mk fun s =>
  @sIf (s.τ 64) ⟨W25_b16 Φ s⟩ ⟨W25_b33 Φ s⟩
def W25_b37 (Φ : EP) (s : St) : Prop :=
  @sFl 57 0 2 s <| .mk fun s =>
  @sLd 58 1 57 false s <| .mk fun s =>
  @sOp (some 59) (xBin .eql false (s.τ 58) (.int .i64 4) s.H) s <| .mk fun s =>
  @sMv 56 59 s <| .mk fun s =>
  @sIf (s.τ 56) ⟨W25_b15 Φ s⟩ ⟨W25_b36 Φ s⟩
def W25_b38 (Φ : EP) (s : St) : Prop :=
  @sFl 50 0 2 s <| .mk fun s =>
  @sLd 51 1 50 false s <| .mk fun s =>
  @sOp (some 52) (xBin .eql false (s.τ 51) (.int .i64 3) s.H) s <| .mk fun s =>
  @sMv 49 52 s <| .mk fun s =>
  @sIf (s.τ 49) ⟨W25_b13 Φ s⟩ ⟨W25_b37 Φ s⟩
def W25_b40 (Φ : EP) (s : St) : Prop :=
  @sFl 37 3 2 s <| .mk fun s =>
  @sLd 38 1 37 false s <| .mk fun s =>
  @sOp (some 39) (xIx 4 (s.τ 38) (.int .i64 0) s.H) s <| .mk fun s =>
  @sLd 40 4 39 true s <| .mk fun s =>
  @sMv 41 1 s <| .mk fun s =>
  @sCall Try.prog (.func 25 []) [(s.τ 40), (s.τ 41)] (some 42) s <| .mk fun s =>
  @sMv 36 42 s <| .mk fun s =>
  @sOp (some 43) (xExt (s.τ 36) 0 s.H) s <| .mk fun s =>
  @sOp (some 44) (xExt (s.τ 36) 1 s.H) s <| .mk fun s =>
  @sMv 6 43 s <| .mk fun s =>
  @sMv 7 44 s <| .mk fun s =>
  @sMv 46 7 s <| .mk fun s =>
  @sOp (some 47) (xBin .neq false (s.τ 46) (.int .i64 0) s.H) s <| .mk fun s =>
  @sMv 45 47 s <| .mk fun s =>
  @sIf (s.τ 45) ⟨W25_b11 Φ s⟩ ⟨W25_b38 Φ s⟩
def W25_b41 (Φ : EP) (s : St) : Prop :=
  @sFl 32 3 2 s <| .mk fun s =>
  @sLd 33 1 32 false s <| .mk fun s =>
  @sOp (some 34) (xLen (s.τ 33) s.H) s <| .mk fun s =>
  @sOp (some 35) (xBin .eql false (s.τ 34) (.int .i64 0) s.H) s <| .mk fun s =>
  @sIf (s.τ 35) ⟨W25_b10 Φ s⟩ ⟨W25_b40 Φ s⟩
def W25_b42 (Φ : EP) (s : St) : Prop :=
  @sFl 14 0 2 s <| .mk fun s =>
  @sLd 15 1 14 false s <| .mk fun s =>
  @sOp (some 16) (xBin .eql false (s.τ 15) (.int .i64 2) s.H) s <| .mk fun s =>
  @sIf (s.τ 16) ⟨W25_b9 Φ s⟩ ⟨W25_b41 Φ s⟩
def W25 (Φ : EP) (s : St) : Prop :=
  @sOp (some 2) (xBox 2 27 (s.τ 0) s.H) s <| .mk fun s =>
  @sOp (some 4) (xMov (.int .i64 0) s.H) s <| .mk fun s =>
  @sOp (some 5) (xMov (.int .i64 0) s.H) s <| .mk fun s =>
  @sFl 9 0 2 s <| .mk fun s =>
  @sLd 10 1 9 false s <| .mk fun s =>
  @sOp (some 11) (xBin .eql false (s.τ 10) (.int .i64 1) s.H) s <| .mk fun s =>
  @sIf (s.τ 11) ⟨W25_b1 Φ s⟩ ⟨W25_b42 Φ s⟩
theorem W25_rs (τ : Nat → AV) (H : Heap) : resV Try.prog τ H [.tmp 4, .tmp 5] = ob (ob (some (τ 4)) fun v => ob (ob (some (τ 5)) fun v => ob (some []) fun vs => some (v :: vs)) fun vs => some (v :: vs)) fun vs => some (.tup vs) := by kernel_rfl
theorem W25_eq (Φ : EP) (s : St) : awp Try.prog (Try.f25.body.getD .skip) Φ s = W25 Φ s := by kernel_rfl
theorem W25_S {args : List AV} {r : AV} (hl : args.length ≤ 117) (h : ∀ vs, W25 (retK Try.prog [.tmp 4, .tmp 5] r) ⟨Am.look (argT 0 args), hls [] vs, noG⟩) : Am.Spec Try.prog 25 args r := .of_W (W := W25) Try.func25 (by kernel_rfl) (by kernel_rfl) (by kernel_rfl) Try.ntmps25 W25_eq (by kernel_rfl) hl h

-- 26 "penance/stacks.Push"
def W26_k1 (Φ : EP) (s : St) : Prop :=
  @sMv 24 7 s <| .mk fun s =>
  @sMv 6 24 s <| .mk fun s =>
  Φ .ret s
def W26_b3 (Φ : EP) (s : St) : Prop :=
  @sMv 13 7 s <| .mk fun u1 =>
  @sMv 14 1 u1 <| .mk fun u2 =>
  @sOp (some 15) (xIx 1 (u2.τ 13) (u2.τ 14) u2.H) u2 <| .mk fun u3 =>
  @sLd 16 1 15 false u3 <| .mk fun u4 =>
  @sLd 17 9 5 true u4 <| .mk fun u5 =>
  @sChk (compat (occ (u2.τ 13), []) (cfp 18 51 [(u5.τ 17)])) <| .mk <|
  @sChk (compat (occ (u3.τ 15), []) (cfp 18 51 [(u5.τ 17)])) <| .mk <|
  @sCall0 Try.prog (.func 51 []) [(u5.τ 17)] (some 18) u5 <| .mk fun u6 =>
  @sChk (compat (cfp 18 51 [(u5.τ 17)]) (occ (u6.τ 16), [])) <| .mk <|
  @sOp (some 19) (xLen (u6.τ 16) u6.H) u6 <| .mk fun u7 =>
  @sChk (compat (occ (u2.τ 13), []) ([20] ++ occL [(.agg [.int .i64 0, .int .i64 0, .int .i64 0, .str ⟨#[]⟩, .int .i64 0, .int .i64 0, .str ⟨#[]⟩, .nils, .nils])], [20] ++ occL [(.agg [.int .i64 0, .int .i64 0, .int .i64 0, .str ⟨#[]⟩, .int .i64 0, .int .i64 0, .str ⟨#[]⟩, .nils, .nils])])) <| .mk <|
  @sChk (compat (occ (u3.τ 15), []) ([20] ++ occL [(.agg [.int .i64 0, .int .i64 0, .int .i64 0, .str ⟨#[]⟩, .int .i64 0, .int .i64 0, .str ⟨#[]⟩, .nils, .nils])], [20] ++ occL [(.agg [.int .i64 0, .int .i64 0, .int .i64 0, .str ⟨#[]⟩, .int .i64 0, .int .i64 0, .str ⟨#[]⟩, .nils, .nils])])) <| .mk <|
  @sChk (compat (occ (u4.τ 5), []) ([20] ++ occL [(.agg [.int .i64 0, .int .i64 0, .int .i64 0, .str ⟨#[]⟩, .int .i64 0, .int .i64 0, .str ⟨#[]⟩, .nils, .nils])], [20] ++ occL [(.agg [.int .i64 0, .int .i64 0, .int .i64 0, .str ⟨#[]⟩, .int .i64 0, .int .i64 0, .str ⟨#[]⟩, .nils, .nils])])) <| .mk <|
  @sChk (compat (cfp 18 51 [(u5.τ 17)]) ([20] ++ occL [(.agg [.int .i64 0, .int .i64 0, .int .i64 0, .str ⟨#[]⟩, .int .i64 0, .int .i64 0, .str ⟨#[]⟩, .nils, .nils])], [20] ++ occL [(.agg [.int .i64 0, .int .i64 0, .int .i64 0, .str ⟨#[]⟩, .int .i64 0, .int .i64 0, .str ⟨#[]⟩, .nils, .nils])])) <| .mk <|
  @sChk (compat (occ (u6.τ 16), []) ([20] ++ occL [(.agg [.int .i64 0, .int .i64 0, .int .i64 0, .str ⟨#[]⟩, .int .i64 0, .int .i64 0, .str ⟨#[]⟩, .nils, .nils])], [20] ++ occL [(.agg [.int .i64 0, .int .i64 0, .int .i64 0, .str ⟨#[]⟩, .int .i64 0, .int .i64 0, .str ⟨#[]⟩, .nils, .nils])])) <| .mk <|
  @sOp (some 20) (xLit 9 1 [.int .i64 0, .int .i64 0, .int .i64 0, .str ⟨#[]⟩, .int .i64 0, .int .i64 0, .str ⟨#[]⟩, .nils, .nils] [(0, (.agg [.int .i64 0, .int .i64 0, .int .i64 0, .str ⟨#[]⟩, .int .i64 0, .int .i64 0, .str ⟨#[]⟩, .nils, .nils]))] u7.H) u7 <| .mk fun u8 =>
  @sOp (some 21) (xApp Try.prog 29 9 120 (some 21) (u8.τ 16) (u8.τ 20) u8.H) u8 <| .mk fun u9 =>
  @sOp (some 22) (xIx 9 (u9.τ 21) (u9.τ 19) u9.H) u9 <| .mk fun u10 =>
  @sOp none (xStore 9 (u10.τ 22) (u10.τ 18) u10.H) u10 <| .mk fun u11 =>
  @sChk (compat (occ (u10.τ 22), occ (u10.τ 22)) (occ (u11.τ 13), [])) <| .mk <|
  @sOp (some 23) (xIx 1 (u11.τ 13) (u11.τ 14) u11.H) u11 <| .mk fun u12 =>
  @sChk (compat (occ (u9.τ 21), []) (occ (u12.τ 23), occ (u12.τ 23))) <| .mk <|
  @sChk (compat (occ (u10.τ 22), occ (u10.τ 22)) (occ (u12.τ 23), occ (u12.τ 23))) <| .mk <|
  @sOp none (xStore 1 (u12.τ 23) (u12.τ 21) u12.H) u12 <| .mk fun s =>
  W26_k1 Φ s
def W26 (Φ : EP) (s : St) : Prop :=
  @sOp (some 5) (xBox 5 29 (s.τ 2) s.H) s <| .mk fun s =>
  @sOp (some 6) (xMov (.nils) s.H) s <| .mk fun s =>
  @sMv 8 0 s <| .mk fun s =>
  @sCall Try.prog (.func 44 []) [(s.τ 8)] (some 9) s <| .mk fun s =>
  @sMv 7 9 s <| .mk fun s =>
  @sMv 10 7 s <| .mk fun s =>
  @sMv 11 1 s <| .mk fun s =>
  @sCall Try.prog (.func 45 []) [(s.τ 10), (s.τ 11)] (some 12) s <| .mk fun s =>
  @sIf (s.τ 12) ⟨W26_b3 Φ s⟩ ⟨W26_k1 Φ s⟩
theorem W26_rs (τ : Nat → AV) (H : Heap) : resV Try.prog τ H [.tmp 6] = some (τ 6) := by kernel_rfl
theorem W26_eq (Φ : EP) (s : St) : awp Try.prog (Try.f26.body.getD .skip) Φ s = W26 Φ s := by kernel_rfl
theorem W26_S {args : List AV} {r : AV} (hl : args.length ≤ 25) (h : ∀ vs, W26 (retK Try.prog [.tmp 6] r) ⟨Am.look (argT 0 args), hls [] vs, noG⟩) : Am.Spec Try.prog 26 args r := .of_W (W := W26) Try.func26 (by kernel_rfl) (by kernel_rfl) (by kernel_rfl) Try.ntmps26 W26_eq (by kernel_rfl) hl h

-- 27 "penance/stacks.Reverse"
def W27_k2 (Φ : EP) (s : St) : Prop :=
  @sLd 32 9 6 true s <| .mk fun u1 =>
  @sMv 33 0 u1 <| .mk fun u2 =>
  @sMv 34 1 u2 <| .mk fun u3 =>
  @sChk (compat (occ (s.τ 6), []) (cfp 35 28 [(u3.τ 33), (u3.τ 34)])) <| .mk <|
  @sCall0 Try.prog (.func 28 []) [(u3.τ 33), (u3.τ 34)] (some 35) u3 <| .mk fun u4 =>
  @sOp none (xStore 9 (u4.τ 4) (u4.τ 32) u4.H) u4 <| .mk fun u5 =>
  @sMv 5 35 u5 <| .mk fun s =>
  Φ .ret s
def W27_k3 (Φ : EP) (L0 : SP) (s : St) : Prop :=
  @sOp (some 31) (xBin .add false (s.τ 17) (.int .i64 1) s.H) s <| .mk fun s =>
  @sMv 17 31 s <| .mk fun s =>
  L0 s
def W27_b5 (Φ : EP) (L0 : SP) (s : St) : Prop :=
  @sLd 24 9 8 true s <| .mk fun s =>
  @sCall Try.prog (.func 51 []) [(s.τ 24)] (some 25) s <| .mk fun s =>
  @sOp none (xStore 9 (s.τ 6) (s.τ 25) s.H) s <| .mk fun s =>
  W27_k3 Φ L0 s
def W27_b7 (Φ : EP) (L0 : SP) (s : St) : Prop :=
  @sLd 26 9 8 true s <| .mk fun u1 =>
  @sCall0 Try.prog (.func 51 []) [(u1.τ 26)] (some 27) u1 <| .mk fun u2 =>
  @sChk (compat (cfp 27 51 [(u1.τ 26)]) (occ (u2.τ 6), [])) <| .mk <|
  @sLd 28 9 6 true u2 <| .mk fun u3 =>
  @sOp (some 29) (xLit 9 2 [.int .i64 0, .int .i64 0, .int .i64 0, .str ⟨#[]⟩, .int .i64 0, .int .i64 0, .str ⟨#[]⟩, .nils, .nils] [(0, (u3.τ 27)), (1, (u3.τ 28))] u3.H) u3 <| .mk fun u4 =>
  @sOp (some 30) (xBuild [.int .i64 0, .int .i64 0, .int .i64 0, .str ⟨#[]⟩, .int .i64 0, .int .i64 0, .str ⟨#[]⟩, .nils, .nils] [(0, 1, (.int .i64 12)), (8, 1, (u4.τ 29))] u4.H) u4 <| .mk fun u5 =>
  @sOp none (xStore 9 (u5.τ 6) (u5.τ 30) u5.H) u5 <| .mk fun s =>
  W27_k3 Φ L0 s
def W27_b8 (Φ : EP) (L0 : SP) (s : St) : Prop :=
  @sMv 19 17 s <| .mk fun s =>
  @sOp (some 20) (xIx 9 (s.τ 15) (s.τ 17) s.H) s <| .mk fun s =>
  @sLd 21 9 20 true s <| .mk fun s =>
  @sOp (some 8) (xAlloc 8 29 [.int .i64 0, .int .i64 0, .int .i64 0, .str ⟨#[]⟩, .int .i64 0, .int .i64 0, .str ⟨#[]⟩, .nils, .nils] s.H) s <| .mk fun s =>
  @sMv 7 19 s <| .mk fun s =>
  @sOp none (xStore 9 (s.τ 8) (s.τ 21) s.H) s <| .mk fun s =>
  @sMv 22 7 s <| .mk fun s =>
  @sOp (some 23) (xBin .eql false (s.τ 22) (.int .i64 0) s.H) s <| .mk fun s =>
  @sIf (s.τ 23) ⟨W27_b5 Φ L0 s⟩ ⟨W27_b7 Φ L0 s⟩
def W27_l9 (Φ : EP) (L0 : SP) (s : St) : Prop :=
  @sOp (some 18) (xBin .lss false (s.τ 17) (s.τ 16) s.H) s <| .mk fun s =>
  @sIf (s.τ 18) ⟨W27_b8 Φ L0 s⟩ ⟨W27_k2 Φ s⟩
def W27_b10 (Φ : EP) (s : St) : Prop :=
  @sMv 12 0 s <| .mk fun s =>
  @sMv 13 1 s <| .mk fun s =>
  @sOp (some 14) (xIx 1 (s.τ 12) (s.τ 13) s.H) s <| .mk fun s =>
  @sLd 15 1 14 false s <| .mk fun s =>
  @sOp (some 16) (xLen (s.τ 15) s.H) s <| .mk fun s =>
  @sOp (some 17) (xMov (.int .i64 0) s.H) s <| .mk fun s =>
  @sLoop s ⟨fun L0 s => W27_l9 Φ L0 s⟩
def W27 (Φ : EP) (s : St) : Prop :=
  @sOp (some 4) (xAlloc 4 29 [.int .i64 0, .int .i64 0, .int .i64 0, .str ⟨#[]⟩, .int .i64 0, .int .i64 0, .str ⟨#[]⟩, .nils, .nils] s.H) s <| .mk fun s =>
  @sOp (some 5) (xMov (.nils) s.H) s <| .mk fun s =>
  @sOp (some 6) (xAlloc 6 29 [.int .i64 0, .int .i64 0, .int .i64 0, .str ⟨#[]⟩, .int .i64 0, .int .i64 0, .str ⟨#[]⟩, .nils, .nils] s.H) s <| .mk fun s =>
  @sMv 9 0 s <| .mk fun s =>
  @sMv 10 1 s <| .mk fun s =>
  @sCall Try.prog (.func 45 []) [(s.τ 9), (s.τ 10)] (some 11) s <| .mk fun s =>
  @sIf (s.τ 11) ⟨W27_b10 Φ s⟩ ⟨W27_k2 Φ s⟩
theorem W27_rs (τ : Nat → AV) (H : Heap) : resV Try.prog τ H [.cell 4 29, .tmp 5] = ob (ob (rdV H 9 true (τ 4)) fun v => ob (ob (some (τ 5)) fun v => ob (some []) fun vs => some (v :: vs)) fun vs => some (v :: vs)) fun vs => some (.tup vs) := by kernel_rfl
theorem W27_eq (Φ : EP) (s : St) : awp Try.prog (Try.f27.body.getD .skip) Φ s = W27 Φ s := by kernel_rfl
theorem W27_S {args : List AV} {r : AV} (hl : args.length ≤ 36) (h : ∀ vs, W27 (retK Try.prog [.cell 4 29, .tmp 5] r) ⟨Am.look (argT 0 args), hls [] vs, noG⟩) : Am.Spec Try.prog 27 args r := .of_W (W := W27) Try.func27 (by kernel_rfl) (by kernel_rfl) (by kernel_rfl) Try.ntmps27 W27_eq (by kernel_rfl) hl h

-- 28 "penance/stacks.Accept"
def W28_k1 (Φ : EP) (s : St) : Prop :=
  @sMv 14 5 s <| .mk fun s =>
  @sMv 4 14 s <| .mk fun s =>
  Φ .ret s
def W28_b2 (Φ : EP) (s : St) : Prop :=
  @sMv 11 5 s <| .mk fun s =>
  @sMv 12 1 s <| .mk fun s =>
  @sOp (some 13) (xIx 1 (s.τ 11) (s.τ 12) s.H) s <| .mk fun s =>
  @sOp none (xStore 1 (s.τ 13) (.nils) s.H) s <| .mk fun s =>
  W28_k1 Φ s
def W28 (Φ : EP) (s : St) : Prop :=
  @sOp (some 4) (xMov (.nils) s.H) s <| .mk fun s =>
  @sMv 6 0 s <| .mk fun s =>
  @sCall Try.prog (.func 44 []) [(s.τ 6)] (some 7) s <| .mk fun s =>
  @sMv 5 7 s <| .mk fun s =>
  @sMv 8 5 s <| .mk fun s =>
  @sMv 9 1 s <| .mk fun s =>
  @sCall Try.prog (.func 45 []) [(s.τ 8), (s.τ 9)] (some 10) s <| .mk fun s =>
  @sIf (s.τ 10) ⟨W28_b2 Φ s⟩ ⟨W28_k1 Φ s⟩
theorem W28_rs (τ : Nat → AV) (H : Heap) : resV Try.prog τ H [.tmp 4] = some (τ 4) := by kernel_rfl
theorem W28_eq (Φ : EP) (s : St) : awp Try.prog (Try.f28.body.getD .skip) Φ s = W28 Φ s := by kernel_rfl
theorem W28_S {args : List AV} {r : AV} (hl : args.length ≤ 15) (h : ∀ vs, W28 (retK Try.prog [.tmp 4] r) ⟨Am.look (argT 0 args), hls [] vs, noG⟩) : Am.Spec Try.prog 28 args r := .of_W (W := W28) Try.func28 (by kernel_rfl) (by kernel_rfl) (by kernel_rfl) Try.ntmps28 W28_eq (by kernel_rfl) hl h

-- 29 "penance/run.block"
def W29_k1 (Φ : EP) (s : St) : Prop :=
  @sMv 27 5 s <| .mk fun s =>
  @sMv 4 27 s <| .mk fun s =>
  Φ .ret s
def W29_k2 (Φ : EP) (L0 : SP) (s : St) : Prop :=
  @sFl 21 8 2 s <| .mk fun s =>
  @sLd 22 1 21 false s <| .mk fun s =>
  @sMv 23 7 s <| .mk fun s =>
  @sOp (some 24) (xIx 9 (s.τ 22) (s.τ 23) s.H) s <| .mk fun s =>
  @sLd 25 9 24 true s <| .mk fun s =>
  @sOp none (xStore 9 (s.τ 2) (s.τ 25) s.H) s <| .mk fun s =>
  @sOp (some 26) (xBin .add false (s.τ 10) (.int .i64 1) s.H) s <| .mk fun s =>
  @sMv 10 26 s <| .mk fun s =>
  L0 s
def W29_b3 (Φ : EP) (L0 : SP) (s : St) : Prop :=
  @sMv 18 1 s <| .mk fun s =>
  @sMv 19 6 s <| .mk fun s =>
  @sOp (some 20) (xSlc 1 (s.τ 18) none (some (s.τ 19)) s.H) s <| .mk fun s =>
  @sMv 5 20 s <| .mk fun s =>
  W29_k2 Φ L0 s
def W29_b4 (Φ : EP) (L0 : SP) (s : St) : Prop :=
  @sMv 12 10 s <| .mk fun s =>
  @sOp (some 13) (xIx 1 (s.τ 8) (s.τ 10) s.H) s <| .mk fun s =>
  @sLd 14 1 13 false s <| .mk fun s =>
  @sMv 6 12 s <| .mk fun s =>
  @sMv 7 14 s <| .mk fun s =>
  @sFl 15 0 2 s <| .mk fun s =>
  @sLd 16 1 15 false s <| .mk fun s =>
  @sOp (some 17) (xBin .eql false (s.τ 16) (.int .i64 7) s.H) s <| .mk fun s =>
  @sIf (s.τ 17) ⟨W29_b3 Φ L0 s⟩ ⟨W29_k2 Φ L0 s⟩
def W29_l5 (Φ : EP) (L0 : SP) (s : St) : Prop :=
  @sOp (some 11) (xBin .lss false (s.τ 10) (s.τ 9) s.H) s <| .mk fun s =>
  @sIf (s.τ 11) ⟨W29_b4 Φ L0 s⟩ ⟨W29_k1 Φ s⟩
def W29 (Φ : EP) (s : St) : Prop :=
  @sOp (some 2) (xBox 2 29 (s.τ 0) s.H) s <| .mk fun s =>
  @sOp (some 4) (xMov (.nils) s.H) s <| .mk fun s =>
  @sOp (some 5) (xMov (.nils) s.H) s <| .mk fun s =>
  @sMv 8 1 s <| .mk fun s =>
  @sOp (some 9) (xLen (s.τ 8) s.H) s <| .mk fun s =>
  @sOp (some 10) (xMov (.int .i64 0) s.H) s <| .mk fun s =>
  @sLoop s ⟨fun L0 s => W29_l5 Φ L0 s⟩
theorem W29_rs (τ : Nat → AV) (H : Heap) : resV Try.prog τ H [.tmp 4] = some (τ 4) := by kernel_rfl
theorem W29_eq (Φ : EP) (s : St) : awp Try.prog (Try.f29.body.getD .skip) Φ s = W29 Φ s := by kernel_rfl
theorem W29_S {args : List AV} {r : AV} (hl : args.length ≤ 28) (h : ∀ vs, W29 (retK Try.prog [.tmp 4] r) ⟨Am.look (argT 0 args), hls [] vs, noG⟩) : Am.Spec Try.prog 29 args r := .of_W (W := W29) Try.func29 (by kernel_rfl) (by kernel_rfl) (by kernel_rfl) Try.ntmps29 W29_eq (by kernel_rfl) hl h

-- 30 "penance/run.put"
def W30_b1 (Φ : EP) (s : St) : Prop :=
  @sLd 11 9 5 true s <| .mk fun s =>
  @sOp none (xStore 9 (s.τ 6) (s.τ 11) s.H) s <| .mk fun s =>
  Φ .ret s
def W30_b4 (Φ : EP) (s : St) : Prop :=
  @sFl 12 8 3 s <| .mk fun s =>
  @sLd 13 1 12 false s <| .mk fun s =>
  @sCall Try.prog (.func 52 []) [(s.τ 13)] (some 14) s <| .mk fun s =>
  @sMv 7 14 s <| .mk fun s =>
  @sMv 15 7 s <| .mk fun u1 =>
  @sMv 16 1 u1 <| .mk fun u2 =>
  @sOp (some 17) (xIx 1 (u2.τ 16) (.int .i64 0) u2.H) u2 <| .mk fun u3 =>
  @sLd 18 1 17 false u3 <| .mk fun u4 =>
  @sMv 19 7 u4 <| .mk fun u5 =>
  @sMv 20 1 u5 <| .mk fun u6 =>
  @sOp (some 21) (xIx 1 (u6.τ 20) (.int .i64 0) u6.H) u6 <| .mk fun u7 =>
  @sLd 22 1 21 false u7 <| .mk fun u8 =>
  @sOp (some 23) (xIx 9 (u8.τ 19) (u8.τ 22) u8.H) u8 <| .mk fun u9 =>
  @sLd 24 9 23 true u9 <| .mk fun u10 =>
  @sMv 25 1 u10 <| .mk fun u11 =>
  @sOp (some 26) (xSlc 1 (u11.τ 25) (some (.int .i64 1)) none u11.H) u11 <| .mk fun u12 =>
  @sLd 27 9 5 true u12 <| .mk fun u13 =>
  @sChk (compat (occ (u2.τ 16), []) (cfp 28 30 [(u13.τ 24), (u13.τ 26), (u13.τ 27)])) <| .mk <|
  @sChk (compat (occ (u3.τ 17), []) (cfp 28 30 [(u13.τ 24), (u13.τ 26), (u13.τ 27)])) <| .mk <|
  @sCall0 Try.prog (.func 30 []) [(u13.τ 24), (u13.τ 26), (u13.τ 27)] (some 28) u13 <| .mk fun u14 =>
  @sOp (some 29) (xIx 9 (u14.τ 15) (u14.τ 18) u14.H) u14 <| .mk fun u15 =>
  @sOp none (xStore 9 (u15.τ 29) (u15.τ 28) u15.H) u15 <| .mk fun s =>
  @sMv 30 7 s <| .mk fun s =>
  @sFl 31 8 3 s <| .mk fun s =>
  @sOp none (xStore 1 (s.τ 31) (s.τ 30) s.H) s <| .mk fun s =>
  @sLd 32 9 3 true s <| .mk fun s =>
  @sOp none (xStore 9 (s.τ 6) (s.τ 32) s.H) s <| .mk fun s =>
  Φ .ret s
def W30 (Φ : EP) (s : St) : Prop :=
  @sOp (some 3) (xBox 3 29 (s.τ 0) s.H) s <| .mk fun s =>
  @sOp (some 5) (xBox 5 29 (s.τ 2) s.H) s <| .mk fun s =>
  @sOp (some 6) (xAlloc 6 29 [.int .i64 0, .int .i64 0, .int .i64 0, .str ⟨#[]⟩, .int .i64 0, .int .i64 0, .str ⟨#[]⟩, .nils, .nils] s.H) s <| .mk fun s =>
  @sMv 8 1 s <| .mk fun s =>
  @sOp (some 9) (xLen (s.τ 8) s.H) s <| .mk fun s =>
  @sOp (some 10) (xBin .eql false (s.τ 9) (.int .i64 0) s.H) s <| .mk fun s =>
  @sIf (s.τ 10) ⟨W30_b1 Φ s⟩ ⟨W30_b4 Φ s⟩
theorem W30_rs (τ : Nat → AV) (H : Heap) : resV Try.prog τ H [.cell 6 29] = rdV H 9 true (τ 6) := by kernel_rfl
theorem W30_eq (Φ : EP) (s : St) : awp Try.prog (Try.f30.body.getD .skip) Φ s = W30 Φ s := by kernel_rfl
theorem W30_S {args : List AV} {r : AV} (hl : args.length ≤ 33) (h : ∀ vs, W30 (retK Try.prog [.cell 6 29] r) ⟨Am.look (argT 0 args), hls [] vs, noG⟩) : Am.Spec Try.prog 30 args r := .of_W (W := W30) Try.func30 (by kernel_rfl) (by kernel_rfl) (by kernel_rfl) Try.ntmps30 W30_eq (by kernel_rfl) hl h

-- 31 "penance/term.Size"
def W31_k1 (Φ : EP) (s : St) : Prop :=
  @sMv 18 3 s <| .mk fun s =>
  @sMv 2 18 s <| .mk fun s =>
  Φ .ret s
def W31_b3 (Φ : EP) (L0 : SP) (s : St) : Prop :=
  @sOp (some 11) (xIx 9 (s.τ 7) (s.τ 9) s.H) s <| .mk fun s =>
  @sLd 12 9 11 true s <| .mk fun s =>
  @sOp (some 5) (xAlloc 5 29 [.int .i64 0, .int .i64 0, .int .i64 0, .str ⟨#[]⟩, .int .i64 0, .int .i64 0, .str ⟨#[]⟩, .nils, .nils] s.H) s <| .mk fun s =>
  @sOp none (xStore 9 (s.τ 5) (s.τ 12) s.H) s <| .mk fun s =>
  @sMv 13 3 s <| .mk fun s =>
  @sLd 14 9 5 true s <| .mk fun s =>
  @sCall Try.prog (.func 31 []) [(s.τ 14)] (some 15) s <| .mk fun s =>
  @sOp (some 16) (xBin .add false (s.τ 13) (s.τ 15) s.H) s <| .mk fun s =>
  @sMv 3 16 s <| .mk fun s =>
  @sOp (some 17) (xBin .add false (s.τ 9) (.int .i64 1) s.H) s <| .mk fun s =>
  @sMv 9 17 s <| .mk fun s =>
  L0 s
def W31_l4 (Φ : EP) (L0 : SP) (s : St) : Prop :=
  @sOp (some 10) (xBin .lss false (s.τ 9) (s.τ 8) s.H) s <| .mk fun s =>
  @sIf (s.τ 10) ⟨W31_b3 Φ L0 s⟩ ⟨W31_k1 Φ s⟩
def W31 (Φ : EP) (s : St) : Prop :=
  @sOp (some 1) (xBox 1 29 (s.τ 0) s.H) s <| .mk fun s =>
  @sOp (some 2) (xMov (.int .i64 0) s.H) s <| .mk fun s =>
  @sOp (some 3) (xMov (.int .i64 1) s.H) s <| .mk fun s =>
  @sFl 6 8 1 s <| .mk fun s =>
  @sLd 7 1 6 false s <| .mk fun s =>
  @sOp (some 8) (xLen (s.τ 7) s.H) s <| .mk fun s =>
  @sOp (some 9) (xMov (.int .i64 0) s.H) s <| .mk fun s =>
  @sLoop s ⟨fun L0 s => W31_l4 Φ L0 s⟩
theorem W31_rs (τ : Nat → AV) (H : Heap) : resV Try.prog τ H [.tmp 2] = some (τ 2) := by kernel_rfl
theorem W31_eq (Φ : EP) (s : St) : awp Try.prog (Try.f31.body.getD .skip) Φ s = W31 Φ s := by kernel_rfl
theorem W31_S {args : List AV} {r : AV} (hl : args.length ≤ 19) (h : ∀ vs, W31 (retK Try.prog [.tmp 2] r) ⟨Am.look (argT 0 args), hls [] vs, noG⟩) : Am.Spec Try.prog 31 args r := .of_W (W := W31) Try.func31 (by kernel_rfl) (by kernel_rfl) (by kernel_rfl) Try.ntmps31 W31_eq (by kernel_rfl) hl h

-- 32 "penance/stacks.Size"
def W32_k1 (Φ : EP) (s : St) : Prop :=
  @sMv 26 3 s <| .mk fun s =>
  @sMv 2 26 s <| .mk fun s =>
  Φ .ret s
def W32_k2 (Φ : EP) (L0 : SP) (s : St) : Prop :=
  @sOp (some 25) (xBin .add false (s.τ 10) (.int .i64 1) s.H) s <| .mk fun s =>
  @sMv 10 25 s <| .mk fun s =>
  L0 s
def W32_b4 (Φ : EP) (L0 : SP) (L1 : SP) (s : St) : Prop :=
  @sOp (some 18) (xIx 9 (s.τ 14) (s.τ 16) s.H) s <| .mk fun s =>
  @sLd 19 9 18 true s <| .mk fun s =>
  @sOp (some 7) (xAlloc 7 29 [.int .i64 0, .int .i64 0, .int .i64 0, .str ⟨#[]⟩, .int .i64 0, .int .i64 0, .str ⟨#[]⟩, .nils, .nils] s.H) s <| .mk fun s =>
  @sOp none (xStore 9 (s.τ 7) (s.τ 19) s.H) s <| .mk fun s =>
  @sMv 20 3 s <| .mk fun s =>
  @sLd 21 9 7 true s <| .mk fun s =>
  @sCall Try.prog (.func 31 []) [(s.τ 21)] (some 22) s <| .mk fun s =>
  @sOp (some 23) (xBin .add false (s.τ 20) (s.τ 22) s.H) s <| .mk fun s =>
  @sMv 3 23 s <| .mk fun s =>
  @sOp (some 24) (xBin .add false (s.τ 16) (.int .i64 1) s.H) s <| .mk fun s =>
  @sMv 16 24 s <| .mk fun s =>
  L1 s
def W32_l5 (Φ : EP) (L0 : SP) (L1 : SP) (s : St) : Prop :=
  @sOp (some 17) (xBin .lss false (s.τ 16) (s.τ 15) s.H) s <| .mk fun s =>
  @sIf (s.τ 17) ⟨W32_b4 Φ L0 L1 s⟩ ⟨W32_k2 Φ L0 s⟩
def W32_b6 (Φ : EP) (L0 : SP) (s : St) : Prop :=
  @sOp (some 12) (xIx 1 (s.τ 8) (s.τ 10) s.H) s <| .mk fun s =>
  @sLd 13 1 12 false s <| .mk fun s =>
  @sMv 5 13 s <| .mk fun s =>
  @sMv 14 5 s <| .mk fun s =>
  @sOp (some 15) (xLen (s.τ 14) s.H) s <| .mk fun s =>
  @sOp (some 16) (xMov (.int .i64 0) s.H) s <| .mk fun s =>
  @sLoop s ⟨fun L1 s => W32_l5 Φ L0 L1 s⟩
def W32_l7 (Φ : EP) (L0 : SP) (s : St) : Prop :=
  @sOp (some 11) (xBin .lss false (s.τ 10) (s.τ 9) s.H) s <| .mk fun s =>
  @sIf (s.τ 11) ⟨W32_b6 Φ L0 s⟩ ⟨W32_k1 Φ s⟩
def W32 (Φ : EP) (s : St) : Prop :=
  @sOp (some 2) (xMov (.int .i64 0) s.H) s <| .mk fun s =>
  @sOp (some 3) (xMov (.int .i64 0) s.H) s <| .mk fun s =>
  @sMv 8 0 s <| .mk fun s =>
  @sOp (some 9) (xLen (s.τ 8) s.H) s <| .mk fun s =>
  @sOp (some 10) (xMov (.int .i64 0) s.H) s <| .mk fun s =>
  @sLoop s ⟨fun L0 s => W32_l7 Φ L0 s⟩
theorem W32_rs (τ : Nat → AV) (H : Heap) : resV Try.prog τ H [.tmp 2] = some (τ 2) := by kernel_rfl
theorem W32_eq (Φ : EP) (s : St) : awp Try.prog (Try.f32.body.getD .skip) Φ s = W32 Φ s := by kernel_rfl
theorem W32_S {args : List AV} {r : AV} (hl : args.length ≤ 27) (h : ∀ vs, W32 (retK Try.prog [.tmp 2] r) ⟨Am.look (argT 0 args), hls [] vs, noG⟩) : Am.Spec Try.prog 32 args r := .of_W (W := W32) Try.func32 (by kernel_rfl) (by kernel_rfl) (by kernel_rfl) Try.ntmps32 W32_eq (by kernel_rfl) hl h

-- 33 "penance/run.waiting"
def W33_b1 (Φ : EP) (s : St) : Prop :=
  @sFl 14 1 2 s <| .mk fun s =>
  @sLd 15 1 14 false s <| .mk fun s =>
  @sMv 16 1 s <| .mk fun s =>
  @sOp (some 17) (xBin .eql false (s.τ 15) (s.τ 16) s.H) s <| .mk fun s =>
  @sOp (some 4) (xMov (.nils) s.H) s <| .mk fun s =>
  @sMv 5 17 s <| .mk fun s =>
  Φ .ret s
def W33_b2 (Φ : EP) (s : St) : Prop :=
  @sOp (some 4) (xMov (.nils) s.H) s <| .mk fun s =>
  @sOp (some 5) (xMov (.bool false) s.H) s <| .mk fun s =>
  Φ .ret s
def W33_k3 (Φ : EP) (s : St) : Prop :=
  @sOp (some 4) (xMov (.nils) s.H) s <| .mk fun s =>
  @sOp (some 5) (xMov (.bool false) s.H) s <| .mk fun s =>
  Φ .ret s
def W33_b4 (Φ : EP) (L0 : SP) (s : St) : Prop :=
  @sMv 54 6 s <| .mk fun s =>
  @sOp (some 55) (xRow 55 3 1 1 [.int .i64 0] [(0, (s.τ 54))] s.H) s <| .mk fun s =>
  @sMv 56 8 s <| .mk fun s =>
  @sOp (some 57) (xApp Try.prog 3 1 8 (some 57) (s.τ 55) (s.τ 56) s.H) s <| .mk fun s =>
  @sMv 4 57 s <| .mk fun s =>
  @sOp (some 5) (xMov (.bool true) s.H) s <| .mk fun s =>
  Φ .ret s
def W33_b5 (Φ : EP) (L0 : SP) (s : St) : Prop :=
  @sOp (some 58) (xBin .add false (s.τ 35) (.int .i64 1) s.H) s <| .mk fun s =>
  @sMv 35 58 s <| .mk fun s =>
  L0 s
def W33_b7 (Φ : EP) (L0 : SP) (s : St) : Prop :=
  @sLd 48 9 7 true s <| .mk fun s =>
  @sMv 49 1 s <| .mk fun s =>
  @sCall Try.prog (.func 33 []) [(s.τ 48), (s.τ 49)] (some 50) s <| .mk fun s =>
  @sMv 47 50 s <| .mk fun s =>
  @sOp (some 51) (xExt (s.τ 47) 0 s.H) s <| .mk fun s =>
  @sOp (some 52) (xExt (s.τ 47) 1 s.H) s <| .mk fun s =>
  @sMv 8 51 s <| .mk fun s =>
  @sMv 9 52 s <| .mk fun s =>
  @sMv 53 9 s <| .mk fun s =>
  @sIf (s.τ 53) ⟨W33_b4 Φ L0 s⟩ ⟨W33_b5 Φ L0 s⟩
def W33_b11 (Φ : EP) (L0 : SP) (s : St) : Prop :=
  @sMv 37 35 s <| .mk fun s =>
  @sOp (some 38) (xIx 9 (s.τ 33) (s.τ 35) s.H) s <| .mk fun s =>
  @sLd 39 9 38 true s <| .mk fun s =>
  @sOp (some 7) (xAlloc 7 29 [.int .i64 0, .int .i64 0, .int .i64 0, .str ⟨#[]⟩, .int .i64 0, .int .i64 0, .str ⟨#[]⟩, .nils, .nils] s.H) s <| .mk fun s =>
  @sMv 6 37 s <| .mk fun s =>
  @sOp none (xStore 9 (s.τ 7) (s.τ 39) s.H) s <| .mk fun s =>
  @sMv 40 6 s <| .mk fun s =>
  @sOp (some 41) (xBin .gtr false (s.τ 40) (.int .i64 0) s.H) s <| .mk fun s =>
  @sMv 42 41 s <| .mk fun s =>
  @sGf 43 0 2 42 true s <| .mk fun s =>
  @sGl 44 1 43 42 false true s <| .mk fun s =>
  @sGo 45 42 true s (fun s => (xBin .eql false (s.τ 44) (.int .i64 12) s.H)) <| .mk fun s =>
  @sOp (some 46) (xPick (s.τ 42) (s.τ 45) (.bool false) s.H) s <| .mk fun s =>
  @sIf (s.τ 46) ⟨W33_k3 Φ s⟩ ⟨W33_b7 Φ L0 s⟩
def W33_l12 (Φ : EP) (L0 : SP) (s : St) : Prop :=
  @sOp (some 36) (xBin .lss false (s.τ 35) (s.τ 34) s.H) s <| .mk fun s =>
  @sIf (s.τ 36) ⟨W33_b11 Φ L0 s⟩ ⟨W33_k3 Φ s⟩
def W33_b13 (Φ : EP) (s : St) : Prop :=
  @sFl 32 8 2 s <| .mk fun s =>
  @sLd 33 1 32 false s <| .mk fun s =>
  @sOp (some 34) (xLen (s.τ 33) s.H) s <| .mk fun s =>
  @sOp (some 35) (xMov (.int .i64 0) s.H) s <| .mk fun s =>
  @sLoop s ⟨fun L0 s => W33_l12 Φ L0 s⟩
def W33_b20 (Φ : EP) (s : St) : Prop :=
  @sFl 19 0 2 s <| .mk fun s =>
  @sLd 20 1 19 false s <| .mk fun s =>
  @sOp (some 21) (xBin .neq false (s.τ 20) (.int .i64 12) s.H) s <| .mk fun s =>
  @sMv 22 21 s <| .mk fun s =>
  @sGf 23 0 2 22 true s <| .mk fun s =>
  @sGl 24 1 23 22 false true s <| .mk fun s =>
  @sGo 25 22 true s (fun s => (xBin .neq false (s.τ 24) (.int .i64 11) s.H)) <| .mk fun s =>
  @sOp (some 26) (xPick (s.τ 22) (s.τ 25) (.bool false) s.H) s <| .mk fun s =>
  @sMv 27 26 s <| .mk fun s =>
  @sGf 28 0 2 27 true s <| .mk fun s =>
  @sGl 29 1 28 27 false true s <| .mk fun s =>
  @sGo 30 27 true s (fun s => (xBin .neq false (s.τ 29) (.int .i64 7) s.H)) <| .mk fun s =>
  @sOp (some 31) (xPick (s.τ 27) (s.τ 30) (.bool false) s.H) s <| .mk fun s =>
  @sMv 18 31 s <| .mk fun s =>
  @sIf (s.τ 18) ⟨W33_b2 Φ s⟩ ⟨W33_b13 Φ s⟩
def W33 (Φ : EP) (s : St) : Prop :=
  @sOp (some 2) (xBox 2 29 (s.τ 0) s.H) s <| .mk fun s =>
  @sOp (some 4) (xMov (.nils) s.H) s <| .mk fun s =>
  @sOp (some 5) (xMov (.bool false) s.H) s <| .mk fun s =>
  @sFl 11 0 2 s <| .mk fun s =>
  @sLd 12 1 11 false s <| .mk fun s =>
  @sOp (some 13) (xBin .eql false (s.τ 12) (.int .i64 14) s.H) s <| .mk fun s =>
  @sMv 10 13 s <| .mk fun s =>
  @sIf (s.τ 10) ⟨W33_b1 Φ s⟩ ⟨W33_b20 Φ s⟩
theorem W33_rs (τ : Nat → AV) (H : Heap) : resV Try.prog τ H [.tmp 4, .tmp 5] = ob (ob (some (τ 4)) fun v => ob (ob (some (τ 5)) fun v => ob (some []) fun vs => some (v :: vs)) fun vs => some (v :: vs)) fun vs => some (.tup vs) := by kernel_rfl
theorem W33_eq (Φ : EP) (s : St) : awp Try.prog (Try.f33.body.getD .skip) Φ s = W33 Φ s := by kernel_rfl
theorem W33_S {args : List AV} {r : AV} (hl : args.length ≤ 59) (h : ∀ vs, W33 (retK Try.prog [.tmp 4, .tmp 5] r) ⟨Am.look (argT 0 args), hls [] vs, noG⟩) : Am.Spec Try.prog 33 args r := .of_W (W := W33) Try.func33 (by kernel_rfl) (by kernel_rfl) (by kernel_rfl) Try.ntmps33 W33_eq (by kernel_rfl) hl h


end Go.Proofs.Ytnngddgaobhkiaa
set_option linter.unusedVariables false
set_option maxRecDepth 100000
namespace Go.Proofs.Ytnngddgaobhkiaa
open Go Go.Am
-- 40 "penance/run.waits"
def W40_k1 (Φ : EP) (s : St) : Prop :=
  @sOp none (xStore 1 (s.τ 2) (.bool false) s.H) s <| .mk fun s =>
  Φ .ret s
def W40_b2 (Φ : EP) (s : St) : Prop :=
  @sOp none (xStore 1 (s.τ 2) (.bool true) s.H) s <| .mk fun s =>
  Φ .ret s
def W40_r3 (Φ : EP) (s : St) : Prop :=
  @sOp (some 3) (xAlloc 3 29 [.int .i64 0, .int .i64 0, .int .i64 0, .str ⟨#[]⟩, .int .i64 0, .int .i64 0, .str ⟨#[]⟩, .nils, .nils] s.H) s <| .mk fun s =>
  @sOp none (xStore 9 (s.τ 3) (s.τ 6) s.H) s <| .mk fun s =>
  @sFl 7 0 3 s <| .mk fun s =>
  @sLd 8 1 7 false s <| .mk fun s =>
  @sOp (some 9) (xBin .eql false (s.τ 8) (.int .i64 14) s.H) s <| .mk fun s =>
  @sIf (s.τ 9) ⟨W40_b2 Φ s⟩ ⟨Φ .normal s⟩
def W40 (Φ : EP) (s : St) : Prop :=
  @sOp (some 1) (xBox 1 29 (s.τ 0) s.H) s <| .mk fun s =>
  @sOp (some 2) (xAlloc 2 4 [.bool false] s.H) s <| .mk fun s =>
  @sLd 4 9 1 true s <| .mk fun s =>
  @sCall Try.prog (.func 55 []) [(s.τ 4)] (some 5) s <| .mk fun s =>
  @sRange Try.prog (s.τ 5) [6] s ⟨fun Φ s => W40_r3 Φ s⟩ ⟨(blkK 0 (thenK (W40_k1 Φ) Φ))⟩
theorem W40_rs (τ : Nat → AV) (H : Heap) : resV Try.prog τ H [.cell 2 4] = rdV H 1 false (τ 2) := by kernel_rfl
theorem W40_eq (Φ : EP) (s : St) : awp Try.prog (Try.f40.body.getD .skip) Φ s = W40 Φ s := by kernel_rfl
theorem W40_S {args : List AV} {r : AV} (hl : args.length ≤ 10) (h : ∀ vs, W40 (retK Try.prog [.cell 2 4] r) ⟨Am.look (argT 0 args), hls [] vs, noG⟩) : Am.Spec Try.prog 40 args r := .of_W (W := W40) Try.func40 (by kernel_rfl) (by kernel_rfl) (by kernel_rfl) Try.ntmps40 W40_eq (by kernel_rfl) hl h

-- 41 "penance/term.Right"

def W41 (Φ : EP) (s : St) : Prop :=
  @sOp (some 4) (xBox 4 29 (s.τ 0) s.H) s <| .mk fun s =>
  @sOp (some 8) (xMov (.bool false) s.H) s <| .mk fun s =>
  @sMv 9 1 s <| .mk fun s =>
  @sMv 10 2 s <| .mk fun s =>
  @sMv 11 3 s <| .mk fun s =>
  @sOp (some 12) (xBuild [.int .i64 0, .int .i64 0, .int .i64 0] [(0, 1, (s.τ 9)), (1, 1, (s.τ 10)), (2, 1, (s.τ 11))] s.H) s <| .mk fun s =>
  @sLd 13 9 4 true s <| .mk fun s =>
  @sCall Try.prog (.func 56 []) [(s.τ 12), (s.τ 13), (.bool false)] (some 14) s <| .mk fun s =>
  @sMv 8 14 s <| .mk fun s =>
  Φ .ret s
theorem W41_rs (τ : Nat → AV) (H : Heap) : resV Try.prog τ H [.tmp 8] = some (τ 8) := by kernel_rfl
theorem W41_eq (Φ : EP) (s : St) : awp Try.prog (Try.f41.body.getD .skip) Φ s = W41 Φ s := by kernel_rfl
theorem W41_S {args : List AV} {r : AV} (hl : args.length ≤ 15) (h : ∀ vs, W41 (retK Try.prog [.tmp 8] r) ⟨Am.look (argT 0 args), hls [] vs, noG⟩) : Am.Spec Try.prog 41 args r := .of_W (W := W41) Try.func41 (by kernel_rfl) (by kernel_rfl) (by kernel_rfl) Try.ntmps41 W41_eq (by kernel_rfl) hl h

-- 42 "penance/term.Norm$1"

def W42 (Φ : EP) (s : St) : Prop :=
  @sOp (some 1) (xBox 1 29 (s.τ 0) s.H) s <| .mk fun s =>
  @sOp (some 2) (xMov (.bool false) s.H) s <| .mk fun s =>
  @sFl 3 0 1 s <| .mk fun s =>
  @sLd 4 1 3 false s <| .mk fun s =>
  @sOp (some 5) (xBin .eql false (s.τ 4) (.int .i64 0) s.H) s <| .mk fun s =>
  @sMv 2 5 s <| .mk fun s =>
  Φ .ret s
theorem W42_rs (τ : Nat → AV) (H : Heap) : resV Try.prog τ H [.tmp 2] = some (τ 2) := by kernel_rfl
theorem W42_eq (Φ : EP) (s : St) : awp Try.prog (Try.f42.body.getD .skip) Φ s = W42 Φ s := by kernel_rfl
theorem W42_S {args : List AV} {r : AV} (hl : args.length ≤ 6) (h : ∀ vs, W42 (retK Try.prog [.tmp 2] r) ⟨Am.look (argT 0 args), hls [] vs, noG⟩) : Am.Spec Try.prog 42 args r := .of_W (W := W42) Try.func42 (by kernel_rfl) (by kernel_rfl) (by kernel_rfl) Try.ntmps42 W42_eq (by kernel_rfl) hl h

-- 43 "penance/term.own"
def W43_k3 (Φ : EP) (s : St) : Prop :=
  @sMv 23 3 s <| .mk fun u1 =>
  @sCall0 Try.prog (.func 52 []) [(u1.τ 23)] (some 24) u1 <| .mk fun u2 =>
  @sChk (compat (cfp 24 52 [(u1.τ 23)]) (occ (u2.τ 1), [])) <| .mk <|
  @sFl 25 4 1 u2 <| .mk fun u3 =>
  @sChk (compat (cfp 24 52 [(u1.τ 23)]) (occ (u3.τ 25), [])) <| .mk <|
  @sLd 26 4 25 true u3 <| .mk fun u4 =>
  @sCall0 Try.prog (.func 57 []) [(u4.τ 26)] (some 27) u4 <| .mk fun u5 =>
  @sChk (compat (cfp 27 57 [(u4.τ 26)]) (occ (u5.τ 1), [])) <| .mk <|
  @sFl 28 8 1 u5 <| .mk fun u6 =>
  @sOp none (xStore 1 (u6.τ 28) (u6.τ 24) u6.H) u6 <| .mk fun u7 =>
  @sFl 29 4 1 u7 <| .mk fun u8 =>
  @sOp none (xStore 4 (u8.τ 29) (u8.τ 27) u8.H) u8 <| .mk fun s =>
  @sLd 30 9 1 true s <| .mk fun s =>
  @sOp none (xStore 9 (s.τ 2) (s.τ 30) s.H) s <| .mk fun s =>
  Φ .ret s
def W43_b5 (Φ : EP) (L0 : SP) (s : St) : Prop :=
  @sOp (some 15) (xIx 9 (s.τ 11) (s.τ 13) s.H) s <| .mk fun s =>
  @sLd 16 9 15 true s <| .mk fun s =>
  @sOp (some 5) (xAlloc 5 29 [.int .i64 0, .int .i64 0, .int .i64 0, .str ⟨#[]⟩, .int .i64 0, .int .i64 0, .str ⟨#[]⟩, .nils, .nils] s.H) s <| .mk fun s =>
  @sOp none (xStore 9 (s.τ 5) (s.τ 16) s.H) s <| .mk fun s =>
  @sMv 17 3 s <| .mk fun s =>
  @sLd 18 9 5 true s <| .mk fun s =>
  @sCall Try.prog (.func 43 []) [(s.τ 18)] (some 19) s <| .mk fun s =>
  @sOp (some 20) (xLit 9 1 [.int .i64 0, .int .i64 0, .int .i64 0, .str ⟨#[]⟩, .int .i64 0, .int .i64 0, .str ⟨#[]⟩, .nils, .nils] [(0, (s.τ 19))] s.H) s <| .mk fun s =>
  @sOp (some 21) (xApp Try.prog 29 9 120 (some 21) (s.τ 17) (s.τ 20) s.H) s <| .mk fun s =>
  @sMv 3 21 s <| .mk fun s =>
  @sOp (some 22) (xBin .add false (s.τ 13) (.int .i64 1) s.H) s <| .mk fun s =>
  @sMv 13 22 s <| .mk fun s =>
  L0 s
def W43_l6 (Φ : EP) (L0 : SP) (s : St) : Prop :=
  @sOp (some 14) (xBin .lss false (s.τ 13) (s.τ 12) s.H) s <| .mk fun s =>
  @sIf (s.τ 14) ⟨W43_b5 Φ L0 s⟩ ⟨W43_k3 Φ s⟩
def W43 (Φ : EP) (s : St) : Prop :=
  @sOp (some 1) (xBox 1 29 (s.τ 0) s.H) s <| .mk fun s =>
  @sOp (some 2) (xAlloc 2 29 [.int .i64 0, .int .i64 0, .int .i64 0, .str ⟨#[]⟩, .int .i64 0, .int .i64 0, .str ⟨#[]⟩, .nils, .nils] s.H) s <| .mk fun s =>
  @sFl 6 8 1 s <| .mk fun s =>
  @sLd 7 1 6 false s <| .mk fun s =>
  @sOp (some 8) (xLen (s.τ 7) s.H) s <| .mk fun s =>
  @sOp (some 9) (xMks 9 29 9 120 [.int .i64 0, .int .i64 0, .int .i64 0, .str ⟨#[]⟩, .int .i64 0, .int .i64 0, .str ⟨#[]⟩, .nils, .nils] (.int .i64 0) (s.τ 8) s.H) s <| .mk fun s =>
  @sMv 3 9 s <| .mk fun s =>
  @sFl 10 8 1 s <| .mk fun s =>
  @sLd 11 1 10 false s <| .mk fun s =>
  @sOp (some 12) (xLen (s.τ 11) s.H) s <| .mk fun s =>
  @sOp (some 13) (xMov (.int .i64 0) s.H) s <| .mk fun s =>
  @sLoop s ⟨fun L0 s => W43_l6 Φ L0 s⟩
theorem W43_rs (τ : Nat → AV) (H : Heap) : resV Try.prog τ H [.cell 2 29] = rdV H 9 true (τ 2) := by kernel_rfl
theorem W43_eq (Φ : EP) (s : St) : awp Try.prog (Try.f43.body.getD .skip) Φ s = W43 Φ s := by kernel_rfl
theorem W43_S {args : List AV} {r : AV} (hl : args.length ≤ 31) (h : ∀ vs, W43 (retK Try.prog [.cell 2 29] r) ⟨Am.look (argT 0 args), hls [] vs, noG⟩) : Am.Spec Try.prog 43 args r := .of_W (W := W43) Try.func43 (by kernel_rfl) (by kernel_rfl) (by kernel_rfl) Try.ntmps43 W43_eq (by kernel_rfl) hl h

-- 44 "penance/stacks.own"

def W44 (Φ : EP) (s : St) : Prop :=
  @sOp (some 2) (xMov (.nils) s.H) s <| .mk fun s =>
  @sMv 3 0 s <| .mk fun s =>
  @sCall Try.prog (.func 58 []) [(s.τ 3), (.func 59 [])] (some 4) s <| .mk fun s =>
  @sMv 2 4 s <| .mk fun s =>
  Φ .ret s
theorem W44_rs (τ : Nat → AV) (H : Heap) : resV Try.prog τ H [.tmp 2] = some (τ 2) := by kernel_rfl
theorem W44_eq (Φ : EP) (s : St) : awp Try.prog (Try.f44.body.getD .skip) Φ s = W44 Φ s := by kernel_rfl
theorem W44_S {args : List AV} {r : AV} (hl : args.length ≤ 5) (h : ∀ vs, W44 (retK Try.prog [.tmp 2] r) ⟨Am.look (argT 0 args), hls [] vs, noG⟩) : Am.Spec Try.prog 44 args r := .of_W (W := W44) Try.func44 (by kernel_rfl) (by kernel_rfl) (by kernel_rfl) Try.ntmps44 W44_eq (by kernel_rfl) hl h

-- 45 "penance/stacks.is"

def W45 (Φ : EP) (s : St) : Prop :=
  @sOp (some 4) (xMov (.bool false) s.H) s <| .mk fun s =>
  @sMv 5 1 s <| .mk fun s =>
  @sOp (some 6) (xBin .geq false (s.τ 5) (.int .i64 0) s.H) s <| .mk fun s =>
  @sMv 7 6 s <| .mk fun s =>
  @sGm 8 1 7 true s <| .mk fun s =>
  @sGm 9 0 7 true s <| .mk fun s =>
  @sGo 10 7 true s (fun s => (xLen (s.τ 9) s.H)) <| .mk fun s =>
  @sGo 11 7 true s (fun s => (xBin .lss false (s.τ 8) (s.τ 10) s.H)) <| .mk fun s =>
  @sOp (some 12) (xPick (s.τ 7) (s.τ 11) (.bool false) s.H) s <| .mk fun s =>
  @sMv 4 12 s <| .mk fun s =>
  Φ .ret s
theorem W45_rs (τ : Nat → AV) (H : Heap) : resV Try.prog τ H [.tmp 4] = some (τ 4) := by kernel_rfl
theorem W45_eq (Φ : EP) (s : St) : awp Try.prog (Try.f45.body.getD .skip) Φ s = W45 Φ s := by kernel_rfl
theorem W45_S {args : List AV} {r : AV} (hl : args.length ≤ 13) (h : ∀ vs, W45 (retK Try.prog [.tmp 4] r) ⟨Am.look (argT 0 args), hls [] vs, noG⟩) : Am.Spec Try.prog 45 args r := .of_W (W := W45) Try.func45 (by kernel_rfl) (by kernel_rfl) (by kernel_rfl) Try.ntmps45 W45_eq (by kernel_rfl) hl h

-- 46 "penance/steps.places"

def W46 (Φ : EP) (s : St) : Prop :=
  @sOp (some 1) (xBox 1 29 (s.τ 0) s.H) s <| .mk fun s =>
  @sOp (some 2) (xMov (.nilf) s.H) s <| .mk fun s =>
  @sOp (some 3) (xMkf 61 [(s.τ 1)] s.H) s <| .mk fun s =>
  @sMv 2 3 s <| .mk fun s =>
  Φ .ret s
theorem W46_rs (τ : Nat → AV) (H : Heap) : resV Try.prog τ H [.tmp 2] = some (τ 2) := by kernel_rfl
theorem W46_eq (Φ : EP) (s : St) : awp Try.prog (Try.f46.body.getD .skip) Φ s = W46 Φ s := by kernel_rfl
theorem W46_S {args : List AV} {r : AV} (hl : args.length ≤ 4) (h : ∀ vs, W46 (retK Try.prog [.tmp 2] r) ⟨Am.look (argT 0 args), hls [] vs, noG⟩) : Am.Spec Try.prog 46 args r := .of_W (W := W46) Try.func46 (by kernel_rfl) (by kernel_rfl) (by kernel_rfl) Try.ntmps46 W46_eq (by kernel_rfl) hl h

-- 47 "slices.Clone[[]penance/api.Step,penance/api.Step]"
def W47_b1 (Φ : EP) (s : St) : Prop :=
  @sOp (some 2) (xMov (.nils) s.H) s <| .mk fun s =>
  Φ .ret s
def W47_b2 (Φ : EP) (s : St) : Prop :=
  @sOp (some 5) (xRow 5 53 3 0 [.int .i64 0, .nils, .int .i64 0] [] s.H) s <| .mk fun s =>
  @sMv 6 0 s <| .mk fun s =>
  @sOp (some 7) (xApp Try.prog 53 3 40 (some 7) (s.τ 5) (s.τ 6) s.H) s <| .mk fun s =>
  @sMv 2 7 s <| .mk fun s =>
  Φ .ret s
def W47 (Φ : EP) (s : St) : Prop :=
  @sOp (some 2) (xMov (.nils) s.H) s <| .mk fun s =>
  @sMv 3 0 s <| .mk fun s =>
  @sNil false (s.τ 3) (some 4) s <| .mk fun s =>
  @sIf (s.τ 4) ⟨W47_b1 Φ s⟩ ⟨W47_b2 Φ s⟩
theorem W47_rs (τ : Nat → AV) (H : Heap) : resV Try.prog τ H [.tmp 2] = some (τ 2) := by kernel_rfl
theorem W47_eq (Φ : EP) (s : St) : awp Try.prog (Try.f47.body.getD .skip) Φ s = W47 Φ s := by kernel_rfl
theorem W47_S {args : List AV} {r : AV} (hl : args.length ≤ 8) (h : ∀ vs, W47 (retK Try.prog [.tmp 2] r) ⟨Am.look (argT 0 args), hls [] vs, noG⟩) : Am.Spec Try.prog 47 args r := .of_W (W := W47) Try.func47 (by kernel_rfl) (by kernel_rfl) (by kernel_rfl) Try.ntmps47 W47_eq (by kernel_rfl) hl h

-- 48 "penance/expr.truth"
def W48_b1 (Φ : EP) (s : St) : Prop :=
  @sOp (some 2) (xMov (.int .i64 1) s.H) s <| .mk fun s =>
  Φ .ret s
def W48_b2 (Φ : EP) (s : St) : Prop :=
  @sOp (some 2) (xMov (.int .i64 0) s.H) s <| .mk fun s =>
  Φ .ret s
def W48 (Φ : EP) (s : St) : Prop :=
  @sOp (some 2) (xMov (.int .i64 0) s.H) s <| .mk fun s =>
  @sMv 3 0 s <| .mk fun s =>
  @sIf (s.τ 3) ⟨W48_b1 Φ s⟩ ⟨W48_b2 Φ s⟩
theorem W48_rs (τ : Nat → AV) (H : Heap) : resV Try.prog τ H [.tmp 2] = some (τ 2) := by kernel_rfl
theorem W48_eq (Φ : EP) (s : St) : awp Try.prog (Try.f48.body.getD .skip) Φ s = W48 Φ s := by kernel_rfl
theorem W48_S {args : List AV} {r : AV} (hl : args.length ≤ 4) (h : ∀ vs, W48 (retK Try.prog [.tmp 2] r) ⟨Am.look (argT 0 args), hls [] vs, noG⟩) : Am.Spec Try.prog 48 args r := .of_W (W := W48) Try.func48 (by kernel_rfl) (by kernel_rfl) (by kernel_rfl) Try.ntmps48 W48_eq (by kernel_rfl) hl h

-- 49 "penance/expr.times"
def W49_b1 (Φ : EP) (s : St) : Prop :=
  @sOp (some 4) (xMov (.int .i64 0) s.H) s <| .mk fun s =>
  @sOp (some 5) (xMov (.int .i64 0) s.H) s <| .mk fun s =>
  Φ .ret s
def W49_b2 (Φ : EP) (s : St) : Prop :=
  @sOp (some 4) (xMov (.int .i64 0) s.H) s <| .mk fun s =>
  @sOp (some 5) (xMov (.int .i64 8) s.H) s <| .mk fun s =>
  Φ .ret s
def W49_b3 (Φ : EP) (s : St) : Prop :=
  @sMv 25 0 s <| .mk fun s =>
  @sMv 26 1 s <| .mk fun s =>
  @sOp (some 27) (xBin .mul false (s.τ 25) (s.τ 26) s.H) s <| .mk fun s =>
  @sMv 4 27 s <| .mk fun s =>
  @sOp (some 5) (xMov (.int .i64 0) s.H) s <| .mk fun s =>
  Φ .ret s
def W49_b6 (Φ : EP) (s : St) : Prop :=
  @sMv 19 0 s <| .mk fun s =>
  @sOp (some 20) (xBin .eql false (s.τ 19) (.int .i64 (-9223372036854775808)) s.H) s <| .mk fun s =>
  @sMv 21 20 s <| .mk fun s =>
  @sGm 22 1 21 false s <| .mk fun s =>
  @sGo 23 21 false s (fun s => (xBin .eql false (s.τ 22) (.int .i64 (-9223372036854775808)) s.H)) <| .mk fun s =>
  @sOp (some 24) (xPick (s.τ 21) (.bool true) (s.τ 23) s.H) s <| .mk fun s =>
  @sIf (s.τ 24) ⟨W49_b2 Φ s⟩ ⟨W49_b3 Φ s⟩
def W49_b7 (Φ : EP) (s : St) : Prop :=
  @sMv 36 6 s <| .mk fun s =>
  @sMv 4 36 s <| .mk fun s =>
  @sOp (some 5) (xMov (.int .i64 0) s.H) s <| .mk fun s =>
  Φ .ret s
def W49_b8 (Φ : EP) (s : St) : Prop :=
  @sOp (some 4) (xMov (.int .i64 0) s.H) s <| .mk fun s =>
  @sOp (some 5) (xMov (.int .i64 8) s.H) s <| .mk fun s =>
  Φ .ret s
def W49_b9 (Φ : EP) (s : St) : Prop :=
  @sMv 28 0 s <| .mk fun s =>
  @sMv 29 1 s <| .mk fun s =>
  @sOp (some 30) (xBin .mul false (s.τ 28) (s.τ 29) s.H) s <| .mk fun s =>
  @sMv 6 30 s <| .mk fun s =>
  @sMv 31 6 s <| .mk fun s =>
  @sMv 32 1 s <| .mk fun s =>
  @sOp (some 33) (xBin .quo false (s.τ 31) (s.τ 32) s.H) s <| .mk fun s =>
  @sMv 34 0 s <| .mk fun s =>
  @sOp (some 35) (xBin .eql false (s.τ 33) (s.τ 34) s.H) s <| .mk fun s =>
  @sIf (s.τ 35) ⟨W49_b7 Φ s⟩ ⟨W49_b8 Φ s⟩
def W49_b12 (Φ : EP) (s : St) : Prop :=
  @sMv 13 0 s <| .mk fun s =>
  @sOp (some 14) (xBin .eql false (s.τ 13) (.int .i64 (-1)) s.H) s <| .mk fun s =>
  @sMv 15 14 s <| .mk fun s =>
  @sGm 16 1 15 false s <| .mk fun s =>
  @sGo 17 15 false s (fun s => (xBin .eql false (s.τ 16) (.int .i64 (-1)) s.H)) <| .mk fun s =>
  @sOp (some 18) (xPick (s.τ 15) (.bool true) (s.τ 17) s.H) s <| .mk fun s =>
  @sIf (s.τ 18) ⟨W49_b6 Φ s⟩ ⟨W49_b9 Φ s⟩
def W49 (Φ : EP) (s : St) : Prop :=
  @sOp (some 4) (xMov (.int .i64 0) s.H) s <| .mk fun s =>
  @sOp (some 5) (xMov (.int .i64 0) s.H) s <| .mk fun s =>
  @sMv 7 0 s <| .mk fun s =>
  @sOp (some 8) (xBin .eql false (s.τ 7) (.int .i64 0) s.H) s <| .mk fun s =>
  @sMv 9 8 s <| .mk fun s =>
  @sGm 10 1 9 false s <| .mk fun s =>
  @sGo 11 9 false s (fun s => (xBin .eql false (s.τ 10) (.int .i64 0) s.H)) <| .mk fun s =>
  @sOp (some 12) (xPick (s.τ 9) (.bool true) (s.τ 11) s.H) s <| .mk fun s =>
  @sIf (s.τ 12) ⟨W49_b1 Φ s⟩ ⟨W49_b12 Φ s⟩
theorem W49_rs (τ : Nat → AV) (H : Heap) : resV Try.prog τ H [.tmp 4, .tmp 5] = ob (ob (some (τ 4)) fun v => ob (ob (some (τ 5)) fun v => ob (some []) fun vs => some (v :: vs)) fun vs => some (v :: vs)) fun vs => some (.tup vs) := by kernel_rfl
theorem W49_eq (Φ : EP) (s : St) : awp Try.prog (Try.f49.body.getD .skip) Φ s = W49 Φ s := by kernel_rfl
theorem W49_S {args : List AV} {r : AV} (hl : args.length ≤ 37) (h : ∀ vs, W49 (retK Try.prog [.tmp 4, .tmp 5] r) ⟨Am.look (argT 0 args), hls [] vs, noG⟩) : Am.Spec Try.prog 49 args r := .of_W (W := W49) Try.func49 (by kernel_rfl) (by kernel_rfl) (by kernel_rfl) Try.ntmps49 W49_eq (by kernel_rfl) hl h

-- 50 "penance/expr.two"
def W50_b2 (Φ : EP) (s : St) : Prop :=
  @sMv 11 1 s <| .mk fun s =>
  @sMv 12 2 s <| .mk fun s =>
  @sCall Try.prog (.func 49 []) [(s.τ 11), (s.τ 12)] (some 13) s <| .mk fun s =>
  @sOp (some 14) (xExt (s.τ 13) 0 s.H) s <| .mk fun s =>
  @sOp (some 15) (xExt (s.τ 13) 1 s.H) s <| .mk fun s =>
  @sMv 6 14 s <| .mk fun s =>
  @sMv 7 15 s <| .mk fun s =>
  Φ .ret s
def W50_b4 (Φ : EP) (s : St) : Prop :=
  @sMv 18 1 s <| .mk fun s =>
  @sMv 19 2 s <| .mk fun s =>
  @sCall Try.prog (.func 64 []) [(s.τ 18), (s.τ 19)] (some 20) s <| .mk fun s =>
  @sOp (some 21) (xExt (s.τ 20) 0 s.H) s <| .mk fun s =>
  @sOp (some 22) (xExt (s.τ 20) 1 s.H) s <| .mk fun s =>
  @sMv 6 21 s <| .mk fun s =>
  @sMv 7 22 s <| .mk fun s =>
  Φ .ret s
def W50_b5 (Φ : EP) (s : St) : Prop :=
  @sOp (some 6) (xMov (.int .i64 0) s.H) s <| .mk fun s =>
  @sOp (some 7) (xMov (.int .i64 8) s.H) s <| .mk fun s =>
  Φ .ret s
def W50_b6 (Φ : EP) (s : St) : Prop :=
  @sMv 29 1 s <| .mk fun s =>
  @sMv 30 2 s <| .mk fun s =>
  @sOp (some 31) (xBin .sub false (s.τ 29) (s.τ 30) s.H) s <| .mk fun s =>
  @sMv 6 31 s <| .mk fun s =>
  @sOp (some 7) (xMov (.int .i64 0) s.H) s <| .mk fun s =>
  Φ .ret s
def W50_b7 (Φ : EP) (s : St) : Prop :=
  @sMv 27 1 s <| .mk fun s =>
  @sOp (some 28) (xBin .geq false (s.τ 27) (.int .i64 0) s.H) s <| .mk fun s =>
  @sIf (s.τ 28) ⟨W50_b5 Φ s⟩ ⟨W50_b6 Φ s⟩
def W50_b9 (Φ : EP) (s : St) : Prop :=
  @sMv 32 1 s <| .mk fun s =>
  @sMv 33 2 s <| .mk fun s =>
  @sOp (some 34) (xNeg (s.τ 33) s.H) s <| .mk fun s =>
  @sCall Try.prog (.func 64 []) [(s.τ 32), (s.τ 34)] (some 35) s <| .mk fun s =>
  @sOp (some 36) (xExt (s.τ 35) 0 s.H) s <| .mk fun s =>
  @sOp (some 37) (xExt (s.τ 35) 1 s.H) s <| .mk fun s =>
  @sMv 6 36 s <| .mk fun s =>
  @sMv 7 37 s <| .mk fun s =>
  Φ .ret s
def W50_b10 (Φ : EP) (s : St) : Prop :=
  @sMv 25 2 s <| .mk fun s =>
  @sOp (some 26) (xBin .eql false (s.τ 25) (.int .i64 (-9223372036854775808)) s.H) s <| .mk fun s =>
  @sIf (s.τ 26) ⟨W50_b7 Φ s⟩ ⟨W50_b9 Φ s⟩
def W50_b11 (Φ : EP) (s : St) : Prop :=
  @sOp (some 6) (xMov (.int .i64 0) s.H) s <| .mk fun s =>
  @sOp (some 7) (xMov (.int .i64 9) s.H) s <| .mk fun s =>
  Φ .ret s
def W50_b12 (Φ : EP) (s : St) : Prop :=
  @sOp (some 6) (xMov (.int .i64 0) s.H) s <| .mk fun s =>
  @sOp (some 7) (xMov (.int .i64 0) s.H) s <| .mk fun s =>
  Φ .ret s
def W50_b14 (Φ : EP) (s : St) : Prop :=
  @sMv 54 1 s <| .mk fun s =>
  @sMv 55 2 s <| .mk fun s =>
  @sCall Try.prog (.func 49 []) [(s.τ 54), (s.τ 55)] (some 56) s <| .mk fun s =>
  @sOp (some 57) (xExt (s.τ 56) 0 s.H) s <| .mk fun s =>
  @sOp (some 58) (xExt (s.τ 56) 1 s.H) s <| .mk fun s =>
  @sMv 6 57 s <| .mk fun s =>
  @sMv 7 58 s <| .mk fun s =>
  Φ .ret s
def W50_b15 (Φ : EP) (s : St) : Prop :=
  @sMv 62 1 s <| .mk fun s =>
  @sMv 63 2 s <| .mk fun s =>
  @sOp (some 64) (xBin .rem false (s.τ 62) (s.τ 63) s.H) s <| .mk fun s =>
  @sMv 6 64 s <| .mk fun s =>
  @sOp (some 7) (xMov (.int .i64 0) s.H) s <| .mk fun s =>
  Φ .ret s
def W50_b16 (Φ : EP) (s : St) : Prop :=
  @sMv 65 1 s <| .mk fun s =>
  @sMv 66 2 s <| .mk fun s =>
  @sOp (some 67) (xBin .quo false (s.τ 65) (s.τ 66) s.H) s <| .mk fun s =>
  @sMv 6 67 s <| .mk fun s =>
  @sOp (some 7) (xMov (.int .i64 0) s.H) s <| .mk fun s =>
  Φ .ret s
def W50_b17 (Φ : EP) (s : St) : Prop :=
  @sMv 60 0 s <| .mk fun s =>
  @sOp (some 61) (xBin .eql false (s.τ 60) (.int .i64 7) s.H) s <| .mk fun s =>
  @sMv 59 61 s <| .mk fun s =>
  @sIf (s.τ 59) ⟨W50_b15 Φ s⟩ ⟨W50_b16 Φ s⟩
def W50_b18 (Φ : EP) (s : St) : Prop :=
  @sMv 52 2 s <| .mk fun s =>
  @sOp (some 53) (xBin .eql false (s.τ 52) (.int .i64 (-1)) s.H) s <| .mk fun s =>
  @sMv 51 53 s <| .mk fun s =>
  @sIf (s.τ 51) ⟨W50_b14 Φ s⟩ ⟨W50_b17 Φ s⟩
def W50_b21 (Φ : EP) (s : St) : Prop :=
  @sMv 45 2 s <| .mk fun s =>
  @sOp (some 46) (xBin .eql false (s.τ 45) (.int .i64 (-1)) s.H) s <| .mk fun s =>
  @sMv 47 46 s <| .mk fun s =>
  @sGm 48 0 47 true s <| .mk fun s =>
  @sGo 49 47 true s (fun s => (xBin .eql false (s.τ 48) (.int .i64 7) s.H)) <| .mk fun s =>
  @sOp (some 50) (xPick (s.τ 47) (s.τ 49) (.bool false) s.H) s <| .mk fun s =>
  @sMv 44 50 s <| .mk fun s =>
  @sIf (s.τ 44) ⟨W50_b12 Φ s⟩ ⟨W50_b18 Φ s⟩
def W50_b22 (Φ : EP) (s : St) : Prop :=
  @sMv 42 2 s <| .mk fun s =>
  @sOp (some 43) (xBin .eql false (s.τ 42) (.int .i64 0) s.H) s <| .mk fun s =>
  @sMv 41 43 s <| .mk fun s =>
  @sIf (s.τ 41) ⟨W50_b11 Φ s⟩ ⟨W50_b21 Φ s⟩
def W50_b24 (Φ : EP) (s : St) : Prop :=
  @sMv 70 1 s <| .mk fun s =>
  @sMv 71 2 s <| .mk fun s =>
  @sOp (some 72) (xBin .eql false (s.τ 70) (s.τ 71) s.H) s <| .mk fun s =>
  @sCall Try.prog (.func 48 []) [(s.τ 72)] (some 73) s <| .mk fun s =>
  @sMv 6 73 s <| .mk fun s =>
  @sOp (some 7) (xMov (.int .i64 0) s.H) s <| .mk fun s =>
  Φ .ret s
def W50_b26 (Φ : EP) (s : St) : Prop :=
  @sMv 76 1 s <| .mk fun s =>
  @sMv 77 2 s <| .mk fun s =>
  @sOp (some 78) (xBin .neq false (s.τ 76) (s.τ 77) s.H) s <| .mk fun s =>
  @sCall Try.prog (.func 48 []) [(s.τ 78)] (some 79) s <| .mk fun s =>
  @sMv 6 79 s <| .mk fun s =>
  @sOp (some 7) (xMov (.int .i64 0) s.H) s <| .mk fun s =>
  Φ .ret s
def W50_b28 (Φ : EP) (s : St) : Prop :=
  @sMv 82 1 s <| .mk fun s =>
  @sMv 83 2 s <| .mk fun s =>
  @sOp (some 84) (xBin .lss false (s.τ 82) (s.τ 83) s.H) s <| .mk fun s =>
  @sCall Try.prog (.func 48 []) [(s.τ 84)] (some 85) s <| .mk fun s =>
  @sMv 6 85 s <| .mk fun s =>
  @sOp (some 7) (xMov (.int .i64 0) s.H) s <| .mk fun s =>
  Φ .ret s
def W50_b30 (Φ : EP) (s : St) : Prop :=
  @sMv 88 1 s <| .mk fun s =>
  @sMv 89 2 s <| .mk fun s =>
  @sOp (some 90) (xBin .leq false (s.τ 88) (s.τ 89) s.H) s <| .mk fun s =>
  @sCall Try.prog (.func 48 []) [(s.τ 90)] (some 91) s <| .mk fun s =>
  @sMv 6 91 s <| .mk fun s =>
  @sOp (some 7) (xMov (.int .i64 0) s.H) s <| .mk fun s =>
  Φ .ret s
def W50_b32 (Φ : EP) (s : St) : Prop :=
  @sMv 94 1 s <| .mk fun s =>
  @sMv 95 2 s <| .mk fun s =>
  @sOp (some 96) (xBin .gtr false (s.τ 94) (s.τ 95) s.H) s <| .mk fun s =>
  @sCall Try.prog (.func 48 []) [(s.τ 96)] (some 97) s <| .mk fun s =>
  @sMv 6 97 s <| .mk fun s =>
  @sOp (some 7) (xMov (.int .i64 0) s.H) s <| .mk fun s =>
  Φ .ret s
def W50_b34 (Φ : EP) (s : St) : Prop :=
  @sMv 98 1 s <| .mk fun s =>
  @sMv 99 2 s <| .mk fun s =>
  @sOp (some 100) (xBin .geq false (s.τ 98) (s.τ 99) s.H) s <| .mk fun s =>
  @sCall Try.prog (.func 48 []) [(s.τ 100)] (some 101) s <| .mk fun s =>
  @sMv 6 101 s <| .mk fun s =>
  @sOp (some 7) (xMov (.int .i64 0) s.H) s <| .mk fun s =>
  Φ .ret s
def W50_b35 (Φ : EP) (s : St) : Prop :=
  @sOp (some 93) (xBin .eql false (s.τ 8) (.int .i64 14) s.H) s <| .mk fun s =>
  @sMv 92 93 s <| .mk fun s =>
  @sIf (s.τ 92) ⟨W50_b32 Φ s⟩ ⟨W50_b34 Φ s⟩
def W50_b36 (Φ : EP) (s : St) : Prop :=
  @sOp (some 87) (xBin .eql false (s.τ 8) (.int .i64 13) s.H) s <| .mk fun s =>
  @sMv 86 87 s <| .mk fun s =>
  @sIf (s.τ 86) ⟨W50_b30 Φ s⟩ ⟨W50_b35 Φ s⟩
def W50_b37 (Φ : EP) (s : St) : Prop :=
  @sOp (some 81) (xBin .eql false (s.τ 8) (.int .i64 12) s.H) s <| .mk fun s =>
  @sMv 80 81 s <| .mk fun s =>
  @sIf (s.τ 80) ⟨W50_b28 Φ s⟩ ⟨W50_b36 Φ s⟩
def W50_b38 (Φ : EP) (s : St) : Prop :=
  @sOp (some 75) (xBin .eql false (s.τ 8) (.int .i64 11) s.H) s <| .mk fun s =>
  @sMv 74 75 s <| .mk fun s =>
  @sIf (s.τ 74) ⟨W50_b26 Φ s⟩ ⟨W50_b37 Φ s⟩
def W50_b39 (Φ : EP) (s : St) : Prop :=
  @sOp (some 69) (xBin .eql false (s.τ 8) (.int .i64 10) s.H) s <| .mk fun s =>
  @sMv 68 69 s <| .mk fun s =>
  @sIf (s.τ 68) ⟨W50_b24 Φ s⟩ ⟨W50_b38 Φ s⟩
def W50_k40 (Φ : EP) (s : St) : Prop :=
  @sIf (s.τ 38) ⟨W50_b22 Φ s⟩ ⟨W50_b39 Φ s⟩
def W50_b41 (Φ : EP) (s : St) : Prop :=
  @sOp (some 40) (xBin .eql false (s.τ 8) (.int .i64 7) s.H) s <| .mk fun s =>
  @sMv 38 40 s <| .mk fun s =>
  W50_k40 Φ s
def W50_b42 (Φ : EP) (s : St) : Prop :=
  @sOp (some 39) (xBin .eql false (s.τ 8) (.int .i64 6) s.H) s <| .mk fun s =>
  @sMv 38 39 s <| .mk fun s =>
  @sIf (s.τ 38) ⟨W50_k40 Φ s⟩ ⟨W50_b41 Φ s⟩
def W50_b43 (Φ : EP) (s : St) : Prop :=
  @sOp (some 24) (xBin .eql false (s.τ 8) (.int .i64 9) s.H) s <| .mk fun s =>
  @sMv 23 24 s <| .mk fun s =>
  @sIf (s.τ 23) ⟨W50_b10 Φ s⟩ ⟨W50_b42 Φ s⟩
def W50_b44 (Φ : EP) (s : St) : Prop :=
  @sOp (some 17) (xBin .eql false (s.τ 8) (.int .i64 8) s.H) s <| .mk fun s =>
  @sMv 16 17 s <| .mk fun s =>
  @sIf (s.τ 16) ⟨W50_b4 Φ s⟩ ⟨W50_b43 Φ s⟩
def W50 (Φ : EP) (s : St) : Prop :=
  @sOp (some 6) (xMov (.int .i64 0) s.H) s <| .mk fun s =>
  @sOp (some 7) (xMov (.int .i64 0) s.H) s <| .mk fun s =>
  @sMv 8 0 s <| .mk fun s =>
  @sOp (some 10) (xBin .eql false (s.τ 8) (.int .i64 5) s.H) s <| .mk fun s =>
  @sMv 9 10 s <| .mk fun s =>
  @sIf (s.τ 9) ⟨W50_b2 Φ s⟩ ⟨W50_b44 Φ s⟩
theorem W50_rs (τ : Nat → AV) (H : Heap) : resV Try.prog τ H [.tmp 6, .tmp 7] = ob (ob (some (τ 6)) fun v => ob (ob (some (τ 7)) fun v => ob (some []) fun vs => some (v :: vs)) fun vs => some (v :: vs)) fun vs => some (.tup vs) := by kernel_rfl
theorem W50_eq (Φ : EP) (s : St) : awp Try.prog (Try.f50.body.getD .skip) Φ s = W50 Φ s := by kernel_rfl
theorem W50_S {args : List AV} {r : AV} (hl : args.length ≤ 102) (h : ∀ vs, W50 (retK Try.prog [.tmp 6, .tmp 7] r) ⟨Am.look (argT 0 args), hls [] vs, noG⟩) : Am.Spec Try.prog 50 args r := .of_W (W := W50) Try.func50 (by kernel_rfl) (by kernel_rfl) (by kernel_rfl) Try.ntmps50 W50_eq (by kernel_rfl) hl h

-- 51 "penance/stacks.ownTerm"

def W51 (Φ : EP) (s : St) : Prop :=
  @sOp (some 1) (xBox 1 29 (s.τ 0) s.H) s <| .mk fun s =>
  @sOp (some 2) (xAlloc 2 29 [.int .i64 0, .int .i64 0, .int .i64 0, .str ⟨#[]⟩, .int .i64 0, .int .i64 0, .str ⟨#[]⟩, .nils, .nils] s.H) s <| .mk fun s =>
  @sFl 3 4 1 s <| .mk fun u1 =>
  @sLd 4 4 3 true u1 <| .mk fun u2 =>
  @sCall0 Try.prog (.func 65 []) [(u2.τ 4)] (some 5) u2 <| .mk fun u3 =>
  @sChk (compat (cfp 5 65 [(u2.τ 4)]) (occ (u3.τ 1), [])) <| .mk <|
  @sFl 6 8 1 u3 <| .mk fun u4 =>
  @sChk (compat (cfp 5 65 [(u2.τ 4)]) (occ (u4.τ 6), [])) <| .mk <|
  @sLd 7 1 6 false u4 <| .mk fun u5 =>
  @sCall0 Try.prog (.func 60 []) [(u5.τ 7), (.func 51 [])] (some 8) u5 <| .mk fun u6 =>
  @sChk (compat ([8] ++ (occ (.func 60 []) ++ occL [(u5.τ 7), (.func 51 [])]), [8] ++ (occ (.func 60 []) ++ occL [(u5.τ 7), (.func 51 [])])) (occ (u6.τ 1), [])) <| .mk <|
  @sFl 9 4 1 u6 <| .mk fun u7 =>
  @sOp none (xStore 4 (u7.τ 9) (u7.τ 5) u7.H) u7 <| .mk fun u8 =>
  @sFl 10 8 1 u8 <| .mk fun u9 =>
  @sOp none (xStore 1 (u9.τ 10) (u9.τ 8) u9.H) u9 <| .mk fun s =>
  @sLd 11 9 1 true s <| .mk fun s =>
  @sOp none (xStore 9 (s.τ 2) (s.τ 11) s.H) s <| .mk fun s =>
  Φ .ret s
theorem W51_rs (τ : Nat → AV) (H : Heap) : resV Try.prog τ H [.cell 2 29] = rdV H 9 true (τ 2) := by kernel_rfl
theorem W51_eq (Φ : EP) (s : St) : awp Try.prog (Try.f51.body.getD .skip) Φ s = W51 Φ s := by kernel_rfl
theorem W51_S {args : List AV} {r : AV} (hl : args.length ≤ 12) (h : ∀ vs, W51 (retK Try.prog [.cell 2 29] r) ⟨Am.look (argT 0 args), hls [] vs, noG⟩) : Am.Spec Try.prog 51 args r := .of_W (W := W51) Try.func51 (by kernel_rfl) (by kernel_rfl) (by kernel_rfl) Try.ntmps51 W51_eq (by kernel_rfl) hl h

-- 52 "slices.Clone[[]penance/api.Term,penance/api.Term]"
def W52_b1 (Φ : EP) (s : St) : Prop :=
  @sOp (some 2) (xMov (.nils) s.H) s <| .mk fun s =>
  Φ .ret s
def W52_b2 (Φ : EP) (s : St) : Prop :=
  @sOp (some 5) (xRow 5 29 9 0 [.int .i64 0, .int .i64 0, .int .i64 0, .str ⟨#[]⟩, .int .i64 0, .int .i64 0, .str ⟨#[]⟩, .nils, .nils] [] s.H) s <| .mk fun s =>
  @sMv 6 0 s <| .mk fun s =>
  @sOp (some 7) (xApp Try.prog 29 9 120 (some 7) (s.τ 5) (s.τ 6) s.H) s <| .mk fun s =>
  @sMv 2 7 s <| .mk fun s =>
  Φ .ret s
def W52 (Φ : EP) (s : St) : Prop :=
  @sOp (some 2) (xMov (.nils) s.H) s <| .mk fun s =>
  @sMv 3 0 s <| .mk fun s =>
  @sNil false (s.τ 3) (some 4) s <| .mk fun s =>
  @sIf (s.τ 4) ⟨W52_b1 Φ s⟩ ⟨W52_b2 Φ s⟩
theorem W52_rs (τ : Nat → AV) (H : Heap) : resV Try.prog τ H [.tmp 2] = some (τ 2) := by kernel_rfl
theorem W52_eq (Φ : EP) (s : St) : awp Try.prog (Try.f52.body.getD .skip) Φ s = W52 Φ s := by kernel_rfl
theorem W52_S {args : List AV} {r : AV} (hl : args.length ≤ 8) (h : ∀ vs, W52 (retK Try.prog [.tmp 2] r) ⟨Am.look (argT 0 args), hls [] vs, noG⟩) : Am.Spec Try.prog 52 args r := .of_W (W := W52) Try.func52 (by kernel_rfl) (by kernel_rfl) (by kernel_rfl) Try.ntmps52 W52_eq (by kernel_rfl) hl h

-- 55 "penance/run.nodes"

def W55 (Φ : EP) (s : St) : Prop :=
  @sOp (some 1) (xBox 1 29 (s.τ 0) s.H) s <| .mk fun s =>
  @sOp (some 2) (xMov (.nilf) s.H) s <| .mk fun s =>
  @sOp (some 3) (xMkf 66 [(s.τ 1)] s.H) s <| .mk fun s =>
  @sMv 2 3 s <| .mk fun s =>
  Φ .ret s
theorem W55_rs (τ : Nat → AV) (H : Heap) : resV Try.prog τ H [.tmp 2] = some (τ 2) := by kernel_rfl
theorem W55_eq (Φ : EP) (s : St) : awp Try.prog (Try.f55.body.getD .skip) Φ s = W55 Φ s := by kernel_rfl
theorem W55_S {args : List AV} {r : AV} (hl : args.length ≤ 4) (h : ∀ vs, W55 (retK Try.prog [.tmp 2] r) ⟨Am.look (argT 0 args), hls [] vs, noG⟩) : Am.Spec Try.prog 55 args r := .of_W (W := W55) Try.func55 (by kernel_rfl) (by kernel_rfl) (by kernel_rfl) Try.ntmps55 W55_eq (by kernel_rfl) hl h

-- 56 "(penance/term.bounds).right"
def W56_b1 (Φ : EP) (s : St) : Prop :=
  @sOp (some 6) (xMov (.bool false) s.H) s <| .mk fun s =>
  Φ .ret s
def W56_b2 (Φ : EP) (s : St) : Prop :=
  @sOp (some 6) (xMov (.bool false) s.H) s <| .mk fun s =>
  Φ .ret s
def W56_k3 (Φ : EP) (s : St) : Prop :=
  @sOp (some 6) (xMov (.bool true) s.H) s <| .mk fun s =>
  Φ .ret s
def W56_b4 (Φ : EP) (L0 : SP) (s : St) : Prop :=
  @sOp (some 6) (xMov (.bool false) s.H) s <| .mk fun s =>
  Φ .ret s
def W56_b5 (Φ : EP) (L0 : SP) (s : St) : Prop :=
  @sOp (some 93) (xBin .add false (s.τ 79) (.int .i64 1) s.H) s <| .mk fun s =>
  @sMv 79 93 s <| .mk fun s =>
  L0 s
def W56_b10 (Φ : EP) (L0 : SP) (s : St) : Prop :=
  @sOp (some 81) (xIx 9 (s.τ 77) (s.τ 79) s.H) s <| .mk fun s =>
  @sLd 82 9 81 true s <| .mk fun s =>
  @sOp (some 10) (xAlloc 10 29 [.int .i64 0, .int .i64 0, .int .i64 0, .str ⟨#[]⟩, .int .i64 0, .int .i64 0, .str ⟨#[]⟩, .nils, .nils] s.H) s <| .mk fun s =>
  @sOp none (xStore 9 (s.τ 10) (s.τ 82) s.H) s <| .mk fun s =>
  @sLd 83 3 3 true s <| .mk fun s =>
  @sLd 84 9 10 true s <| .mk fun s =>
  @sMv 85 2 s <| .mk fun s =>
  @sMv 86 85 s <| .mk fun s =>
  @sGf 87 0 4 86 false s <| .mk fun s =>
  @sGl 88 1 87 86 false false s <| .mk fun s =>
  @sGo 89 86 false s (fun s => (xBin .eql false (s.τ 88) (.int .i64 3) s.H)) <| .mk fun s =>
  @sOp (some 90) (xPick (s.τ 86) (.bool true) (s.τ 89) s.H) s <| .mk fun s =>
  @sCall Try.prog (.func 56 []) [(s.τ 83), (s.τ 84), (s.τ 90)] (some 91) s <| .mk fun s =>
  @sOp (some 92) (xNot (s.τ 91) s.H) s <| .mk fun s =>
  @sIf (s.τ 92) ⟨W56_b4 Φ L0 s⟩ ⟨W56_b5 Φ L0 s⟩
def W56_l11 (Φ : EP) (L0 : SP) (s : St) : Prop :=
  @sOp (some 80) (xBin .lss false (s.τ 79) (s.τ 78) s.H) s <| .mk fun s =>
  @sIf (s.τ 80) ⟨W56_b10 Φ L0 s⟩ ⟨W56_k3 Φ s⟩
def W56_b12 (Φ : EP) (s : St) : Prop :=
  @sFl 76 8 4 s <| .mk fun s =>
  @sLd 77 1 76 false s <| .mk fun s =>
  @sOp (some 78) (xLen (s.τ 77) s.H) s <| .mk fun s =>
  @sOp (some 79) (xMov (.int .i64 0) s.H) s <| .mk fun s =>
  @sLoop s ⟨fun L0 s => W56_l11 Φ L0 s⟩
def W56_k13 (Φ : EP) (s : St) : Prop :=
  @sLd 73 5 8 true s <| .mk fun s =>
  @sOp (some 74) (xBuild [.bool false, .bool false, .bool false, .bool false, .bool false] [(0, 1, (.bool true)), (1, 1, (.bool true)), (2, 1, (.bool true)), (3, 1, (.bool true)), (4, 1, (.bool true))] s.H) s <| .mk fun s =>
  @sOp (some 75) (xEq true [(0, .bool), (1, .bool), (2, .bool), (3, .bool), (4, .bool)] (s.τ 73) (s.τ 74) s.H) s <| .mk fun s =>
  @sIf (s.τ 75) ⟨W56_b2 Φ s⟩ ⟨W56_b12 Φ s⟩
def W56_b15 (Φ : EP) (s : St) : Prop :=
  @sFl 67 4 4 s <| .mk fun s =>
  @sLd 68 4 67 true s <| .mk fun s =>
  @sFl 69 0 3 s <| .mk fun s =>
  @sLd 70 1 69 false s <| .mk fun s =>
  @sCall Try.prog (.func 72 []) [(s.τ 68), (s.τ 70)] (some 71) s <| .mk fun s =>
  @sOp (some 72) (xIxA 5 1 (s.τ 8) (.int .i64 4) s.H) s <| .mk fun s =>
  @sOp none (xStore 1 (s.τ 72) (s.τ 71) s.H) s <| .mk fun s =>
  W56_k13 Φ s
def W56_k16 (Φ : EP) (s : St) : Prop :=
  @sFl 65 3 7 s <| .mk fun s =>
  @sLd 66 1 65 false s <| .mk fun s =>
  @sIf (s.τ 66) ⟨W56_b15 Φ s⟩ ⟨W56_k13 Φ s⟩
def W56_b18 (Φ : EP) (s : St) : Prop :=
  @sFl 61 3 4 s <| .mk fun s =>
  @sLd 62 1 61 false s <| .mk fun s =>
  @sCall Try.prog (.func 71 []) [(s.τ 62)] (some 63) s <| .mk fun s =>
  @sOp (some 64) (xIxA 5 1 (s.τ 8) (.int .i64 3) s.H) s <| .mk fun s =>
  @sOp none (xStore 1 (s.τ 64) (s.τ 63) s.H) s <| .mk fun s =>
  W56_k16 Φ s
def W56_b23 (Φ : EP) (s : St) : Prop :=
  @sCall0 Try.prog (.func 68 []) [] (some 29) s <| .mk fun u1 =>
  @sChk (compat (cfp 29 68 []) (occ (u1.τ 4), [])) <| .mk <|
  @sFl 30 0 4 u1 <| .mk fun u2 =>
  @sChk (compat (cfp 29 68 []) (occ (u2.τ 30), [])) <| .mk <|
  @sLd 31 1 30 false u2 <| .mk fun u3 =>
  @sOp (some 32) (xIx 5 (u3.τ 29) (u3.τ 31) u3.H) u3 <| .mk fun u4 =>
  @sLd 33 5 32 true u4 <| .mk fun u5 =>
  @sChk (compat (cfp 29 68 []) ([7], [7])) <| .mk <|
  @sChk (compat (occ (u1.τ 4), []) ([7], [7])) <| .mk <|
  @sChk (compat (occ (u2.τ 30), []) ([7], [7])) <| .mk <|
  @sChk (compat (occ (u3.τ 29), []) ([7], [7])) <| .mk <|
  @sChk (compat (occ (u4.τ 32), []) ([7], [7])) <| .mk <|
  @sOp (some 7) (xAlloc 7 109 [.int .i64 0, .int .i64 0, .bool false, .bool false, .int .i64 0] u5.H) u5 <| .mk fun u6 =>
  @sOp none (xStore 5 (u6.τ 7) (u6.τ 33) u6.H) u6 <| .mk fun s =>
  @sLd 34 3 3 true s <| .mk fun u1 =>
  @sFl 35 0 7 u1 <| .mk fun u2 =>
  @sLd 36 1 35 false u2 <| .mk fun u3 =>
  @sFl 37 1 4 u3 <| .mk fun u4 =>
  @sLd 38 1 37 false u4 <| .mk fun u5 =>
  @sCall0 Try.prog (.func 69 []) [(u5.τ 34), (u5.τ 36), (u5.τ 38)] (some 39) u5 <| .mk fun u6 =>
  @sChk (compat (cfp 39 69 [(u5.τ 34), (u5.τ 36), (u5.τ 38)]) (occ (u6.τ 3), [])) <| .mk <|
  @sLd 40 3 3 true u6 <| .mk fun u7 =>
  @sChk (compat (cfp 39 69 [(u5.τ 34), (u5.τ 36), (u5.τ 38)]) (occ (u7.τ 7), [])) <| .mk <|
  @sFl 41 1 7 u7 <| .mk fun u8 =>
  @sChk (compat (cfp 39 69 [(u5.τ 34), (u5.τ 36), (u5.τ 38)]) (occ (u8.τ 41), [])) <| .mk <|
  @sLd 42 1 41 false u8 <| .mk fun u9 =>
  @sChk (compat (cfp 39 69 [(u5.τ 34), (u5.τ 36), (u5.τ 38)]) (occ (u9.τ 4), [])) <| .mk <|
  @sFl 43 2 4 u9 <| .mk fun u10 =>
  @sChk (compat (cfp 39 69 [(u5.τ 34), (u5.τ 36), (u5.τ 38)]) (occ (u10.τ 43), [])) <| .mk <|
  @sLd 44 1 43 false u10 <| .mk fun u11 =>
  @sCall0 Try.prog (.func 69 []) [(u11.τ 40), (u11.τ 42), (u11.τ 44)] (some 45) u11 <| .mk fun u12 =>
  @sChk (compat (cfp 39 69 [(u5.τ 34), (u5.τ 36), (u5.τ 38)]) (occ (u12.τ 4), [])) <| .mk <|
  @sChk (compat (cfp 45 69 [(u11.τ 40), (u11.τ 42), (u11.τ 44)]) (occ (u12.τ 4), [])) <| .mk <|
  @sFl 46 8 4 u12 <| .mk fun u13 =>
  @sChk (compat (cfp 39 69 [(u5.τ 34), (u5.τ 36), (u5.τ 38)]) (occ (u13.τ 46), [])) <| .mk <|
  @sChk (compat (cfp 45 69 [(u11.τ 40), (u11.τ 42), (u11.τ 44)]) (occ (u13.τ 46), [])) <| .mk <|
  @sLd 47 1 46 false u13 <| .mk fun u14 =>
  @sChk (compat (cfp 39 69 [(u5.τ 34), (u5.τ 36), (u5.τ 38)]) (occ (u14.τ 47), [])) <| .mk <|
  @sChk (compat (cfp 45 69 [(u11.τ 40), (u11.τ 42), (u11.τ 44)]) (occ (u14.τ 47), [])) <| .mk <|
  @sOp (some 48) (xLen (u14.τ 47) u14.H) u14 <| .mk fun u15 =>
  @sChk (compat (cfp 39 69 [(u5.τ 34), (u5.τ 36), (u5.τ 38)]) (occ (u15.τ 7), [])) <| .mk <|
  @sChk (compat (cfp 45 69 [(u11.τ 40), (u11.τ 42), (u11.τ 44)]) (occ (u15.τ 7), [])) <| .mk <|
  @sFl 49 4 7 u15 <| .mk fun u16 =>
  @sChk (compat (cfp 39 69 [(u5.τ 34), (u5.τ 36), (u5.τ 38)]) (occ (u16.τ 49), [])) <| .mk <|
  @sChk (compat (cfp 45 69 [(u11.τ 40), (u11.τ 42), (u11.τ 44)]) (occ (u16.τ 49), [])) <| .mk <|
  @sLd 50 1 49 false u16 <| .mk fun u17 =>
  @sOp (some 51) (xBin .eql false (u17.τ 48) (u17.τ 50) u17.H) u17 <| .mk fun u18 =>
  @sChk (compat (cfp 39 69 [(u5.τ 34), (u5.τ 36), (u5.τ 38)]) (occ (u18.τ 4), [])) <| .mk <|
  @sChk (compat (cfp 45 69 [(u11.τ 40), (u11.τ 42), (u11.τ 44)]) (occ (u18.τ 4), [])) <| .mk <|
  @sFl 52 3 4 u18 <| .mk fun u19 =>
  @sChk (compat (cfp 39 69 [(u5.τ 34), (u5.τ 36), (u5.τ 38)]) (occ (u19.τ 52), [])) <| .mk <|
  @sChk (compat (cfp 45 69 [(u11.τ 40), (u11.τ 42), (u11.τ 44)]) (occ (u19.τ 52), [])) <| .mk <|
  @sLd 53 1 52 false u19 <| .mk fun u20 =>
  @sOp (some 54) (xBin .eql false (u20.τ 53) (.str ⟨#[]⟩) u20.H) u20 <| .mk fun u21 =>
  @sChk (compat (cfp 39 69 [(u5.τ 34), (u5.τ 36), (u5.τ 38)]) (occ (u21.τ 4), [])) <| .mk <|
  @sChk (compat (cfp 45 69 [(u11.τ 40), (u11.τ 42), (u11.τ 44)]) (occ (u21.τ 4), [])) <| .mk <|
  @sFl 55 4 4 u21 <| .mk fun u22 =>
  @sChk (compat (cfp 39 69 [(u5.τ 34), (u5.τ 36), (u5.τ 38)]) (occ (u22.τ 55), [])) <| .mk <|
  @sChk (compat (cfp 45 69 [(u11.τ 40), (u11.τ 42), (u11.τ 44)]) (occ (u22.τ 55), [])) <| .mk <|
  @sLd 56 4 55 true u22 <| .mk fun u23 =>
  @sChk (compat (occ (u12.τ 4), []) (cfp 57 70 [(u23.τ 56)])) <| .mk <|
  @sChk (compat (occ (u13.τ 46), []) (cfp 57 70 [(u23.τ 56)])) <| .mk <|
  @sChk (compat (occ (u14.τ 47), []) (cfp 57 70 [(u23.τ 56)])) <| .mk <|
  @sChk (compat (occ (u15.τ 7), []) (cfp 57 70 [(u23.τ 56)])) <| .mk <|
  @sChk (compat (occ (u16.τ 49), []) (cfp 57 70 [(u23.τ 56)])) <| .mk <|
  @sChk (compat (occ (u18.τ 4), []) (cfp 57 70 [(u23.τ 56)])) <| .mk <|
  @sChk (compat (occ (u19.τ 52), []) (cfp 57 70 [(u23.τ 56)])) <| .mk <|
  @sCall0 Try.prog (.func 70 []) [(u23.τ 56)] (some 57) u23 <| .mk fun u24 =>
  @sOp (some 58) (xBuild [.bool false, .bool false, .bool false, .bool false, .bool false] [(0, 1, (u24.τ 39)), (1, 1, (u24.τ 45)), (2, 1, (u24.τ 51)), (3, 1, (u24.τ 54)), (4, 1, (u24.τ 57))] u24.H) u24 <| .mk fun u25 =>
  @sChk (compat (occ (s.τ 3), []) ([8], [8])) <| .mk <|
  @sChk (compat (occ (u1.τ 7), []) ([8], [8])) <| .mk <|
  @sChk (compat (occ (u2.τ 35), []) ([8], [8])) <| .mk <|
  @sChk (compat (occ (u3.τ 4), []) ([8], [8])) <| .mk <|
  @sChk (compat (occ (u4.τ 37), []) ([8], [8])) <| .mk <|
  @sChk (compat (cfp 39 69 [(u5.τ 34), (u5.τ 36), (u5.τ 38)]) ([8], [8])) <| .mk <|
  @sChk (compat (occ (u6.τ 3), []) ([8], [8])) <| .mk <|
  @sChk (compat (occ (u7.τ 7), []) ([8], [8])) <| .mk <|
  @sChk (compat (occ (u8.τ 41), []) ([8], [8])) <| .mk <|
  @sChk (compat (occ (u9.τ 4), []) ([8], [8])) <| .mk <|
  @sChk (compat (occ (u10.τ 43), []) ([8], [8])) <| .mk <|
  @sChk (compat (cfp 45 69 [(u11.τ 40), (u11.τ 42), (u11.τ 44)]) ([8], [8])) <| .mk <|
  @sChk (compat (occ (u12.τ 4), []) ([8], [8])) <| .mk <|
  @sChk (compat (occ (u13.τ 46), []) ([8], [8])) <| .mk <|
  @sChk (compat (occ (u14.τ 47), []) ([8], [8])) <| .mk <|
  @sChk (compat (occ (u15.τ 7), []) ([8], [8])) <| .mk <|
  @sChk (compat (occ (u16.τ 49), []) ([8], [8])) <| .mk <|
  @sChk (compat (occ (u18.τ 4), []) ([8], [8])) <| .mk <|
  @sChk (compat (occ (u19.τ 52), []) ([8], [8])) <| .mk <|
  @sChk (compat (occ (u21.τ 4), []) ([8], [8])) <| .mk <|
  @sChk (compat (occ (u22.τ 55), []) ([8], [8])) <| .mk <|
  @sChk (compat (cfp 57 70 [(u23.τ 56)]) ([8], [8])) <| .mk <|
  @sOp (some 8) (xAlloc 8 111 [.bool false, .bool false, .bool false, .bool false, .bool false] u25.H) u25 <| .mk fun u26 =>
  @sOp none (xStore 5 (u26.τ 8) (u26.τ 58) u26.H) u26 <| .mk fun s =>
  @sFl 59 2 7 s <| .mk fun s =>
  @sLd 60 1 59 false s <| .mk fun s =>
  @sIf (s.τ 60) ⟨W56_b18 Φ s⟩ ⟨W56_k16 Φ s⟩
def W56 (Φ : EP) (s : St) : Prop :=
  @sOp (some 3) (xBox 3 98 (s.τ 0) s.H) s <| .mk fun s =>
  @sOp (some 4) (xBox 4 29 (s.τ 1) s.H) s <| .mk fun s =>
  @sOp (some 6) (xMov (.bool false) s.H) s <| .mk fun s =>
  @sFl 11 0 4 s <| .mk fun u1 =>
  @sLd 12 1 11 false u1 <| .mk fun u2 =>
  @sOp (some 13) (xBin .lss false (u2.τ 12) (.int .i64 0) u2.H) u2 <| .mk fun u3 =>
  @sMv 14 13 u3 <| .mk fun u4 =>
  @sGf 15 0 4 14 false u4 <| .mk fun u5 =>
  @sGl 16 1 15 14 false false u5 <| .mk fun u6 =>
  @sChk (compat (occ (u4.τ 4), []) (cfp 17 68 [])) <| .mk <|
  @sChk (compat (occ (u5.τ 15), []) (cfp 17 68 [])) <| .mk <|
  @sGrd (guardOf (u6.τ 14) false) (some 17) u6 ⟨fun s K => @sCall0 Try.prog (.func 68 []) [] (some 17) s ⟨K⟩⟩ <| .mk fun u7 =>
  @sGo 18 14 false u7 (fun s => (xLen (s.τ 17) s.H)) <| .mk fun u8 =>
  @sGo 19 14 false u8 (fun s => (xBin .geq false (s.τ 16) (s.τ 18) s.H)) <| .mk fun u9 =>
  @sOp (some 20) (xPick (u9.τ 14) (.bool true) (u9.τ 19) u9.H) u9 <| .mk fun u10 =>
  @sMv 21 20 u10 <| .mk fun u11 =>
  @sGm 22 2 21 false u11 <| .mk fun u12 =>
  @sGm 23 22 21 false u12 <| .mk fun u13 =>
  @sGf 24 0 4 23 true u13 <| .mk fun u14 =>
  @sGl 25 1 24 23 false true u14 <| .mk fun u15 =>
  @sGo 26 23 true u15 (fun s => (xBin .eql false (s.τ 25) (.int .i64 14) s.H)) <| .mk fun u16 =>
  @sGo 27 21 false u16 (fun s => (xPick (s.τ 23) (s.τ 26) (.bool false) s.H)) <| .mk fun u17 =>
  @sOp (some 28) (xPick (u17.τ 21) (.bool true) (u17.τ 27) u17.H) u17 <| .mk fun s =>
  @sIf (s.τ 28) ⟨W56_b1 Φ s⟩ ⟨W56_b23 Φ s⟩
theorem W56_rs (τ : Nat → AV) (H : Heap) : resV Try.prog τ H [.tmp 6] = some (τ 6) := by kernel_rfl
theorem W56_eq (Φ : EP) (s : St) : awp Try.prog (Try.f56.body.getD .skip) Φ s = W56 Φ s := by kernel_rfl
theorem W56_S {args : List AV} {r : AV} (hl : args.length ≤ 94) (h : ∀ vs, W56 (retK Try.prog [.tmp 6] r) ⟨Am.look (argT 0 args), hls [] vs, noG⟩) : Am.Spec Try.prog 56 args r := .of_W (W := W56) Try.func56 (by kernel_rfl) (by kernel_rfl) (by kernel_rfl) Try.ntmps56 W56_eq (by kernel_rfl) hl h

-- 57 "penance/term.ownExpr"
def W57_k2 (Φ : EP) (s : St) : Prop :=
  @sMv 23 3 s <| .mk fun s =>
  @sCall Try.prog (.func 73 []) [(s.τ 23)] (some 24) s <| .mk fun s =>
  @sFl 25 3 1 s <| .mk fun s =>
  @sOp none (xStore 1 (s.τ 25) (s.τ 24) s.H) s <| .mk fun s =>
  @sLd 26 4 1 true s <| .mk fun s =>
  @sOp none (xStore 4 (s.τ 2) (s.τ 26) s.H) s <| .mk fun s =>
  Φ .ret s
def W57_b4 (Φ : EP) (L0 : SP) (s : St) : Prop :=
  @sOp (some 15) (xIx 4 (s.τ 11) (s.τ 13) s.H) s <| .mk fun s =>
  @sLd 16 4 15 true s <| .mk fun s =>
  @sOp (some 5) (xAlloc 5 27 [.int .i64 0, .int .i64 0, .str ⟨#[]⟩, .nils] s.H) s <| .mk fun s =>
  @sOp none (xStore 4 (s.τ 5) (s.τ 16) s.H) s <| .mk fun s =>
  @sMv 17 3 s <| .mk fun s =>
  @sLd 18 4 5 true s <| .mk fun s =>
  @sCall Try.prog (.func 57 []) [(s.τ 18)] (some 19) s <| .mk fun s =>
  @sOp (some 20) (xLit 4 1 [.int .i64 0, .int .i64 0, .str ⟨#[]⟩, .nils] [(0, (s.τ 19))] s.H) s <| .mk fun s =>
  @sOp (some 21) (xApp Try.prog 27 4 56 (some 21) (s.τ 17) (s.τ 20) s.H) s <| .mk fun s =>
  @sMv 3 21 s <| .mk fun s =>
  @sOp (some 22) (xBin .add false (s.τ 13) (.int .i64 1) s.H) s <| .mk fun s =>
  @sMv 13 22 s <| .mk fun s =>
  L0 s
def W57_l5 (Φ : EP) (L0 : SP) (s : St) : Prop :=
  @sOp (some 14) (xBin .lss false (s.τ 13) (s.τ 12) s.H) s <| .mk fun s =>
  @sIf (s.τ 14) ⟨W57_b4 Φ L0 s⟩ ⟨W57_k2 Φ s⟩
def W57 (Φ : EP) (s : St) : Prop :=
  @sOp (some 1) (xBox 1 27 (s.τ 0) s.H) s <| .mk fun s =>
  @sOp (some 2) (xAlloc 2 27 [.int .i64 0, .int .i64 0, .str ⟨#[]⟩, .nils] s.H) s <| .mk fun s =>
  @sFl 6 3 1 s <| .mk fun s =>
  @sLd 7 1 6 false s <| .mk fun s =>
  @sOp (some 8) (xLen (s.τ 7) s.H) s <| .mk fun s =>
  @sOp (some 9) (xMks 9 27 4 56 [.int .i64 0, .int .i64 0, .str ⟨#[]⟩, .nils] (.int .i64 0) (s.τ 8) s.H) s <| .mk fun s =>
  @sMv 3 9 s <| .mk fun s =>
  @sFl 10 3 1 s <| .mk fun s =>
  @sLd 11 1 10 false s <| .mk fun s =>
  @sOp (some 12) (xLen (s.τ 11) s.H) s <| .mk fun s =>
  @sOp (some 13) (xMov (.int .i64 0) s.H) s <| .mk fun s =>
  @sLoop s ⟨fun L0 s => W57_l5 Φ L0 s⟩
theorem W57_rs (τ : Nat → AV) (H : Heap) : resV Try.prog τ H [.cell 2 27] = rdV H 4 true (τ 2) := by kernel_rfl
theorem W57_eq (Φ : EP) (s : St) : awp Try.prog (Try.f57.body.getD .skip) Φ s = W57 Φ s := by kernel_rfl
theorem W57_S {args : List AV} {r : AV} (hl : args.length ≤ 27) (h : ∀ vs, W57 (retK Try.prog [.cell 2 27] r) ⟨Am.look (argT 0 args), hls [] vs, noG⟩) : Am.Spec Try.prog 57 args r := .of_W (W := W57) Try.func57 (by kernel_rfl) (by kernel_rfl) (by kernel_rfl) Try.ntmps57 W57_eq (by kernel_rfl) hl h

-- 58 "penance/stacks.mapped[[]penance/api.Term]"
def W58_k2 (Φ : EP) (s : St) : Prop :=
  @sMv 22 5 s <| .mk fun s =>
  @sOp (some 23) (xLen (s.τ 22) s.H) s <| .mk fun s =>
  @sMv 8 23 s <| .mk fun s =>
  @sMv 24 5 s <| .mk fun s =>
  @sMv 25 8 s <| .mk fun s =>
  @sMv 26 8 s <| .mk fun s =>
  @sOp (some 27) (xSl3 1 (s.τ 24) (s.τ 25) (s.τ 26) (frz s.H (s.τ 24))) s <| .mk fun s =>
  @sCall Try.prog (.func 74 []) [(s.τ 27)] (some 28) s <| .mk fun s =>
  @sMv 4 28 s <| .mk fun s =>
  Φ .ret s
def W58_b4 (Φ : EP) (L0 : SP) (s : St) : Prop :=
  @sOp (some 13) (xIx 1 (s.τ 9) (s.τ 11) s.H) s <| .mk fun s =>
  @sLd 14 1 13 false s <| .mk fun s =>
  @sMv 7 14 s <| .mk fun s =>
  @sMv 15 5 s <| .mk fun s =>
  @sMv 16 1 s <| .mk fun s =>
  @sMv 17 7 s <| .mk fun s =>
  @sCall Try.prog (s.τ 16) [(s.τ 17)] (some 18) s <| .mk fun s =>
  @sLit (some 19) (xLit 1 1 [.nils] [(0, (s.τ 18))] s.H) (xLitR 1 1 [.nils] [(0, (s.τ 18))] s.H) s <| .mk fun s =>
  @sOp (some 20) (xApp Try.prog 24 1 24 (some 20) (s.τ 15) (s.τ 19) s.H) s <| .mk fun s =>
  @sMv 5 20 s <| .mk fun s =>
  @sOp (some 21) (xBin .add false (s.τ 11) (.int .i64 1) s.H) s <| .mk fun s =>
  @sMv 11 21 s <| .mk fun s =>
  L0 s
def W58_l5 (Φ : EP) (L0 : SP) (s : St) : Prop :=
  @sOp (some 12) (xBin .lss false (s.τ 11) (s.τ 10) s.H) s <| .mk fun s =>
  @sIf (s.τ 12) ⟨W58_b4 Φ L0 s⟩ ⟨W58_k2 Φ s⟩
def W58 (Φ : EP) (s : St) : Prop :=
  @sOp (some 4) (xMov (.nils) s.H) s <| .mk fun s =>
  @sOp (some 5) (xMov (.nils) s.H) s <| .mk fun s =>
  @sMv 9 0 s <| .mk fun s =>
  @sOp (some 10) (xLen (s.τ 9) s.H) s <| .mk fun s =>
  @sOp (some 11) (xMov (.int .i64 0) s.H) s <| .mk fun s =>
  @sLoop s ⟨fun L0 s => W58_l5 Φ L0 s⟩
theorem W58_rs (τ : Nat → AV) (H : Heap) : resV Try.prog τ H [.tmp 4] = some (τ 4) := by kernel_rfl
theorem W58_eq (Φ : EP) (s : St) : awp Try.prog (Try.f58.body.getD .skip) Φ s = W58 Φ s := by kernel_rfl
theorem W58_S {args : List AV} {r : AV} (hl : args.length ≤ 29) (h : ∀ vs, W58 (retK Try.prog [.tmp 4] r) ⟨Am.look (argT 0 args), hls [] vs, noG⟩) : Am.Spec Try.prog 58 args r := .of_W (W := W58) Try.func58 (by kernel_rfl) (by kernel_rfl) (by kernel_rfl) Try.ntmps58 W58_eq (by kernel_rfl) hl h

-- 59 "penance/stacks.own$1"

def W59 (Φ : EP) (s : St) : Prop :=
  @sOp (some 2) (xMov (.nils) s.H) s <| .mk fun s =>
  @sMv 3 0 s <| .mk fun s =>
  @sCall Try.prog (.func 60 []) [(s.τ 3), (.func 51 [])] (some 4) s <| .mk fun s =>
  @sMv 2 4 s <| .mk fun s =>
  Φ .ret s
theorem W59_rs (τ : Nat → AV) (H : Heap) : resV Try.prog τ H [.tmp 2] = some (τ 2) := by kernel_rfl
theorem W59_eq (Φ : EP) (s : St) : awp Try.prog (Try.f59.body.getD .skip) Φ s = W59 Φ s := by kernel_rfl
theorem W59_S {args : List AV} {r : AV} (hl : args.length ≤ 5) (h : ∀ vs, W59 (retK Try.prog [.tmp 2] r) ⟨Am.look (argT 0 args), hls [] vs, noG⟩) : Am.Spec Try.prog 59 args r := .of_W (W := W59) Try.func59 (by kernel_rfl) (by kernel_rfl) (by kernel_rfl) Try.ntmps59 W59_eq (by kernel_rfl) hl h

-- 60 "penance/stacks.mapped[penance/api.Term]"
def W60_k2 (Φ : EP) (s : St) : Prop :=
  @sMv 22 5 s <| .mk fun s =>
  @sOp (some 23) (xLen (s.τ 22) s.H) s <| .mk fun s =>
  @sMv 8 23 s <| .mk fun s =>
  @sMv 24 5 s <| .mk fun s =>
  @sMv 25 8 s <| .mk fun s =>
  @sMv 26 8 s <| .mk fun s =>
  @sOp (some 27) (xSl3 9 (s.τ 24) (s.τ 25) (s.τ 26) (frz s.H (s.τ 24))) s <| .mk fun s =>
  @sCall Try.prog (.func 52 []) [(s.τ 27)] (some 28) s <| .mk fun s =>
  @sMv 4 28 s <| .mk fun s =>
  Φ .ret s
def W60_b4 (Φ : EP) (L0 : SP) (s : St) : Prop :=
  @sOp (some 13) (xIx 9 (s.τ 9) (s.τ 11) s.H) s <| .mk fun s =>
  @sLd 14 9 13 true s <| .mk fun s =>
  @sOp (some 7) (xAlloc 7 29 [.int .i64 0, .int .i64 0, .int .i64 0, .str ⟨#[]⟩, .int .i64 0, .int .i64 0, .str ⟨#[]⟩, .nils, .nils] s.H) s <| .mk fun s =>
  @sOp none (xStore 9 (s.τ 7) (s.τ 14) s.H) s <| .mk fun s =>
  @sMv 15 5 s <| .mk fun s =>
  @sMv 16 1 s <| .mk fun s =>
  @sLd 17 9 7 true s <| .mk fun s =>
  @sCall Try.prog (s.τ 16) [(s.τ 17)] (some 18) s <| .mk fun s =>
  @sOp (some 19) (xLit 9 1 [.int .i64 0, .int .i64 0, .int .i64 0, .str ⟨#[]⟩, .int .i64 0, .int .i64 0, .str ⟨#[]⟩, .nils, .nils] [(0, (s.τ 18))] s.H) s <| .mk fun s =>
  @sOp (some 20) (xApp Try.prog 29 9 120 (some 20) (s.τ 15) (s.τ 19) s.H) s <| .mk fun s =>
  @sMv 5 20 s <| .mk fun s =>
  @sOp (some 21) (xBin .add false (s.τ 11) (.int .i64 1) s.H) s <| .mk fun s =>
  @sMv 11 21 s <| .mk fun s =>
  L0 s
def W60_l5 (Φ : EP) (L0 : SP) (s : St) : Prop :=
  @sOp (some 12) (xBin .lss false (s.τ 11) (s.τ 10) s.H) s <| .mk fun s =>
  @sIf (s.τ 12) ⟨W60_b4 Φ L0 s⟩ ⟨W60_k2 Φ s⟩
def W60 (Φ : EP) (s : St) : Prop :=
  @sOp (some 4) (xMov (.nils) s.H) s <| .mk fun s =>
  @sOp (some 5) (xMov (.nils) s.H) s <| .mk fun s =>
  @sMv 9 0 s <| .mk fun s =>
  @sOp (some 10) (xLen (s.τ 9) s.H) s <| .mk fun s =>
  @sOp (some 11) (xMov (.int .i64 0) s.H) s <| .mk fun s =>
  @sLoop s ⟨fun L0 s => W60_l5 Φ L0 s⟩
theorem W60_rs (τ : Nat → AV) (H : Heap) : resV Try.prog τ H [.tmp 4] = some (τ 4) := by kernel_rfl
theorem W60_eq (Φ : EP) (s : St) : awp Try.prog (Try.f60.body.getD .skip) Φ s = W60 Φ s := by kernel_rfl
theorem W60_S {args : List AV} {r : AV} (hl : args.length ≤ 29) (h : ∀ vs, W60 (retK Try.prog [.tmp 4] r) ⟨Am.look (argT 0 args), hls [] vs, noG⟩) : Am.Spec Try.prog 60 args r := .of_W (W := W60) Try.func60 (by kernel_rfl) (by kernel_rfl) (by kernel_rfl) Try.ntmps60 W60_eq (by kernel_rfl) hl h

-- 61 "penance/steps.places$1"

def W61 (Φ : EP) (s : St) : Prop :=
  @sLd 3 9 1 true s <| .mk fun u1 =>
  @sLd 4 9 1 true u1 <| .mk fun u2 =>
  @sChk (compat (occ (s.τ 1), []) (cfp 5 63 [(u2.τ 4)])) <| .mk <|
  @sCall0 Try.prog (.func 63 []) [(u2.τ 4)] (some 5) u2 <| .mk fun u3 =>
  @sOp (some 6) (xLen (u3.τ 5) u3.H) u3 <| .mk fun u4 =>
  @sOp (some 7) (xBin .gtr false (u4.τ 6) (.int .i64 0) u4.H) u4 <| .mk fun u5 =>
  @sOp (some 8) (xBuild [.int .i64 0, .int .i64 0, .int .i64 0, .str ⟨#[]⟩, .int .i64 0, .int .i64 0, .str ⟨#[]⟩, .nils, .nils, .nils, .bool false] [(0, 9, (u5.τ 3)), (9, 1, (.nils)), (10, 1, (u5.τ 7))] u5.H) u5 <| .mk fun u6 =>
  @sMv 9 0 u6 <| .mk fun u7 =>
  @sCall Try.prog (.func 62 []) [(u7.τ 8), (u7.τ 9)] (some 10) u7 <| .mk fun s =>
  Φ .normal s
theorem W61_rs (τ : Nat → AV) (H : Heap) : resV Try.prog τ H [] = ob (some []) fun vs => some (.tup vs) := by kernel_rfl
theorem W61_eq (Φ : EP) (s : St) : awp Try.prog (Try.f61.body.getD .skip) Φ s = W61 Φ s := by kernel_rfl
theorem W61_S {args : List AV} {r : AV} (hl : args.length ≤ 11) (h : ∀ vs, W61 (retK Try.prog [] r) ⟨Am.look (argT 0 args), hls [] vs, noG⟩) : Am.Spec Try.prog 61 args r := .of_W (W := W61) Try.func61 (by kernel_rfl) (by kernel_rfl) (by kernel_rfl) Try.ntmps61 W61_eq (by kernel_rfl) hl h

-- 62 "penance/steps.walk"
def W62_b1 (Φ : EP) (s : St) : Prop :=
  @sOp (some 4) (xMov (.bool false) s.H) s <| .mk fun s =>
  Φ .ret s
def W62_k2 (Φ : EP) (s : St) : Prop :=
  @sOp (some 4) (xMov (.bool true) s.H) s <| .mk fun s =>
  Φ .ret s
def W62_b3 (Φ : EP) (L0 : SP) (s : St) : Prop :=
  @sOp (some 4) (xMov (.bool false) s.H) s <| .mk fun s =>
  Φ .ret s
def W62_b4 (Φ : EP) (L0 : SP) (s : St) : Prop :=
  @sOp (some 35) (xBin .add false (s.τ 26) (.int .i64 1) s.H) s <| .mk fun s =>
  @sMv 26 35 s <| .mk fun s =>
  L0 s
def W62_b7 (Φ : EP) (L0 : SP) (s : St) : Prop :=
  @sMv 28 26 s <| .mk fun s =>
  @sMv 6 28 s <| .mk fun s =>
  @sLd 29 11 2 true s <| .mk fun s =>
  @sMv 30 6 s <| .mk fun s =>
  @sCall Try.prog (.func 75 []) [(s.τ 29), (s.τ 30)] (some 31) s <| .mk fun s =>
  @sMv 32 1 s <| .mk fun s =>
  @sCall Try.prog (.func 62 []) [(s.τ 31), (s.τ 32)] (some 33) s <| .mk fun s =>
  @sOp (some 34) (xNot (s.τ 33) s.H) s <| .mk fun s =>
  @sIf (s.τ 34) ⟨W62_b3 Φ L0 s⟩ ⟨W62_b4 Φ L0 s⟩
def W62_l8 (Φ : EP) (L0 : SP) (s : St) : Prop :=
  @sOp (some 27) (xBin .lss false (s.τ 26) (s.τ 25) s.H) s <| .mk fun s =>
  @sIf (s.τ 27) ⟨W62_b7 Φ L0 s⟩ ⟨W62_k2 Φ s⟩
def W62_k9 (Φ : EP) (s : St) : Prop :=
  @sMv 25 5 s <| .mk fun s =>
  @sOp (some 26) (xMov (.int .i64 0) s.H) s <| .mk fun s =>
  @sLoop s ⟨fun L0 s => W62_l8 Φ L0 s⟩
def W62_b10 (Φ : EP) (s : St) : Prop :=
  @sMv 21 5 s <| .mk fun s =>
  @sOp (some 22) (xMin (s.τ 21) (.int .i64 1) s.H) s <| .mk fun s =>
  @sMv 5 22 s <| .mk fun s =>
  W62_k9 Φ s
def W62_b11 (Φ : EP) (s : St) : Prop :=
  @sOp (some 5) (xMov (.int .i64 0) s.H) s <| .mk fun s =>
  W62_k9 Φ s
def W62_b12 (Φ : EP) (s : St) : Prop :=
  @sOp (some 24) (xBin .eql false (s.τ 17) (.int .i64 11) s.H) s <| .mk fun s =>
  @sMv 23 24 s <| .mk fun s =>
  @sIf (s.τ 23) ⟨W62_k9 Φ s⟩ ⟨W62_b11 Φ s⟩
def W62_k13 (Φ : EP) (s : St) : Prop :=
  @sIf (s.τ 18) ⟨W62_b10 Φ s⟩ ⟨W62_b12 Φ s⟩
def W62_b14 (Φ : EP) (s : St) : Prop :=
  @sOp (some 20) (xBin .eql false (s.τ 17) (.int .i64 7) s.H) s <| .mk fun s =>
  @sMv 18 20 s <| .mk fun s =>
  W62_k13 Φ s
def W62_b15 (Φ : EP) (s : St) : Prop :=
  @sFl 11 0 2 s <| .mk fun s =>
  @sFl 12 8 11 s <| .mk fun s =>
  @sLd 13 1 12 false s <| .mk fun s =>
  @sOp (some 14) (xLen (s.τ 13) s.H) s <| .mk fun s =>
  @sMv 5 14 s <| .mk fun s =>
  @sFl 15 0 2 s <| .mk fun s =>
  @sFl 16 0 15 s <| .mk fun s =>
  @sLd 17 1 16 false s <| .mk fun s =>
  @sOp (some 19) (xBin .eql false (s.τ 17) (.int .i64 12) s.H) s <| .mk fun s =>
  @sMv 18 19 s <| .mk fun s =>
  @sIf (s.τ 18) ⟨W62_k13 Φ s⟩ ⟨W62_b14 Φ s⟩
def W62 (Φ : EP) (s : St) : Prop :=
  @sOp (some 2) (xBox 2 87 (s.τ 0) s.H) s <| .mk fun s =>
  @sOp (some 4) (xMov (.bool false) s.H) s <| .mk fun s =>
  @sMv 7 1 s <| .mk fun s =>
  @sLd 8 11 2 true s <| .mk fun s =>
  @sCall Try.prog (s.τ 7) [(s.τ 8)] (some 9) s <| .mk fun s =>
  @sOp (some 10) (xNot (s.τ 9) s.H) s <| .mk fun s =>
  @sIf (s.τ 10) ⟨W62_b1 Φ s⟩ ⟨W62_b15 Φ s⟩
theorem W62_rs (τ : Nat → AV) (H : Heap) : resV Try.prog τ H [.tmp 4] = some (τ 4) := by kernel_rfl
theorem W62_eq (Φ : EP) (s : St) : awp Try.prog (Try.f62.body.getD .skip) Φ s = W62 Φ s := by kernel_rfl
theorem W62_S {args : List AV} {r : AV} (hl : args.length ≤ 36) (h : ∀ vs, W62 (retK Try.prog [.tmp 4] r) ⟨Am.look (argT 0 args), hls [] vs, noG⟩) : Am.Spec Try.prog 62 args r := .of_W (W := W62) Try.func62 (by kernel_rfl) (by kernel_rfl) (by kernel_rfl) Try.ntmps62 W62_eq (by kernel_rfl) hl h

-- 63 "penance/term.Waits"
def W63_k2 (Φ : EP) (s : St) : Prop :=
  @sLd 16 1 3 false s <| .mk fun s =>
  @sCall Try.prog (.func 20 []) [(s.τ 16)] (some 17) s <| .mk fun s =>
  @sMv 2 17 s <| .mk fun s =>
  Φ .ret s
def W63_b3 (Φ : EP) (s : St) : Prop :=
  @sLd 11 1 3 false s <| .mk fun s =>
  @sFl 12 1 4 s <| .mk fun s =>
  @sLd 13 1 12 false s <| .mk fun s =>
  @sOp (some 14) (xLit 1 1 [.int .i64 0] [(0, (s.τ 13))] s.H) s <| .mk fun s =>
  @sOp (some 15) (xApp Try.prog 3 1 8 (some 15) (s.τ 11) (s.τ 14) s.H) s <| .mk fun s =>
  @sOp none (xStore 1 (s.τ 3) (s.τ 15) s.H) s <| .mk fun s =>
  Φ .normal s
def W63_r4 (Φ : EP) (s : St) : Prop :=
  @sOp (some 4) (xAlloc 4 29 [.int .i64 0, .int .i64 0, .int .i64 0, .str ⟨#[]⟩, .int .i64 0, .int .i64 0, .str ⟨#[]⟩, .nils, .nils] s.H) s <| .mk fun s =>
  @sOp none (xStore 9 (s.τ 4) (s.τ 7) s.H) s <| .mk fun s =>
  @sFl 8 0 4 s <| .mk fun s =>
  @sLd 9 1 8 false s <| .mk fun s =>
  @sOp (some 10) (xBin .eql false (s.τ 9) (.int .i64 14) s.H) s <| .mk fun s =>
  @sIf (s.τ 10) ⟨W63_b3 Φ s⟩ ⟨Φ .normal s⟩
def W63 (Φ : EP) (s : St) : Prop :=
  @sOp (some 1) (xBox 1 29 (s.τ 0) s.H) s <| .mk fun s =>
  @sOp (some 2) (xMov (.nils) s.H) s <| .mk fun s =>
  @sOp (some 3) (xAlloc 3 31 [.nils] s.H) s <| .mk fun s =>
  @sLd 5 9 1 true s <| .mk fun s =>
  @sCall Try.prog (.func 76 []) [(s.τ 5)] (some 6) s <| .mk fun s =>
  @sRange Try.prog (s.τ 6) [7] s ⟨fun Φ s => W63_r4 Φ s⟩ ⟨(blkK 0 (thenK (W63_k2 Φ) Φ))⟩
theorem W63_rs (τ : Nat → AV) (H : Heap) : resV Try.prog τ H [.tmp 2] = some (τ 2) := by kernel_rfl
theorem W63_eq (Φ : EP) (s : St) : awp Try.prog (Try.f63.body.getD .skip) Φ s = W63 Φ s := by kernel_rfl
theorem W63_S {args : List AV} {r : AV} (hl : args.length ≤ 18) (h : ∀ vs, W63 (retK Try.prog [.tmp 2] r) ⟨Am.look (argT 0 args), hls [] vs, noG⟩) : Am.Spec Try.prog 63 args r := .of_W (W := W63) Try.func63 (by kernel_rfl) (by kernel_rfl) (by kernel_rfl) Try.ntmps63 W63_eq (by kernel_rfl) hl h

-- 64 "penance/expr.sum"
def W64_b1 (Φ : EP) (s : St) : Prop :=
  @sOp (some 4) (xMov (.int .i64 0) s.H) s <| .mk fun s =>
  @sOp (some 5) (xMov (.int .i64 8) s.H) s <| .mk fun s =>
  Φ .ret s
def W64_b2 (Φ : EP) (s : St) : Prop :=
  @sMv 24 0 s <| .mk fun s =>
  @sMv 25 1 s <| .mk fun s =>
  @sOp (some 26) (xBin .add false (s.τ 24) (s.τ 25) s.H) s <| .mk fun s =>
  @sMv 4 26 s <| .mk fun s =>
  @sOp (some 5) (xMov (.int .i64 0) s.H) s <| .mk fun s =>
  Φ .ret s
def W64 (Φ : EP) (s : St) : Prop :=
  @sOp (some 4) (xMov (.int .i64 0) s.H) s <| .mk fun s =>
  @sOp (some 5) (xMov (.int .i64 0) s.H) s <| .mk fun s =>
  @sMv 6 1 s <| .mk fun s =>
  @sOp (some 7) (xBin .gtr false (s.τ 6) (.int .i64 0) s.H) s <| .mk fun s =>
  @sMv 8 7 s <| .mk fun s =>
  @sGm 9 0 8 true s <| .mk fun s =>
  @sGm 10 1 8 true s <| .mk fun s =>
  @sGo 11 8 true s (fun s => (xBin .sub false (.int .i64 9223372036854775807) (s.τ 10) s.H)) <| .mk fun s =>
  @sGo 12 8 true s (fun s => (xBin .gtr false (s.τ 9) (s.τ 11) s.H)) <| .mk fun s =>
  @sOp (some 13) (xPick (s.τ 8) (s.τ 12) (.bool false) s.H) s <| .mk fun s =>
  @sMv 14 13 s <| .mk fun s =>
  @sGm 15 1 14 false s <| .mk fun s =>
  @sGo 16 14 false s (fun s => (xBin .lss false (s.τ 15) (.int .i64 0) s.H)) <| .mk fun s =>
  @sGm 17 16 14 false s <| .mk fun s =>
  @sGm 18 0 17 true s <| .mk fun s =>
  @sGm 19 1 17 true s <| .mk fun s =>
  @sGo 20 17 true s (fun s => (xBin .sub false (.int .i64 (-9223372036854775808)) (s.τ 19) s.H)) <| .mk fun s =>
  @sGo 21 17 true s (fun s => (xBin .lss false (s.τ 18) (s.τ 20) s.H)) <| .mk fun s =>
  @sGo 22 14 false s (fun s => (xPick (s.τ 17) (s.τ 21) (.bool false) s.H)) <| .mk fun s =>
  @sOp (some 23) (xPick (s.τ 14) (.bool true) (s.τ 22) s.H) s <| .mk fun s =>
  @sIf (s.τ 23) ⟨W64_b1 Φ s⟩ ⟨W64_b2 Φ s⟩
theorem W64_rs (τ : Nat → AV) (H : Heap) : resV Try.prog τ H [.tmp 4, .tmp 5] = ob (ob (some (τ 4)) fun v => ob (ob (some (τ 5)) fun v => ob (some []) fun vs => some (v :: vs)) fun vs => some (v :: vs)) fun vs => some (.tup vs) := by kernel_rfl
theorem W64_eq (Φ : EP) (s : St) : awp Try.prog (Try.f64.body.getD .skip) Φ s = W64 Φ s := by kernel_rfl
theorem W64_S {args : List AV} {r : AV} (hl : args.length ≤ 27) (h : ∀ vs, W64 (retK Try.prog [.tmp 4, .tmp 5] r) ⟨Am.look (argT 0 args), hls [] vs, noG⟩) : Am.Spec Try.prog 64 args r := .of_W (W := W64) Try.func64 (by kernel_rfl) (by kernel_rfl) (by kernel_rfl) Try.ntmps64 W64_eq (by kernel_rfl) hl h

-- 65 "penance/stacks.ownExpr"

def W65 (Φ : EP) (s : St) : Prop :=
  @sOp (some 1) (xBox 1 27 (s.τ 0) s.H) s <| .mk fun s =>
  @sOp (some 2) (xAlloc 2 27 [.int .i64 0, .int .i64 0, .str ⟨#[]⟩, .nils] s.H) s <| .mk fun s =>
  @sFl 3 3 1 s <| .mk fun s =>
  @sLd 4 1 3 false s <| .mk fun s =>
  @sCall Try.prog (.func 77 []) [(s.τ 4), (.func 65 [])] (some 5) s <| .mk fun s =>
  @sFl 6 3 1 s <| .mk fun s =>
  @sOp none (xStore 1 (s.τ 6) (s.τ 5) s.H) s <| .mk fun s =>
  @sLd 7 4 1 true s <| .mk fun s =>
  @sOp none (xStore 4 (s.τ 2) (s.τ 7) s.H) s <| .mk fun s =>
  Φ .ret s
theorem W65_rs (τ : Nat → AV) (H : Heap) : resV Try.prog τ H [.cell 2 27] = rdV H 4 true (τ 2) := by kernel_rfl
theorem W65_eq (Φ : EP) (s : St) : awp Try.prog (Try.f65.body.getD .skip) Φ s = W65 Φ s := by kernel_rfl
theorem W65_S {args : List AV} {r : AV} (hl : args.length ≤ 8) (h : ∀ vs, W65 (retK Try.prog [.cell 2 27] r) ⟨Am.look (argT 0 args), hls [] vs, noG⟩) : Am.Spec Try.prog 65 args r := .of_W (W := W65) Try.func65 (by kernel_rfl) (by kernel_rfl) (by kernel_rfl) Try.ntmps65 W65_eq (by kernel_rfl) hl h

-- 66 "penance/run.nodes$1"

def W66 (Φ : EP) (s : St) : Prop :=
  @sLd 3 9 1 true s <| .mk fun s =>
  @sMv 4 0 s <| .mk fun s =>
  @sCall Try.prog (.func 67 []) [(s.τ 3), (s.τ 4)] (some 5) s <| .mk fun s =>
  Φ .normal s
theorem W66_rs (τ : Nat → AV) (H : Heap) : resV Try.prog τ H [] = ob (some []) fun vs => some (.tup vs) := by kernel_rfl
theorem W66_eq (Φ : EP) (s : St) : awp Try.prog (Try.f66.body.getD .skip) Φ s = W66 Φ s := by kernel_rfl
theorem W66_S {args : List AV} {r : AV} (hl : args.length ≤ 6) (h : ∀ vs, W66 (retK Try.prog [] r) ⟨Am.look (argT 0 args), hls [] vs, noG⟩) : Am.Spec Try.prog 66 args r := .of_W (W := W66) Try.func66 (by kernel_rfl) (by kernel_rfl) (by kernel_rfl) Try.ntmps66 W66_eq (by kernel_rfl) hl h

-- 67 "penance/run.walk"
def W67_b1 (Φ : EP) (s : St) : Prop :=
  @sOp (some 4) (xMov (.bool false) s.H) s <| .mk fun s =>
  Φ .ret s
def W67_k2 (Φ : EP) (s : St) : Prop :=
  @sOp (some 4) (xMov (.bool true) s.H) s <| .mk fun s =>
  Φ .ret s
def W67_b3 (Φ : EP) (L0 : SP) (s : St) : Prop :=
  @sOp (some 4) (xMov (.bool false) s.H) s <| .mk fun s =>
  Φ .ret s
def W67_b4 (Φ : EP) (L0 : SP) (s : St) : Prop :=
  @sOp (some 22) (xBin .add false (s.τ 14) (.int .i64 1) s.H) s <| .mk fun s =>
  @sMv 14 22 s <| .mk fun s =>
  L0 s
def W67_b6 (Φ : EP) (L0 : SP) (s : St) : Prop :=
  @sOp (some 16) (xIx 9 (s.τ 12) (s.τ 14) s.H) s <| .mk fun s =>
  @sLd 17 9 16 true s <| .mk fun s =>
  @sOp (some 6) (xAlloc 6 29 [.int .i64 0, .int .i64 0, .int .i64 0, .str ⟨#[]⟩, .int .i64 0, .int .i64 0, .str ⟨#[]⟩, .nils, .nils] s.H) s <| .mk fun s =>
  @sOp none (xStore 9 (s.τ 6) (s.τ 17) s.H) s <| .mk fun s =>
  @sLd 18 9 6 true s <| .mk fun s =>
  @sMv 19 1 s <| .mk fun s =>
  @sCall Try.prog (.func 67 []) [(s.τ 18), (s.τ 19)] (some 20) s <| .mk fun s =>
  @sOp (some 21) (xNot (s.τ 20) s.H) s <| .mk fun s =>
  @sIf (s.τ 21) ⟨W67_b3 Φ L0 s⟩ ⟨W67_b4 Φ L0 s⟩
def W67_l7 (Φ : EP) (L0 : SP) (s : St) : Prop :=
  @sOp (some 15) (xBin .lss false (s.τ 14) (s.τ 13) s.H) s <| .mk fun s =>
  @sIf (s.τ 15) ⟨W67_b6 Φ L0 s⟩ ⟨W67_k2 Φ s⟩
def W67_b8 (Φ : EP) (s : St) : Prop :=
  @sFl 11 8 2 s <| .mk fun s =>
  @sLd 12 1 11 false s <| .mk fun s =>
  @sOp (some 13) (xLen (s.τ 12) s.H) s <| .mk fun s =>
  @sOp (some 14) (xMov (.int .i64 0) s.H) s <| .mk fun s =>
  @sLoop s ⟨fun L0 s => W67_l7 Φ L0 s⟩
def W67 (Φ : EP) (s : St) : Prop :=
  @sOp (some 2) (xBox 2 29 (s.τ 0) s.H) s <| .mk fun s =>
  @sOp (some 4) (xMov (.bool false) s.H) s <| .mk fun s =>
  @sMv 7 1 s <| .mk fun s =>
  @sLd 8 9 2 true s <| .mk fun s =>
  @sCall Try.prog (s.τ 7) [(s.τ 8)] (some 9) s <| .mk fun s =>
  @sOp (some 10) (xNot (s.τ 9) s.H) s <| .mk fun s =>
  @sIf (s.τ 10) ⟨W67_b1 Φ s⟩ ⟨W67_b8 Φ s⟩
theorem W67_rs (τ : Nat → AV) (H : Heap) : resV Try.prog τ H [.tmp 4] = some (τ 4) := by kernel_rfl
theorem W67_eq (Φ : EP) (s : St) : awp Try.prog (Try.f67.body.getD .skip) Φ s = W67 Φ s := by kernel_rfl
theorem W67_S {args : List AV} {r : AV} (hl : args.length ≤ 23) (h : ∀ vs, W67 (retK Try.prog [.tmp 4] r) ⟨Am.look (argT 0 args), hls [] vs, noG⟩) : Am.Spec Try.prog 67 args r := .of_W (W := W67) Try.func67 (by kernel_rfl) (by kernel_rfl) (by kernel_rfl) Try.ntmps67 W67_eq (by kernel_rfl) hl h

end Go.Proofs.Ytnngddgaobhkiaa
