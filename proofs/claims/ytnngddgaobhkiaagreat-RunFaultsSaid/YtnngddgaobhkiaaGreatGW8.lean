import Derived.Test.YtnngddgaobhkiaaGreatGA6
import Derived.Test.YtnngddgaobhkiaaGreatProg
import Derived.KernelRfl
set_option linter.unusedVariables false
set_option maxRecDepth 100000
namespace Go.Proofs.YtnngddgaobhkiaaGreat
open Go Go.Am
-- 6 "penance/penancelaw8.RunFaults"
def W6_b1 (Φ:EP) (s:St):Prop:=
 @sOp (some 4) (xMov (.bool false) s.H) s<|.mk fun s=>
 Φ .ret s
def W6_b2 (Φ:EP) (s:St):Prop:=
 @sOp (some 4) (xMov (.bool false) s.H) s<|.mk fun s=>
 Φ .ret s
def W6_b16 (Φ:EP) (s:St):Prop:=
 @sMv 98 9 s<|.mk fun u1=>
 @sOp (some 99) (xBin .gtr false (u1.τ 98) (.int .i64 1) u1.H) u1<|.mk fun u2=>
 @sMv 100 99 u2<|.mk fun u3=>
 @sGm 101 15 100 false u3<|.mk fun u4=>
 @sGo 102 100 false u4 (fun s=>(xBin .eql false (s.τ 101) (.int .i64 9) s.H))<|.mk fun u5=>
 @sOp (some 103) (xPick (u5.τ 100) (.bool true) (u5.τ 102) u5.H) u5<|.mk fun u6=>
 @sMv 104 103 u6<|.mk fun u7=>
 @sGm 105 15 104 true u7<|.mk fun u8=>
 @sGo 106 104 true u8 (fun s=>(xBin .eql false (s.τ 105) (.int .i64 0) s.H))<|.mk fun u9=>
 @sGf 107 9 12 104 true u9<|.mk fun u10=>
 @sGl 108 1 107 104 false true u10<|.mk fun u11=>
 @sGo 109 104 true u11 (fun s=>(xLen (s.τ 108) s.H))<|.mk fun u12=>
 @sGo 110 104 true u12 (fun s=>(xBin .eql false (s.τ 109) (.int .i64 1) s.H))<|.mk fun u13=>
 @sGo 111 104 true u13 (fun s=>(xBin .eql true (s.τ 106) (s.τ 110) s.H))<|.mk fun u14=>
 @sOp (some 112) (xPick (u14.τ 104) (u14.τ 111) (.bool false) u14.H) u14<|.mk fun u15=>
 @sMv 113 112 u15<|.mk fun u16=>
 @sGl 114 13 11 113 true true u16<|.mk fun u17=>
 @sGl 115 4 10 113 true true u17<|.mk fun u18=>
 @sChk (compat (occ (u16.τ 11),[]) (cfp 116 15 [(u18.τ 115)])) <| .mk <|
 @sGrd (guardOf (u18.τ 113) true) (some 116) u18 ⟨fun s K=>@sCall0 Tryz.prog (.func 15 []) [(s.τ 115)] (some 116) s ⟨K⟩⟩<|.mk fun u19=>
 @sGrd (guardOf (u19.τ 113) true) (some 117) u19 ⟨fun s K=>@sCall0 Tryz.prog (.func 16 []) [(s.τ 114),(s.τ 116)] (some 117) s ⟨K⟩⟩<|.mk fun u20=>
 @sOp (some 118) (xPick (u20.τ 113) (u20.τ 117) (.bool false) u20.H) u20<|.mk fun u21=>
 @sMv 4 118 u21<|.mk fun s=>
 Φ .ret s
def W6_b27 (Φ:EP) (s:St):Prop:=
 @sOp (some 22) (xBuild [.int .i64 0,.int .i64 0,.str ⟨#[]⟩,.nils] [(0,1,(.int .i64 2))] s.H) s<|.mk fun s=>
 @sOp (some 5) (xAlloc 5 33 [.int .i64 0,.int .i64 0,.str ⟨#[]⟩,.nils] s.H) s<|.mk fun s=>
 @sOp none (xStore 4 (s.τ 5) (s.τ 22) s.H) s<|.mk fun s=>
 @sOp (some 23) (xBuild [.int .i64 0,.int .i64 0,.str ⟨#[]⟩,.nils] [(0,1,(.int .i64 1)),(1,1,(.int .i64 1))] s.H) s<|.mk fun s=>
 @sOp (some 6) (xAlloc 6 33 [.int .i64 0,.int .i64 0,.str ⟨#[]⟩,.nils] s.H) s<|.mk fun s=>
 @sOp none (xStore 4 (s.τ 6) (s.τ 23) s.H) s<|.mk fun s=>
 @sOp (some 24) (xBuild [.int .i64 0,.int .i64 0,.str ⟨#[]⟩,.nils] [(0,1,(.int .i64 1))] s.H) s<|.mk fun s=>
 @sOp (some 7) (xAlloc 7 33 [.int .i64 0,.int .i64 0,.str ⟨#[]⟩,.nils] s.H) s<|.mk fun s=>
 @sOp none (xStore 4 (s.τ 7) (s.τ 24) s.H) s<|.mk fun s=>
 @sLd 25 4 6 true s<|.mk fun s=>
 @sLd 26 4 7 true s<|.mk fun s=>
 @sOp (some 27) (xLit 4 2 [.int .i64 0,.int .i64 0,.str ⟨#[]⟩,.nils] [(0,(s.τ 25)),(1,(s.τ 26))] s.H) s<|.mk fun s=>
 @sOp (some 28) (xBuild [.int .i64 0,.int .i64 0,.str ⟨#[]⟩,.nils] [(0,1,(.int .i64 6)),(3,1,(s.τ 27))] s.H) s<|.mk fun s=>
 @sLd 29 4 6 true s<|.mk fun s=>
 @sLd 30 4 7 true s<|.mk fun s=>
 @sOp (some 31) (xLit 4 2 [.int .i64 0,.int .i64 0,.str ⟨#[]⟩,.nils] [(0,(s.τ 29)),(1,(s.τ 30))] s.H) s<|.mk fun s=>
 @sOp (some 32) (xBuild [.int .i64 0,.int .i64 0,.str ⟨#[]⟩,.nils] [(0,1,(.int .i64 7)),(3,1,(s.τ 31))] s.H) s<|.mk fun s=>
 @sLd 33 4 5 true s<|.mk fun s=>
 @sLd 34 4 6 true s<|.mk fun s=>
 @sOp (some 35) (xLit 4 2 [.int .i64 0,.int .i64 0,.str ⟨#[]⟩,.nils] [(0,(s.τ 33)),(1,(s.τ 34))] s.H) s<|.mk fun s=>
 @sOp (some 36) (xBuild [.int .i64 0,.int .i64 0,.str ⟨#[]⟩,.nils] [(0,1,(.int .i64 8)),(3,1,(s.τ 35))] s.H) s<|.mk fun s=>
 @sLd 37 4 5 true s<|.mk fun s=>
 @sLd 38 4 5 true s<|.mk fun s=>
 @sOp (some 39) (xLit 4 2 [.int .i64 0,.int .i64 0,.str ⟨#[]⟩,.nils] [(0,(s.τ 37)),(1,(s.τ 38))] s.H) s<|.mk fun s=>
 @sOp (some 40) (xBuild [.int .i64 0,.int .i64 0,.str ⟨#[]⟩,.nils] [(0,1,(.int .i64 5)),(3,1,(s.τ 39))] s.H) s<|.mk fun s=>
 @sLd 41 4 5 true s<|.mk fun s=>
 @sOp (some 42) (xLit 4 1 [.int .i64 0,.int .i64 0,.str ⟨#[]⟩,.nils] [(0,(s.τ 41))] s.H) s<|.mk fun s=>
 @sOp (some 43) (xBuild [.int .i64 0,.int .i64 0,.str ⟨#[]⟩,.nils] [(0,1,(.int .i64 4)),(3,1,(s.τ 42))] s.H) s<|.mk fun s=>
 @sOp (some 44) (xLit 4 5 [.int .i64 0,.int .i64 0,.str ⟨#[]⟩,.nils] [(0,(s.τ 28)),(1,(s.τ 32)),(2,(s.τ 36)),(3,(s.τ 40)),(4,(s.τ 43))] s.H) s<|.mk fun s=>
 @sMv 8 44 s<|.mk fun s=>
 @sMv 45 0 s<|.mk fun s=>
 @sMv 46 8 s<|.mk fun s=>
 @sOp (some 47) (xLen (s.τ 46) s.H) s<|.mk fun s=>
 @sCall Tryz.prog (.func 18 []) [(s.τ 45),(s.τ 47)] (some 48) s<|.mk fun s=>
 @sMv 9 48 s<|.mk fun s=>
 @sMv 49 1 s<|.mk fun u1=>
 @sOp (some 50) (xLit 1 1 [.int .i64 0] [(0,(u1.τ 49))] u1.H) u1<|.mk fun u2=>
 @sMv 51 8 u2<|.mk fun u3=>
 @sMv 52 9 u3<|.mk fun u4=>
 @sChk (compat ([50] ++ occL [(u1.τ 49)],[50] ++ occL [(u1.τ 49)]) (occ (u4.τ 51),[])) <| .mk <|
 @sOp (some 53) (xIx 4 (u4.τ 51) (u4.τ 52) u4.H) u4<|.mk fun u5=>
 @sChk (compat ([50] ++ occL [(u1.τ 49)],[50] ++ occL [(u1.τ 49)]) (occ (u5.τ 53),[])) <| .mk <|
 @sLd 54 4 53 true u5<|.mk fun u6=>
 @sOp (some 55) (xBuild [.int .i64 0,.int .i64 0,.int .i64 0,.str ⟨#[]⟩,.int .i64 0,.int .i64 0,.str ⟨#[]⟩,.nils,.nils] [] u6.H) u6<|.mk fun u7=>
 @sOp (some 56) (xBuild [.int .i64 0,.int .i64 0,.int .i64 0,.str ⟨#[]⟩,.int .i64 0,.int .i64 0,.str ⟨#[]⟩,.nils,.nils] [] u7.H) u7<|.mk fun u8=>
 @sChk (compat ([50] ++ occL [(u1.τ 49)],[50] ++ occL [(u1.τ 49)]) ([57] ++ occL [(u8.τ 55),(u8.τ 56)],[57] ++ occL [(u8.τ 55),(u8.τ 56)])) <| .mk <|
 @sChk (compat (occ (u4.τ 51),[]) ([57] ++ occL [(u8.τ 55),(u8.τ 56)],[57] ++ occL [(u8.τ 55),(u8.τ 56)])) <| .mk <|
 @sChk (compat (occ (u5.τ 53),[]) ([57] ++ occL [(u8.τ 55),(u8.τ 56)],[57] ++ occL [(u8.τ 55),(u8.τ 56)])) <| .mk <|
 @sOp (some 57) (xLit 9 2 [.int .i64 0,.int .i64 0,.int .i64 0,.str ⟨#[]⟩,.int .i64 0,.int .i64 0,.str ⟨#[]⟩,.nils,.nils] [(0,(u8.τ 55)),(1,(u8.τ 56))] u8.H) u8<|.mk fun u9=>
 @sOp (some 58) (xBuild [.int .i64 0,.int .i64 0,.int .i64 0,.str ⟨#[]⟩,.int .i64 0,.int .i64 0,.str ⟨#[]⟩,.nils,.nils] [(0,1,(.int .i64 9)),(4,4,(u9.τ 54)),(8,1,(u9.τ 57))] u9.H) u9<|.mk fun u10=>
 @sMv 59 8 u10<|.mk fun u11=>
 @sMv 60 9 u11<|.mk fun u12=>
 @sChk (compat ([50] ++ occL [(u1.τ 49)],[50] ++ occL [(u1.τ 49)]) (occ (u12.τ 59),[])) <| .mk <|
 @sChk (compat ([57] ++ occL [(u8.τ 55),(u8.τ 56)],[57] ++ occL [(u8.τ 55),(u8.τ 56)]) (occ (u12.τ 59),[])) <| .mk <|
 @sOp (some 61) (xIx 4 (u12.τ 59) (u12.τ 60) u12.H) u12<|.mk fun u13=>
 @sChk (compat ([50] ++ occL [(u1.τ 49)],[50] ++ occL [(u1.τ 49)]) (occ (u13.τ 61),[])) <| .mk <|
 @sChk (compat ([57] ++ occL [(u8.τ 55),(u8.τ 56)],[57] ++ occL [(u8.τ 55),(u8.τ 56)]) (occ (u13.τ 61),[])) <| .mk <|
 @sLd 62 4 61 true u13<|.mk fun u14=>
 @sOp (some 63) (xBuild [.int .i64 0,.int .i64 0,.int .i64 0,.str ⟨#[]⟩,.int .i64 0,.int .i64 0,.str ⟨#[]⟩,.nils,.nils] [(0,1,(.int .i64 2)),(4,4,(u14.τ 62))] u14.H) u14<|.mk fun u15=>
 @sChk (compat ([50] ++ occL [(u1.τ 49)],[50] ++ occL [(u1.τ 49)]) ([64] ++ occL [(u15.τ 58),(u15.τ 63)],[64] ++ occL [(u15.τ 58),(u15.τ 63)])) <| .mk <|
 @sOp (some 64) (xLit 9 2 [.int .i64 0,.int .i64 0,.int .i64 0,.str ⟨#[]⟩,.int .i64 0,.int .i64 0,.str ⟨#[]⟩,.nils,.nils] [(0,(u15.τ 58)),(1,(u15.τ 63))] u15.H) u15<|.mk fun u16=>
 @sOp (some 65) (xBuild [.nils,.int .i64 0,.nils,.int .i64 0] [(0,1,(u16.τ 50)),(2,1,(u16.τ 64))] u16.H) u16<|.mk fun u17=>
 @sChk (compat ([50] ++ occL [(u1.τ 49)],[50] ++ occL [(u1.τ 49)]) ([10],[10])) <| .mk <|
 @sChk (compat (occ (u4.τ 51),[]) ([10],[10])) <| .mk <|
 @sChk (compat (occ (u5.τ 53),[]) ([10],[10])) <| .mk <|
 @sChk (compat ([57] ++ occL [(u8.τ 55),(u8.τ 56)],[57] ++ occL [(u8.τ 55),(u8.τ 56)]) ([10],[10])) <| .mk <|
 @sChk (compat (occ (u12.τ 59),[]) ([10],[10])) <| .mk <|
 @sChk (compat (occ (u13.τ 61),[]) ([10],[10])) <| .mk <|
 @sChk (compat ([64] ++ occL [(u15.τ 58),(u15.τ 63)],[64] ++ occL [(u15.τ 58),(u15.τ 63)]) ([10],[10])) <| .mk <|
 @sOp (some 10) (xAlloc 10 29 [.nils,.int .i64 0,.nils,.int .i64 0] u17.H) u17<|.mk fun u18=>
 @sOp none (xStore 4 (u18.τ 10) (u18.τ 65) u18.H) u18<|.mk fun s=>
 @sMv 66 0 s<|.mk fun s=>
 @sOp (some 67) (xBin .quo false (s.τ 66) (.int .i64 5) s.H) s<|.mk fun s=>
 @sCall Tryz.prog (.func 18 []) [(s.τ 67),(.int .i64 2)] (some 68) s<|.mk fun s=>
 @sFl 69 3 10 s<|.mk fun s=>
 @sOp none (xStore 1 (s.τ 69) (s.τ 68) s.H) s<|.mk fun s=>
 @sLd 70 4 10 true s<|.mk fun s=>
 @sCall Tryz.prog (.func 14 []) [(s.τ 70)] (some 71) s<|.mk fun s=>
 @sOp (some 11) (xAlloc 11 38 [.int .i64 0,.int .i64 0,.int .i64 0,.str ⟨#[]⟩,.int .i64 0,.int .i64 0,.str ⟨#[]⟩,.nils,.nils,.nils,.nils,.int .i64 0,.int .i64 0] s.H) s<|.mk fun s=>
 @sOp none (xStore 13 (s.τ 11) (s.τ 71) s.H) s<|.mk fun s=>
 @sLd 73 4 10 true s<|.mk fun s=>
 @sLd 74 13 11 true s<|.mk fun s=>
 @sCall Tryz.prog (.func 21 []) [(s.τ 73),(s.τ 74),(.int .i64 0)] (some 75) s<|.mk fun s=>
 @sMv 72 75 s<|.mk fun s=>
 @sOp (some 76) (xExt (s.τ 72) 0 s.H) s<|.mk fun s=>
 @sOp (some 77) (xExt (s.τ 72) 1 s.H) s<|.mk fun s=>
 @sOp (some 78) (xExt (s.τ 72) 2 s.H) s<|.mk fun s=>
 @sOp (some 79) (xExt (s.τ 72) 3 s.H) s<|.mk fun s=>
 @sOp (some 12) (xAlloc 12 38 [.int .i64 0,.int .i64 0,.int .i64 0,.str ⟨#[]⟩,.int .i64 0,.int .i64 0,.str ⟨#[]⟩,.nils,.nils,.nils,.nils,.int .i64 0,.int .i64 0] s.H) s<|.mk fun s=>
 @sOp (some 13) (xAlloc 13 44 [.str ⟨#[]⟩,.int .i64 0,.int .i64 0] s.H) s<|.mk fun s=>
 @sOp none (xStore 13 (s.τ 12) (s.τ 76) s.H) s<|.mk fun s=>
 @sOp none (xStore 3 (s.τ 13) (s.τ 77) s.H) s<|.mk fun s=>
 @sMv 14 78 s<|.mk fun s=>
 @sMv 15 79 s<|.mk fun s=>
 @sLd 81 4 10 true s<|.mk fun u1=>
 @sLd 82 4 10 true u1<|.mk fun u2=>
 @sChk (compat (occ (s.τ 10),[]) (cfp 83 15 [(u2.τ 82)])) <| .mk <|
 @sCall0 Tryz.prog (.func 15 []) [(u2.τ 82)] (some 83) u2<|.mk fun u3=>
 @sCall0 Tryz.prog (.func 22 []) [(u3.τ 81),(u3.τ 83),(.int .i64 0)] (some 84) u3<|.mk fun u4=>
 @sMv 80 84 u4<|.mk fun u5=>
 @sOp (some 85) (xExt (u5.τ 80) 0 u5.H) u5<|.mk fun u6=>
 @sOp (some 86) (xExt (u6.τ 80) 1 u6.H) u6<|.mk fun u7=>
 @sOp (some 87) (xExt (u7.τ 80) 2 u7.H) u7<|.mk fun u8=>
 @sOp (some 88) (xExt (u8.τ 80) 3 u8.H) u8<|.mk fun u9=>
 @sChk (compat (occ (s.τ 10),[]) ([16],[16])) <| .mk <|
 @sChk (compat (occ (u1.τ 10),[]) ([16],[16])) <| .mk <|
 @sChk (compat (cfp 83 15 [(u2.τ 82)]) ([16],[16])) <| .mk <|
 @sChk (compat (cfp 84 22 [(u3.τ 81),(u3.τ 83),(.int .i64 0)]) ([16],[16])) <| .mk <|
 @sOp (some 16) (xAlloc 16 38 [.int .i64 0,.int .i64 0,.int .i64 0,.str ⟨#[]⟩,.int .i64 0,.int .i64 0,.str ⟨#[]⟩,.nils,.nils,.nils,.nils,.int .i64 0,.int .i64 0] u9.H) u9<|.mk fun u10=>
 @sChk (compat (occ (s.τ 10),[]) ([17],[17])) <| .mk <|
 @sChk (compat (occ (u1.τ 10),[]) ([17],[17])) <| .mk <|
 @sChk (compat (cfp 83 15 [(u2.τ 82)]) ([17],[17])) <| .mk <|
 @sChk (compat (cfp 84 22 [(u3.τ 81),(u3.τ 83),(.int .i64 0)]) ([17],[17])) <| .mk <|
 @sChk (compat ([16],[16]) ([17],[17])) <| .mk <|
 @sOp (some 17) (xAlloc 17 44 [.str ⟨#[]⟩,.int .i64 0,.int .i64 0] u10.H) u10<|.mk fun u11=>
 @sOp none (xStore 13 (u11.τ 16) (u11.τ 85) u11.H) u11<|.mk fun u12=>
 @sOp none (xStore 3 (u12.τ 17) (u12.τ 86) u12.H) u12<|.mk fun u13=>
 @sMv 18 87 u13<|.mk fun u14=>
 @sMv 19 88 u14<|.mk fun s=>
 @sMv 89 15 s<|.mk fun s=>
 @sMv 90 19 s<|.mk fun s=>
 @sOp (some 91) (xBin .neq false (s.τ 89) (s.τ 90) s.H) s<|.mk fun s=>
 @sMv 92 91 s<|.mk fun s=>
 @sGl 93 13 12 92 true false s<|.mk fun s=>
 @sGl 94 13 16 92 true false s<|.mk fun s=>
 @sGrd (guardOf (s.τ 92) false) (some 95) s ⟨fun s K=>@sCall Tryz.prog (.func 16 []) [(s.τ 93),(s.τ 94)] (some 95) s ⟨K⟩⟩<|.mk fun s=>
 @sGo 96 92 false s (fun s=>(xNot (s.τ 95) s.H))<|.mk fun s=>
 @sOp (some 97) (xPick (s.τ 92) (.bool true) (s.τ 96) s.H) s<|.mk fun s=>
 @sIf (s.τ 97) ⟨W6_b2 Φ s⟩ ⟨W6_b16 Φ s⟩
def W6 (Φ:EP) (s:St):Prop:=
 @sOp (some 4) (xMov (.bool false) s.H) s<|.mk fun s=>
 @sCall Tryz.prog (.func 11 []) [] (some 20) s<|.mk fun s=>
 @sOp (some 21) (xNot (s.τ 20) s.H) s<|.mk fun s=>
 @sIf (s.τ 21) ⟨W6_b1 Φ s⟩ ⟨W6_b27 Φ s⟩
theorem W6_rs (τ:Nat → AV) (H:Heap):resV Tryz.prog τ H [.tmp 4] = some (τ 4):=by kernel_rfl
theorem W6_eq (Φ:EP) (s:St):awp Tryz.prog (Tryz.f6.body.getD .skip) Φ s = W6 Φ s:=by kernel_rfl
theorem W6_S {args:List AV} {r:AV} (hl:args.length ≤ 119) (h:∀ vs,W6 (retK Tryz.prog [.tmp 4] r) ⟨Am.look (argT 0 args),hls [] vs,noG⟩):Am.Spec Tryz.prog 6 args r:=.of_W (W:=W6) Tryz.func6 (by kernel_rfl) (by kernel_rfl) (by kernel_rfl) Tryz.ntmps6 W6_eq (by kernel_rfl) hl h
end Go.Proofs.YtnngddgaobhkiaaGreat
set_option linter.unusedVariables false
set_option maxRecDepth 100000
namespace Go.Proofs.YtnngddgaobhkiaaGreat
open Go Go.Am
-- 11 "penance/penancelaw8.known"
def W11 (Φ:EP) (s:St):Prop:=
 @sOp (some 0) (xMov (.bool false) s.H) s<|.mk fun s=>
 @sOp (some 14) (xBuild [.int .i64 0,.int .i64 0,.int .i64 0,.str ⟨#[]⟩,.int .i64 0,.int .i64 0,.str ⟨#[]⟩,.nils,.nils] [(0,1,(.int .i64 1)),(1,1,(.int .i64 (-1))),(3,1,(.str ⟨#[112,97,121]⟩))] s.H) s<|.mk fun s=>
 @sOp (some 15) (xLit 9 1 [.int .i64 0,.int .i64 0,.int .i64 0,.str ⟨#[]⟩,.int .i64 0,.int .i64 0,.str ⟨#[]⟩,.nils,.nils] [(0,(s.τ 14))] s.H) s<|.mk fun s=>
 @sOp (some 16) (xBuild [.nils,.int .i64 0,.nils,.int .i64 0] [(2,1,(s.τ 15))] s.H) s<|.mk fun s=>
 @sOp (some 1) (xAlloc 1 29 [.nils,.int .i64 0,.nils,.int .i64 0] s.H) s<|.mk fun s=>
 @sOp none (xStore 4 (s.τ 1) (s.τ 16) s.H) s<|.mk fun s=>
 @sLd 17 4 1 true s<|.mk fun s=>
 @sCall Tryz.prog (.func 14 []) [(s.τ 17)] (some 18) s<|.mk fun s=>
 @sOp (some 2) (xAlloc 2 38 [.int .i64 0,.int .i64 0,.int .i64 0,.str ⟨#[]⟩,.int .i64 0,.int .i64 0,.str ⟨#[]⟩,.nils,.nils,.nils,.nils,.int .i64 0,.int .i64 0] s.H) s<|.mk fun s=>
 @sOp none (xStore 13 (s.τ 2) (s.τ 18) s.H) s<|.mk fun s=>
 @sLd 20 4 1 true s<|.mk fun s=>
 @sLd 21 13 2 true s<|.mk fun s=>
 @sCall Tryz.prog (.func 21 []) [(s.τ 20),(s.τ 21),(.int .i64 0)] (some 22) s<|.mk fun s=>
 @sMv 19 22 s<|.mk fun s=>
 @sOp (some 23) (xExt (s.τ 19) 0 s.H) s<|.mk fun s=>
 @sOp (some 24) (xExt (s.τ 19) 1 s.H) s<|.mk fun s=>
 @sOp (some 25) (xExt (s.τ 19) 2 s.H) s<|.mk fun s=>
 @sOp (some 26) (xExt (s.τ 19) 3 s.H) s<|.mk fun s=>
 @sOp (some 3) (xAlloc 3 38 [.int .i64 0,.int .i64 0,.int .i64 0,.str ⟨#[]⟩,.int .i64 0,.int .i64 0,.str ⟨#[]⟩,.nils,.nils,.nils,.nils,.int .i64 0,.int .i64 0] s.H) s<|.mk fun s=>
 @sOp (some 4) (xAlloc 4 44 [.str ⟨#[]⟩,.int .i64 0,.int .i64 0] s.H) s<|.mk fun s=>
 @sOp none (xStore 13 (s.τ 3) (s.τ 23) s.H) s<|.mk fun s=>
 @sOp none (xStore 3 (s.τ 4) (s.τ 24) s.H) s<|.mk fun s=>
 @sMv 5 25 s<|.mk fun s=>
 @sMv 6 26 s<|.mk fun s=>
 @sLd 28 4 1 true s<|.mk fun s=>
 @sLd 29 13 2 true s<|.mk fun s=>
 @sCall Tryz.prog (.func 21 []) [(s.τ 28),(s.τ 29),(.int .i64 1)] (some 30) s<|.mk fun s=>
 @sMv 27 30 s<|.mk fun s=>
 @sOp (some 31) (xExt (s.τ 27) 0 s.H) s<|.mk fun s=>
 @sOp (some 32) (xExt (s.τ 27) 1 s.H) s<|.mk fun s=>
 @sOp (some 33) (xExt (s.τ 27) 2 s.H) s<|.mk fun s=>
 @sOp (some 34) (xExt (s.τ 27) 3 s.H) s<|.mk fun s=>
 @sOp (some 7) (xAlloc 7 38 [.int .i64 0,.int .i64 0,.int .i64 0,.str ⟨#[]⟩,.int .i64 0,.int .i64 0,.str ⟨#[]⟩,.nils,.nils,.nils,.nils,.int .i64 0,.int .i64 0] s.H) s<|.mk fun s=>
 @sOp (some 8) (xAlloc 8 44 [.str ⟨#[]⟩,.int .i64 0,.int .i64 0] s.H) s<|.mk fun s=>
 @sOp none (xStore 13 (s.τ 7) (s.τ 31) s.H) s<|.mk fun s=>
 @sOp none (xStore 3 (s.τ 8) (s.τ 32) s.H) s<|.mk fun s=>
 @sMv 9 33 s<|.mk fun s=>
 @sMv 10 34 s<|.mk fun s=>
 @sLd 36 4 1 true s<|.mk fun s=>
 @sLd 37 13 3 true s<|.mk fun s=>
 @sCall Tryz.prog (.func 19 []) [(s.τ 36),(s.τ 37),(.int .i64 0),(.int .i64 7)] (some 38) s<|.mk fun s=>
 @sMv 35 38 s<|.mk fun s=>
 @sOp (some 39) (xExt (s.τ 35) 0 s.H) s<|.mk fun s=>
 @sOp (some 40) (xExt (s.τ 35) 1 s.H) s<|.mk fun s=>
 @sOp (some 41) (xExt (s.τ 35) 2 s.H) s<|.mk fun s=>
 @sOp (some 11) (xAlloc 11 38 [.int .i64 0,.int .i64 0,.int .i64 0,.str ⟨#[]⟩,.int .i64 0,.int .i64 0,.str ⟨#[]⟩,.nils,.nils,.nils,.nils,.int .i64 0,.int .i64 0] s.H) s<|.mk fun s=>
 @sOp (some 12) (xAlloc 12 44 [.str ⟨#[]⟩,.int .i64 0,.int .i64 0] s.H) s<|.mk fun s=>
 @sOp none (xStore 13 (s.τ 11) (s.τ 39) s.H) s<|.mk fun s=>
 @sOp none (xStore 3 (s.τ 12) (s.τ 40) s.H) s<|.mk fun s=>
 @sMv 13 41 s<|.mk fun s=>
 @sLd 42 4 1 true s<|.mk fun s=>
 @sCall Tryz.prog (.func 17 []) [(s.τ 42)] (some 43) s<|.mk fun s=>
 @sMv 44 43 s<|.mk fun s=>
 @sGm 45 6 44 true s<|.mk fun s=>
 @sGo 46 44 true s (fun s=>(xBin .eql false (s.τ 45) (.int .i64 0) s.H))<|.mk fun s=>
 @sOp (some 47) (xPick (s.τ 44) (s.τ 46) (.bool false) s.H) s<|.mk fun s=>
 @sMv 48 47 s<|.mk fun s=>
 @sGm 49 5 48 true s<|.mk fun s=>
 @sOp (some 50) (xPick (s.τ 48) (s.τ 49) (.bool false) s.H) s<|.mk fun s=>
 @sMv 51 50 s<|.mk fun s=>
 @sGf 52 0 4 51 true s<|.mk fun s=>
 @sGl 53 1 52 51 false true s<|.mk fun s=>
 @sGo 54 51 true s (fun s=>(xBin .eql false (s.τ 53) (.str ⟨#[112,97,121]⟩) s.H))<|.mk fun s=>
 @sOp (some 55) (xPick (s.τ 51) (s.τ 54) (.bool false) s.H) s<|.mk fun s=>
 @sMv 56 55 s<|.mk fun s=>
 @sGf 57 12 3 56 true s<|.mk fun s=>
 @sGl 58 1 57 56 false true s<|.mk fun s=>
 @sGo 59 56 true s (fun s=>(xBin .eql false (s.τ 58) (.int .i64 1) s.H))<|.mk fun s=>
 @sOp (some 60) (xPick (s.τ 56) (s.τ 59) (.bool false) s.H) s<|.mk fun s=>
 @sMv 61 60 s<|.mk fun s=>
 @sGm 62 10 61 true s<|.mk fun s=>
 @sGo 63 61 true s (fun s=>(xBin .eql false (s.τ 62) (.int .i64 12) s.H))<|.mk fun s=>
 @sOp (some 64) (xPick (s.τ 61) (s.τ 63) (.bool false) s.H) s<|.mk fun s=>
 @sMv 65 64 s<|.mk fun s=>
 @sGm 66 13 65 true s<|.mk fun s=>
 @sOp (some 67) (xPick (s.τ 65) (s.τ 66) (.bool false) s.H) s<|.mk fun s=>
 @sMv 68 67 s<|.mk fun s=>
 @sGf 69 2 12 68 true s<|.mk fun s=>
 @sGl 70 1 69 68 false true s<|.mk fun s=>
 @sGo 71 68 true s (fun s=>(xBin .eql false (s.τ 70) (.int .i64 7) s.H))<|.mk fun s=>
 @sOp (some 72) (xPick (s.τ 68) (s.τ 71) (.bool false) s.H) s<|.mk fun s=>
 @sMv 73 72 s<|.mk fun s=>
 @sGf 74 0 11 73 true s<|.mk fun s=>
 @sGf 75 0 74 73 true s<|.mk fun s=>
 @sGl 76 1 75 73 false true s<|.mk fun s=>
 @sGo 77 73 true s (fun s=>(xBin .eql false (s.τ 76) (.int .i64 0) s.H))<|.mk fun s=>
 @sOp (some 78) (xPick (s.τ 73) (s.τ 77) (.bool false) s.H) s<|.mk fun s=>
 @sMv 0 78 s<|.mk fun s=>
 Φ .ret s
theorem W11_rs (τ:Nat → AV) (H:Heap):resV Tryz.prog τ H [.tmp 0] = some (τ 0):=by kernel_rfl
theorem W11_eq (Φ:EP) (s:St):awp Tryz.prog (Tryz.f11.body.getD .skip) Φ s = W11 Φ s:=by kernel_rfl
theorem W11_S {args:List AV} {r:AV} (hl:args.length ≤ 79) (h:∀ vs,W11 (retK Tryz.prog [.tmp 0] r) ⟨Am.look (argT 0 args),hls [] vs,noG⟩):Am.Spec Tryz.prog 11 args r:=.of_W (W:=W11) Tryz.func11 (by kernel_rfl) (by kernel_rfl) (by kernel_rfl) Tryz.ntmps11 W11_eq (by kernel_rfl) hl h
-- 14 "penance/run.Begin"
def W14 (Φ:EP) (s:St):Prop:=
 @sOp (some 1) (xBox 1 29 (s.τ 0) s.H) s<|.mk fun s=>
 @sOp (some 2) (xAlloc 2 38 [.int .i64 0,.int .i64 0,.int .i64 0,.str ⟨#[]⟩,.int .i64 0,.int .i64 0,.str ⟨#[]⟩,.nils,.nils,.nils,.nils,.int .i64 0,.int .i64 0] s.H) s<|.mk fun s=>
 @sFl 3 2 1 s<|.mk fun u1=>
 @sLd 4 1 3 false u1<|.mk fun u2=>
 @sFl 5 3 1 u2<|.mk fun u3=>
 @sLd 6 1 5 false u3<|.mk fun u4=>
 @sOp (some 7) (xIx 9 (u4.τ 4) (u4.τ 6) u4.H) u4<|.mk fun u5=>
 @sLd 8 9 7 true u5<|.mk fun u6=>
 @sCall0 Tryz.prog (.func 32 []) [(u6.τ 8)] (some 9) u6<|.mk fun u7=>
 @sChk (compat (cfp 9 32 [(u6.τ 8)]) (occ (u7.τ 1),[])) <| .mk <|
 @sFl 10 0 1 u7<|.mk fun u8=>
 @sChk (compat (cfp 9 32 [(u6.τ 8)]) (occ (u8.τ 10),[])) <| .mk <|
 @sLd 11 1 10 false u8<|.mk fun u9=>
 @sCall0 Tryz.prog (.func 33 []) [(u9.τ 11)] (some 12) u9<|.mk fun u10=>
 @sChk (compat (cfp 9 32 [(u6.τ 8)]) (occ (u10.τ 1),[])) <| .mk <|
 @sChk (compat (cfp 12 33 [(u9.τ 11)]) (occ (u10.τ 1),[])) <| .mk <|
 @sFl 13 1 1 u10<|.mk fun u11=>
 @sChk (compat (cfp 9 32 [(u6.τ 8)]) (occ (u11.τ 13),[])) <| .mk <|
 @sChk (compat (cfp 12 33 [(u9.τ 11)]) (occ (u11.τ 13),[])) <| .mk <|
 @sLd 14 1 13 false u11<|.mk fun u12=>
 @sChk (compat (occ (s.τ 1),[]) ([15],[15])) <| .mk <|
 @sChk (compat (occ (u1.τ 3),[]) ([15],[15])) <| .mk <|
 @sChk (compat (occ (u2.τ 1),[]) ([15],[15])) <| .mk <|
 @sChk (compat (occ (u3.τ 5),[]) ([15],[15])) <| .mk <|
 @sChk (compat (occ (u4.τ 4),[]) ([15],[15])) <| .mk <|
 @sChk (compat (occ (u5.τ 7),[]) ([15],[15])) <| .mk <|
 @sChk (compat (cfp 9 32 [(u6.τ 8)]) ([15],[15])) <| .mk <|
 @sChk (compat (occ (u7.τ 1),[]) ([15],[15])) <| .mk <|
 @sChk (compat (occ (u8.τ 10),[]) ([15],[15])) <| .mk <|
 @sChk (compat (cfp 12 33 [(u9.τ 11)]) ([15],[15])) <| .mk <|
 @sOp (some 15) (xMks 15 27 1 24 [.nils] (u12.τ 14) (u12.τ 14) u12.H) u12<|.mk fun u13=>
 @sCall0 Tryz.prog (.func 34 []) [(u13.τ 15),(.int .i64 0),(.int .i64 0)] (some 16) u13<|.mk fun u14=>
 @sOp (some 17) (xBuild [.int .i64 0,.int .i64 0,.int .i64 0,.str ⟨#[]⟩,.int .i64 0,.int .i64 0,.str ⟨#[]⟩,.nils,.nils,.nils,.nils,.int .i64 0,.int .i64 0] [(0,9,(u14.τ 9)),(9,1,(u14.τ 12)),(10,1,(u14.τ 16))] u14.H) u14<|.mk fun u15=>
 @sOp none (xStore 13 (u15.τ 2) (u15.τ 17) u15.H) u15<|.mk fun s=>
 Φ .ret s
theorem W14_rs (τ:Nat → AV) (H:Heap):resV Tryz.prog τ H [.cell 2 38] = rdV H 13 true (τ 2):=by kernel_rfl
theorem W14_eq (Φ:EP) (s:St):awp Tryz.prog (Tryz.f14.body.getD .skip) Φ s = W14 Φ s:=by kernel_rfl
theorem W14_S {args:List AV} {r:AV} (hl:args.length ≤ 18) (h:∀ vs,W14 (retK Tryz.prog [.cell 2 38] r) ⟨Am.look (argT 0 args),hls [] vs,noG⟩):Am.Spec Tryz.prog 14 args r:=.of_W (W:=W14) Tryz.func14 (by kernel_rfl) (by kernel_rfl) (by kernel_rfl) Tryz.ntmps14 W14_eq (by kernel_rfl) hl h
end Go.Proofs.YtnngddgaobhkiaaGreat
set_option linter.unusedVariables false
set_option maxRecDepth 100000
namespace Go.Proofs.YtnngddgaobhkiaaGreat
open Go Go.Am
-- 15 "penance/penanceref8.Begin"
def W15 (Φ:EP) (s:St):Prop:=
 @sOp (some 1) (xBox 1 29 (s.τ 0) s.H) s<|.mk fun s=>
 @sOp (some 2) (xAlloc 2 38 [.int .i64 0,.int .i64 0,.int .i64 0,.str ⟨#[]⟩,.int .i64 0,.int .i64 0,.str ⟨#[]⟩,.nils,.nils,.nils,.nils,.int .i64 0,.int .i64 0] s.H) s<|.mk fun s=>
 @sFl 3 2 1 s<|.mk fun u1=>
 @sLd 4 1 3 false u1<|.mk fun u2=>
 @sFl 5 3 1 u2<|.mk fun u3=>
 @sLd 6 1 5 false u3<|.mk fun u4=>
 @sOp (some 7) (xIx 9 (u4.τ 4) (u4.τ 6) u4.H) u4<|.mk fun u5=>
 @sLd 8 9 7 true u5<|.mk fun u6=>
 @sCall0 Tryz.prog (.func 35 []) [(u6.τ 8)] (some 9) u6<|.mk fun u7=>
 @sChk (compat (occ (s.τ 1),[]) ([10] ++ occL [],[10] ++ occL [])) <| .mk <|
 @sChk (compat (occ (u1.τ 3),[]) ([10] ++ occL [],[10] ++ occL [])) <| .mk <|
 @sChk (compat (occ (u2.τ 1),[]) ([10] ++ occL [],[10] ++ occL [])) <| .mk <|
 @sChk (compat (occ (u3.τ 5),[]) ([10] ++ occL [],[10] ++ occL [])) <| .mk <|
 @sChk (compat (occ (u4.τ 4),[]) ([10] ++ occL [],[10] ++ occL [])) <| .mk <|
 @sChk (compat (occ (u5.τ 7),[]) ([10] ++ occL [],[10] ++ occL [])) <| .mk <|
 @sChk (compat (cfp 9 35 [(u6.τ 8)]) ([10] ++ occL [],[10] ++ occL [])) <| .mk <|
 @sOp (some 10) (xRow 10 3 1 0 [.int .i64 0] [] u7.H) u7<|.mk fun u8=>
 @sChk (compat (cfp 9 35 [(u6.τ 8)]) (occ (u8.τ 1),[])) <| .mk <|
 @sChk (compat ([10] ++ occL [],[10] ++ occL []) (occ (u8.τ 1),[])) <| .mk <|
 @sFl 11 0 1 u8<|.mk fun u9=>
 @sChk (compat (cfp 9 35 [(u6.τ 8)]) (occ (u9.τ 11),[])) <| .mk <|
 @sChk (compat ([10] ++ occL [],[10] ++ occL []) (occ (u9.τ 11),[])) <| .mk <|
 @sLd 12 1 11 false u9<|.mk fun u10=>
 @sOp (some 13) (xApp Tryz.prog 3 1 8 (some 13) (u10.τ 10) (u10.τ 12) u10.H) u10<|.mk fun u11=>
 @sChk (compat (cfp 9 35 [(u6.τ 8)]) (occ (u11.τ 1),[])) <| .mk <|
 @sChk (compat ([10] ++ occL [],[10] ++ occL []) (occ (u11.τ 1),[])) <| .mk <|
 @sChk (compat ([13] ++ (occ (u10.τ 10) ++ occ (u10.τ 12)),[13] ++ occ (u10.τ 10)) (occ (u11.τ 1),[])) <| .mk <|
 @sFl 14 1 1 u11<|.mk fun u12=>
 @sChk (compat (cfp 9 35 [(u6.τ 8)]) (occ (u12.τ 14),[])) <| .mk <|
 @sChk (compat ([10] ++ occL [],[10] ++ occL []) (occ (u12.τ 14),[])) <| .mk <|
 @sChk (compat ([13] ++ (occ (u10.τ 10) ++ occ (u10.τ 12)),[13] ++ occ (u10.τ 10)) (occ (u12.τ 14),[])) <| .mk <|
 @sLd 15 1 14 false u12<|.mk fun u13=>
 @sChk (compat (occ (s.τ 1),[]) ([16],[16])) <| .mk <|
 @sChk (compat (occ (u1.τ 3),[]) ([16],[16])) <| .mk <|
 @sChk (compat (occ (u2.τ 1),[]) ([16],[16])) <| .mk <|
 @sChk (compat (occ (u3.τ 5),[]) ([16],[16])) <| .mk <|
 @sChk (compat (occ (u4.τ 4),[]) ([16],[16])) <| .mk <|
 @sChk (compat (occ (u5.τ 7),[]) ([16],[16])) <| .mk <|
 @sChk (compat (cfp 9 35 [(u6.τ 8)]) ([16],[16])) <| .mk <|
 @sChk (compat ([10] ++ occL [],[10] ++ occL []) ([16],[16])) <| .mk <|
 @sChk (compat (occ (u8.τ 1),[]) ([16],[16])) <| .mk <|
 @sChk (compat (occ (u9.τ 11),[]) ([16],[16])) <| .mk <|
 @sChk (compat ([13] ++ (occ (u10.τ 10) ++ occ (u10.τ 12)),[13] ++ occ (u10.τ 10)) ([16],[16])) <| .mk <|
 @sOp (some 16) (xMks 16 27 1 24 [.nils] (u13.τ 15) (u13.τ 15) u13.H) u13<|.mk fun u14=>
 @sOp (some 17) (xBuild [.int .i64 0,.int .i64 0,.int .i64 0,.str ⟨#[]⟩,.int .i64 0,.int .i64 0,.str ⟨#[]⟩,.nils,.nils,.nils,.nils,.int .i64 0,.int .i64 0] [(0,9,(u14.τ 9)),(9,1,(u14.τ 13)),(10,1,(u14.τ 16))] u14.H) u14<|.mk fun u15=>
 @sOp none (xStore 13 (u15.τ 2) (u15.τ 17) u15.H) u15<|.mk fun s=>
 Φ .ret s
theorem W15_rs (τ:Nat → AV) (H:Heap):resV Tryz.prog τ H [.cell 2 38] = rdV H 13 true (τ 2):=by kernel_rfl
theorem W15_eq (Φ:EP) (s:St):awp Tryz.prog (Tryz.f15.body.getD .skip) Φ s = W15 Φ s:=by kernel_rfl
theorem W15_S {args:List AV} {r:AV} (hl:args.length ≤ 18) (h:∀ vs,W15 (retK Tryz.prog [.cell 2 38] r) ⟨Am.look (argT 0 args),hls [] vs,noG⟩):Am.Spec Tryz.prog 15 args r:=.of_W (W:=W15) Tryz.func15 (by kernel_rfl) (by kernel_rfl) (by kernel_rfl) Tryz.ntmps15 W15_eq (by kernel_rfl) hl h
-- 16 "penance/penanceref8.Same"
def W16 (Φ:EP) (s:St):Prop:=
 @sOp (some 2) (xBox 2 38 (s.τ 0) s.H) s<|.mk fun s=>
 @sOp (some 3) (xBox 3 38 (s.τ 1) s.H) s<|.mk fun s=>
 @sOp (some 4) (xMov (.bool false) s.H) s<|.mk fun s=>
 @sFl 5 0 2 s<|.mk fun s=>
 @sLd 6 9 5 true s<|.mk fun s=>
 @sFl 7 0 3 s<|.mk fun s=>
 @sLd 8 9 7 true s<|.mk fun s=>
 @sCall Tryz.prog (.func 36 []) [(s.τ 6),(s.τ 8)] (some 9) s<|.mk fun s=>
 @sMv 10 9 s<|.mk fun s=>
 @sGf 11 9 2 10 true s<|.mk fun s=>
 @sGl 12 1 11 10 false true s<|.mk fun s=>
 @sGf 13 9 3 10 true s<|.mk fun s=>
 @sGl 14 1 13 10 false true s<|.mk fun s=>
 @sGrd (guardOf (s.τ 10) true) (some 15) s ⟨fun s K=>@sCall Tryz.prog (.func 37 []) [(s.τ 12),(s.τ 14)] (some 15) s ⟨K⟩⟩<|.mk fun s=>
 @sOp (some 16) (xPick (s.τ 10) (s.τ 15) (.bool false) s.H) s<|.mk fun s=>
 @sMv 17 16 s<|.mk fun s=>
 @sGf 18 10 2 17 true s<|.mk fun s=>
 @sGl 19 1 18 17 false true s<|.mk fun s=>
 @sGf 20 10 3 17 true s<|.mk fun s=>
 @sGl 21 1 20 17 false true s<|.mk fun s=>
 @sGrd (guardOf (s.τ 17) true) (some 22) s ⟨fun s K=>@sCall Tryz.prog (.func 28 []) [(s.τ 19),(s.τ 21)] (some 22) s ⟨K⟩⟩<|.mk fun s=>
 @sOp (some 23) (xPick (s.τ 17) (s.τ 22) (.bool false) s.H) s<|.mk fun s=>
 @sMv 24 23 s<|.mk fun s=>
 @sGf 25 11 2 24 true s<|.mk fun s=>
 @sGl 26 1 25 24 false true s<|.mk fun s=>
 @sGf 27 11 3 24 true s<|.mk fun s=>
 @sGl 28 1 27 24 false true s<|.mk fun s=>
 @sGo 29 24 true s (fun s=>(xBin .eql false (s.τ 26) (s.τ 28) s.H))<|.mk fun s=>
 @sOp (some 30) (xPick (s.τ 24) (s.τ 29) (.bool false) s.H) s<|.mk fun s=>
 @sMv 31 30 s<|.mk fun s=>
 @sGf 32 12 2 31 true s<|.mk fun s=>
 @sGl 33 1 32 31 false true s<|.mk fun s=>
 @sGf 34 12 3 31 true s<|.mk fun s=>
 @sGl 35 1 34 31 false true s<|.mk fun s=>
 @sGo 36 31 true s (fun s=>(xBin .eql false (s.τ 33) (s.τ 35) s.H))<|.mk fun s=>
 @sOp (some 37) (xPick (s.τ 31) (s.τ 36) (.bool false) s.H) s<|.mk fun s=>
 @sMv 4 37 s<|.mk fun s=>
 Φ .ret s
theorem W16_rs (τ:Nat → AV) (H:Heap):resV Tryz.prog τ H [.tmp 4] = some (τ 4):=by kernel_rfl
theorem W16_eq (Φ:EP) (s:St):awp Tryz.prog (Tryz.f16.body.getD .skip) Φ s = W16 Φ s:=by kernel_rfl
theorem W16_S {args:List AV} {r:AV} (hl:args.length ≤ 38) (h:∀ vs,W16 (retK Tryz.prog [.tmp 4] r) ⟨Am.look (argT 0 args),hls [] vs,noG⟩):Am.Spec Tryz.prog 16 args r:=.of_W (W:=W16) Tryz.func16 (by kernel_rfl) (by kernel_rfl) (by kernel_rfl) Tryz.ntmps16 W16_eq (by kernel_rfl) hl h
-- 17 "penance/run.Check"
def W17_b1 (Φ:EP) (s:St):Prop:=
 @sOp (some 2) (xMov (.bool false) s.H) s<|.mk fun s=>
 Φ .ret s
def W17_k2 (Φ:EP) (s:St):Prop:=
 @sOp (some 2) (xMov (.bool true) s.H) s<|.mk fun s=>
 Φ .ret s
def W17_b3 (Φ:EP) (L0:SP) (s:St):Prop:=
 @sOp (some 2) (xMov (.bool false) s.H) s<|.mk fun s=>
 Φ .ret s
def W17_b4 (Φ:EP) (L0:SP) (s:St):Prop:=
 @sOp (some 71) (xBin .add false (s.τ 47) (.int .i64 1) s.H) s<|.mk fun s=>
 @sMv 47 71 s<|.mk fun s=>
 L0 s
def W17_b19 (Φ:EP) (L0:SP) (s:St):Prop:=
 @sOp (some 49) (xIx 9 (s.τ 45) (s.τ 47) s.H) s<|.mk fun s=>
 @sLd 50 9 49 true s<|.mk fun s=>
 @sOp (some 4) (xAlloc 4 35 [.int .i64 0,.int .i64 0,.int .i64 0,.str ⟨#[]⟩,.int .i64 0,.int .i64 0,.str ⟨#[]⟩,.nils,.nils] s.H) s<|.mk fun s=>
 @sOp none (xStore 9 (s.τ 4) (s.τ 50) s.H) s<|.mk fun s=>
 @sLd 51 9 4 true s<|.mk fun s=>
 @sCall Tryz.prog (.func 38 []) [(s.τ 51)] (some 52) s<|.mk fun s=>
 @sOp (some 53) (xBin .gtr false (s.τ 52) (.int .i64 2000) s.H) s<|.mk fun s=>
 @sMv 54 53 s<|.mk fun s=>
 @sGl 55 9 4 54 true false s<|.mk fun s=>
 @sGrd (guardOf (s.τ 54) false) (some 56) s ⟨fun s K=>@sCall Tryz.prog (.func 39 []) [(s.τ 55)] (some 56) s ⟨K⟩⟩<|.mk fun s=>
 @sOp (some 57) (xPick (s.τ 54) (.bool true) (s.τ 56) s.H) s<|.mk fun s=>
 @sMv 58 57 s<|.mk fun s=>
 @sGl 59 9 4 58 true false s<|.mk fun s=>
 @sGf 60 0 1 58 false s<|.mk fun s=>
 @sGl 61 1 60 58 false false s<|.mk fun s=>
 @sGo 62 58 false s (fun s=>(xLen (s.τ 61) s.H))<|.mk fun s=>
 @sGf 63 1 1 58 false s<|.mk fun s=>
 @sGl 64 1 63 58 false false s<|.mk fun s=>
 @sGf 65 2 1 58 false s<|.mk fun s=>
 @sGl 66 1 65 58 false false s<|.mk fun s=>
 @sGo 67 58 false s (fun s=>(xLen (s.τ 66) s.H))<|.mk fun s=>
 @sGrd (guardOf (s.τ 58) false) (some 68) s ⟨fun s K=>@sCall Tryz.prog (.func 40 []) [(s.τ 59),(s.τ 62),(s.τ 64),(s.τ 67)] (some 68) s ⟨K⟩⟩<|.mk fun s=>
 @sGo 69 58 false s (fun s=>(xNot (s.τ 68) s.H))<|.mk fun s=>
 @sOp (some 70) (xPick (s.τ 58) (.bool true) (s.τ 69) s.H) s<|.mk fun s=>
 @sIf (s.τ 70) ⟨W17_b3 Φ L0 s⟩ ⟨W17_b4 Φ L0 s⟩
def W17_l20 (Φ:EP) (L0:SP) (s:St):Prop:=
 @sOp (some 48) (xBin .lss false (s.τ 47) (s.τ 46) s.H) s<|.mk fun s=>
 @sIf (s.τ 48) ⟨W17_b19 Φ L0 s⟩ ⟨W17_k2 Φ s⟩
def W17_b21 (Φ:EP) (s:St):Prop:=
 @sFl 44 2 1 s<|.mk fun s=>
 @sLd 45 1 44 false s<|.mk fun s=>
 @sOp (some 46) (xLen (s.τ 45) s.H) s<|.mk fun s=>
 @sOp (some 47) (xMov (.int .i64 0) s.H) s<|.mk fun s=>
 @sLoop s ⟨fun L0 s=>W17_l20 Φ L0 s⟩
def W17 (Φ:EP) (s:St):Prop:=
 @sOp (some 1) (xBox 1 29 (s.τ 0) s.H) s<|.mk fun s=>
 @sOp (some 2) (xMov (.bool false) s.H) s<|.mk fun s=>
 @sFl 5 0 1 s<|.mk fun s=>
 @sLd 6 1 5 false s<|.mk fun s=>
 @sOp (some 7) (xLen (s.τ 6) s.H) s<|.mk fun s=>
 @sOp (some 8) (xBin .gtr false (s.τ 7) (.int .i64 20) s.H) s<|.mk fun s=>
 @sMv 9 8 s<|.mk fun s=>
 @sGf 10 1 1 9 false s<|.mk fun s=>
 @sGl 11 1 10 9 false false s<|.mk fun s=>
 @sGo 12 9 false s (fun s=>(xBin .lss false (s.τ 11) (.int .i64 0) s.H))<|.mk fun s=>
 @sOp (some 13) (xPick (s.τ 9) (.bool true) (s.τ 12) s.H) s<|.mk fun s=>
 @sMv 14 13 s<|.mk fun s=>
 @sGf 15 1 1 14 false s<|.mk fun s=>
 @sGl 16 1 15 14 false false s<|.mk fun s=>
 @sGo 17 14 false s (fun s=>(xBin .gtr false (s.τ 16) (.int .i64 10) s.H))<|.mk fun s=>
 @sOp (some 18) (xPick (s.τ 14) (.bool true) (s.τ 17) s.H) s<|.mk fun s=>
 @sMv 19 18 s<|.mk fun s=>
 @sGf 20 2 1 19 false s<|.mk fun s=>
 @sGl 21 1 20 19 false false s<|.mk fun s=>
 @sGo 22 19 false s (fun s=>(xLen (s.τ 21) s.H))<|.mk fun s=>
 @sGo 23 19 false s (fun s=>(xBin .lss false (s.τ 22) (.int .i64 1) s.H))<|.mk fun s=>
 @sOp (some 24) (xPick (s.τ 19) (.bool true) (s.τ 23) s.H) s<|.mk fun s=>
 @sMv 25 24 s<|.mk fun s=>
 @sGf 26 2 1 25 false s<|.mk fun s=>
 @sGl 27 1 26 25 false false s<|.mk fun s=>
 @sGo 28 25 false s (fun s=>(xLen (s.τ 27) s.H))<|.mk fun s=>
 @sGo 29 25 false s (fun s=>(xBin .gtr false (s.τ 28) (.int .i64 20) s.H))<|.mk fun s=>
 @sOp (some 30) (xPick (s.τ 25) (.bool true) (s.τ 29) s.H) s<|.mk fun s=>
 @sMv 31 30 s<|.mk fun s=>
 @sGf 32 3 1 31 false s<|.mk fun s=>
 @sGl 33 1 32 31 false false s<|.mk fun s=>
 @sGo 34 31 false s (fun s=>(xBin .lss false (s.τ 33) (.int .i64 0) s.H))<|.mk fun s=>
 @sOp (some 35) (xPick (s.τ 31) (.bool true) (s.τ 34) s.H) s<|.mk fun s=>
 @sMv 36 35 s<|.mk fun s=>
 @sGf 37 3 1 36 false s<|.mk fun s=>
 @sGl 38 1 37 36 false false s<|.mk fun s=>
 @sGf 39 2 1 36 false s<|.mk fun s=>
 @sGl 40 1 39 36 false false s<|.mk fun s=>
 @sGo 41 36 false s (fun s=>(xLen (s.τ 40) s.H))<|.mk fun s=>
 @sGo 42 36 false s (fun s=>(xBin .geq false (s.τ 38) (s.τ 41) s.H))<|.mk fun s=>
 @sOp (some 43) (xPick (s.τ 36) (.bool true) (s.τ 42) s.H) s<|.mk fun s=>
 @sIf (s.τ 43) ⟨W17_b1 Φ s⟩ ⟨W17_b21 Φ s⟩
theorem W17_rs (τ:Nat → AV) (H:Heap):resV Tryz.prog τ H [.tmp 2] = some (τ 2):=by kernel_rfl
theorem W17_eq (Φ:EP) (s:St):awp Tryz.prog (Tryz.f17.body.getD .skip) Φ s = W17 Φ s:=by kernel_rfl
theorem W17_S {args:List AV} {r:AV} (hl:args.length ≤ 72) (h:∀ vs,W17 (retK Tryz.prog [.tmp 2] r) ⟨Am.look (argT 0 args),hls [] vs,noG⟩):Am.Spec Tryz.prog 17 args r:=.of_W (W:=W17) Tryz.func17 (by kernel_rfl) (by kernel_rfl) (by kernel_rfl) Tryz.ntmps17 W17_eq (by kernel_rfl) hl h
-- 18 "penance/penancelaw8.within"
def W18_k1 (Φ:EP) (s:St):Prop:=
 @sMv 14 5 s<|.mk fun s=>
 @sMv 4 14 s<|.mk fun s=>
 Φ .ret s
def W18_b2 (Φ:EP) (s:St):Prop:=
 @sMv 11 5 s<|.mk fun s=>
 @sMv 12 1 s<|.mk fun s=>
 @sOp (some 13) (xBin .add false (s.τ 11) (s.τ 12) s.H) s<|.mk fun s=>
 @sMv 5 13 s<|.mk fun s=>
 W18_k1 Φ s
def W18 (Φ:EP) (s:St):Prop:=
 @sOp (some 4) (xMov (.int .i64 0) s.H) s<|.mk fun s=>
 @sMv 6 0 s<|.mk fun s=>
 @sMv 7 1 s<|.mk fun s=>
 @sOp (some 8) (xBin .rem false (s.τ 6) (s.τ 7) s.H) s<|.mk fun s=>
 @sMv 5 8 s<|.mk fun s=>
 @sMv 9 5 s<|.mk fun s=>
 @sOp (some 10) (xBin .lss false (s.τ 9) (.int .i64 0) s.H) s<|.mk fun s=>
 @sIf (s.τ 10) ⟨W18_b2 Φ s⟩ ⟨W18_k1 Φ s⟩
theorem W18_rs (τ:Nat → AV) (H:Heap):resV Tryz.prog τ H [.tmp 4] = some (τ 4):=by kernel_rfl
theorem W18_eq (Φ:EP) (s:St):awp Tryz.prog (Tryz.f18.body.getD .skip) Φ s = W18 Φ s:=by kernel_rfl
theorem W18_S {args:List AV} {r:AV} (hl:args.length ≤ 15) (h:∀ vs,W18 (retK Tryz.prog [.tmp 4] r) ⟨Am.look (argT 0 args),hls [] vs,noG⟩):Am.Spec Tryz.prog 18 args r:=.of_W (W:=W18) Tryz.func18 (by kernel_rfl) (by kernel_rfl) (by kernel_rfl) Tryz.ntmps18 W18_eq (by kernel_rfl) hl h
-- 19 "penance/run.Tell"
def W19_b1 (Φ:EP) (s:St):Prop:=
 @sOp (some 24) (xBuild [.int .i64 0,.int .i64 0,.int .i64 0,.str ⟨#[]⟩,.int .i64 0,.int .i64 0,.str ⟨#[]⟩,.nils,.nils,.nils,.nils,.int .i64 0,.int .i64 0] [] s.H) s<|.mk fun s=>
 @sOp (some 25) (xBuild [.str ⟨#[]⟩,.int .i64 0,.int .i64 0] [] s.H) s<|.mk fun s=>
 @sOp none (xStore 13 (s.τ 8) (s.τ 24) s.H) s<|.mk fun s=>
 @sOp none (xStore 3 (s.τ 9) (s.τ 25) s.H) s<|.mk fun s=>
 @sOp (some 10) (xMov (.bool false) s.H) s<|.mk fun s=>
 Φ .ret s
def W19_k4 (Φ:EP) (s:St):Prop:=
 @sFl 47 0 8 s<|.mk fun s=>
 @sLd 48 9 47 true s<|.mk fun s=>
 @sMv 49 11 s<|.mk fun s=>
 @sOp (some 50) (xBuild [.int .i64 0,.int .i64 0,.int .i64 0,.str ⟨#[]⟩,.int .i64 0,.int .i64 0,.str ⟨#[]⟩,.nils,.nils] [] s.H) s<|.mk fun s=>
 @sCall Tryz.prog (.func 44 []) [(s.τ 48),(s.τ 49),(s.τ 50)] (some 51) s<|.mk fun s=>
 @sCall Tryz.prog (.func 32 []) [(s.τ 51)] (some 52) s<|.mk fun s=>
 @sFl 53 0 8 s<|.mk fun s=>
 @sOp none (xStore 9 (s.τ 53) (s.τ 52) s.H) s<|.mk fun s=>
 @sLd 54 13 8 true s<|.mk fun u1=>
 @sFl 55 3 12 u1<|.mk fun u2=>
 @sLd 56 1 55 false u2<|.mk fun u3=>
 @sMv 57 2 u3<|.mk fun u4=>
 @sMv 58 3 u4<|.mk fun u5=>
 @sOp (some 59) (xBuild [.str ⟨#[]⟩,.int .i64 0,.int .i64 0] [(0,1,(u5.τ 56)),(1,1,(u5.τ 57)),(2,1,(u5.τ 58))] u5.H) u5<|.mk fun u6=>
 @sChk (compat (occ (u1.τ 12),[]) (occ (u6.τ 8),occ (u6.τ 8))) <| .mk <|
 @sChk (compat (occ (u2.τ 55),[]) (occ (u6.τ 8),occ (u6.τ 8))) <| .mk <|
 @sOp none (xStore 13 (u6.τ 8) (u6.τ 54) u6.H) u6<|.mk fun u7=>
 @sOp none (xStore 3 (u7.τ 9) (u7.τ 59) u7.H) u7<|.mk fun u8=>
 @sOp (some 10) (xMov (.bool true) u8.H) u8<|.mk fun s=>
 Φ .ret s
def W19_b5 (Φ:EP) (s:St):Prop:=
 @sFl 41 9 8 s<|.mk fun s=>
 @sLd 42 1 41 false s<|.mk fun s=>
 @sFl 43 2 12 s<|.mk fun s=>
 @sLd 44 1 43 false s<|.mk fun s=>
 @sMv 45 3 s<|.mk fun s=>
 @sOp (some 46) (xIx 1 (s.τ 42) (s.τ 44) s.H) s<|.mk fun s=>
 @sOp none (xStore 1 (s.τ 46) (s.τ 45) s.H) s<|.mk fun s=>
 W19_k4 Φ s
def W19_b13 (Φ:EP) (s:St):Prop:=
 @sFl 26 0 8 s<|.mk fun s=>
 @sLd 27 9 26 true s<|.mk fun s=>
 @sMv 28 11 s<|.mk fun s=>
 @sCall Tryz.prog (.func 43 []) [(s.τ 27),(s.τ 28)] (some 29) s<|.mk fun s=>
 @sOp (some 12) (xAlloc 12 35 [.int .i64 0,.int .i64 0,.int .i64 0,.str ⟨#[]⟩,.int .i64 0,.int .i64 0,.str ⟨#[]⟩,.nils,.nils] s.H) s<|.mk fun s=>
 @sOp none (xStore 9 (s.τ 12) (s.τ 29) s.H) s<|.mk fun s=>
 @sFl 30 2 12 s<|.mk fun s=>
 @sLd 31 1 30 false s<|.mk fun s=>
 @sOp (some 32) (xBin .geq false (s.τ 31) (.int .i64 0) s.H) s<|.mk fun s=>
 @sMv 33 32 s<|.mk fun s=>
 @sGf 34 2 12 33 true s<|.mk fun s=>
 @sGl 35 1 34 33 false true s<|.mk fun s=>
 @sGf 36 9 8 33 true s<|.mk fun s=>
 @sGl 37 1 36 33 false true s<|.mk fun s=>
 @sGo 38 33 true s (fun s=>(xLen (s.τ 37) s.H))<|.mk fun s=>
 @sGo 39 33 true s (fun s=>(xBin .lss false (s.τ 35) (s.τ 38) s.H))<|.mk fun s=>
 @sOp (some 40) (xPick (s.τ 33) (s.τ 39) (.bool false) s.H) s<|.mk fun s=>
 @sIf (s.τ 40) ⟨W19_b5 Φ s⟩ ⟨W19_k4 Φ s⟩
def W19 (Φ:EP) (s:St):Prop:=
 @sOp (some 4) (xBox 4 29 (s.τ 0) s.H) s<|.mk fun s=>
 @sOp (some 5) (xBox 5 38 (s.τ 1) s.H) s<|.mk fun s=>
 @sOp (some 8) (xAlloc 8 38 [.int .i64 0,.int .i64 0,.int .i64 0,.str ⟨#[]⟩,.int .i64 0,.int .i64 0,.str ⟨#[]⟩,.nils,.nils,.nils,.nils,.int .i64 0,.int .i64 0] s.H) s<|.mk fun s=>
 @sOp (some 9) (xAlloc 9 44 [.str ⟨#[]⟩,.int .i64 0,.int .i64 0] s.H) s<|.mk fun s=>
 @sOp (some 10) (xMov (.bool false) s.H) s<|.mk fun s=>
 @sLd 13 13 5 true s<|.mk fun s=>
 @sCall Tryz.prog (.func 41 []) [(s.τ 13)] (some 14) s<|.mk fun s=>
 @sOp none (xStore 13 (s.τ 8) (s.τ 14) s.H) s<|.mk fun s=>
 @sFl 16 0 8 s<|.mk fun s=>
 @sLd 17 9 16 true s<|.mk fun s=>
 @sMv 18 2 s<|.mk fun s=>
 @sCall Tryz.prog (.func 42 []) [(s.τ 17),(s.τ 18)] (some 19) s<|.mk fun s=>
 @sMv 15 19 s<|.mk fun s=>
 @sOp (some 20) (xExt (s.τ 15) 0 s.H) s<|.mk fun s=>
 @sOp (some 21) (xExt (s.τ 15) 1 s.H) s<|.mk fun s=>
 @sMv 11 20 s<|.mk fun s=>
 @sMv 10 21 s<|.mk fun s=>
 @sMv 22 10 s<|.mk fun s=>
 @sOp (some 23) (xNot (s.τ 22) s.H) s<|.mk fun s=>
 @sIf (s.τ 23) ⟨W19_b1 Φ s⟩ ⟨W19_b13 Φ s⟩
theorem W19_rs (τ:Nat → AV) (H:Heap):resV Tryz.prog τ H [.cell 8 38,.cell 9 44,.tmp 10] = ob (ob (rdV H 13 true (τ 8)) fun v=>ob (ob (rdV H 3 true (τ 9)) fun v=>ob (ob (some (τ 10)) fun v=>ob (some []) fun vs=>some (v :: vs)) fun vs=>some (v :: vs)) fun vs=>some (v :: vs)) fun vs=>some (.tup vs):=by kernel_rfl
theorem W19_eq (Φ:EP) (s:St):awp Tryz.prog (Tryz.f19.body.getD .skip) Φ s = W19 Φ s:=by kernel_rfl
theorem W19_S {args:List AV} {r:AV} (hl:args.length ≤ 60) (h:∀ vs,W19 (retK Tryz.prog [.cell 8 38,.cell 9 44,.tmp 10] r) ⟨Am.look (argT 0 args),hls [] vs,noG⟩):Am.Spec Tryz.prog 19 args r:=.of_W (W:=W19) Tryz.func19 (by kernel_rfl) (by kernel_rfl) (by kernel_rfl) Tryz.ntmps19 W19_eq (by kernel_rfl) hl h
-- 21 "penance/run.Do"
def W21_b1 (Φ:EP) (J0:Nat → SP) (s:St):Prop:=
 @sOp (some 28) (xBuild [.int .i64 0,.int .i64 0,.int .i64 0,.str ⟨#[]⟩,.int .i64 0,.int .i64 0,.str ⟨#[]⟩,.nils,.nils,.nils,.nils,.int .i64 0,.int .i64 0] [] s.H) s<|.mk fun s=>
 @sOp (some 29) (xBuild [.str ⟨#[]⟩,.int .i64 0,.int .i64 0] [] s.H) s<|.mk fun s=>
 @sOp none (xStore 13 (s.τ 6) (s.τ 28) s.H) s<|.mk fun s=>
 @sOp none (xStore 3 (s.τ 7) (s.τ 29) s.H) s<|.mk fun s=>
 @sOp (some 8) (xMov (.bool false) s.H) s<|.mk fun s=>
 @sOp (some 9) (xMov (.int .i64 12) s.H) s<|.mk fun s=>
 Φ .ret s
def W21_b2 (Φ:EP) (J0:Nat → SP) (s:St):Prop:=
 @sOp (some 34) (xBuild [.int .i64 0,.int .i64 0,.int .i64 0,.str ⟨#[]⟩,.int .i64 0,.int .i64 0,.str ⟨#[]⟩,.nils,.nils,.nils,.nils,.int .i64 0,.int .i64 0] [] s.H) s<|.mk fun s=>
 @sOp (some 35) (xBuild [.str ⟨#[]⟩,.int .i64 0,.int .i64 0] [] s.H) s<|.mk fun s=>
 @sOp none (xStore 13 (s.τ 6) (s.τ 34) s.H) s<|.mk fun s=>
 @sOp none (xStore 3 (s.τ 7) (s.τ 35) s.H) s<|.mk fun s=>
 @sOp (some 8) (xMov (.bool false) s.H) s<|.mk fun s=>
 @sOp (some 9) (xMov (.int .i64 10) s.H) s<|.mk fun s=>
 Φ .ret s
def W21_b3 (Φ:EP) (J0:Nat → SP) (s:St):Prop:=
 @sOp (some 9) (xMov (.int .i64 11) s.H) s<|.mk fun s=>
 J0 0 s
def W21_b4 (Φ:EP) (J0:Nat → SP) (s:St):Prop:=
 @sLd 190 13 6 true s<|.mk fun u1=>
 @sLd 191 3 7 true u1<|.mk fun u2=>
 @sMv 192 8 u2<|.mk fun u3=>
 @sChk (compat (occ (u1.τ 7),[]) (occ (u3.τ 6),occ (u3.τ 6))) <| .mk <|
 @sOp none (xStore 13 (u3.τ 6) (u3.τ 190) u3.H) u3<|.mk fun u4=>
 @sOp none (xStore 3 (u4.τ 7) (u4.τ 191) u4.H) u4<|.mk fun u5=>
 @sMv 8 192 u5<|.mk fun u6=>
 @sOp (some 9) (xMov (.int .i64 0) u6.H) u6<|.mk fun s=>
 Φ .ret s
def W21_k9 (Φ:EP) (J0:Nat → SP) (s:St):Prop:=
 @sFl 171 0 6 s<|.mk fun s=>
 @sLd 172 9 171 true s<|.mk fun s=>
 @sMv 173 13 s<|.mk fun s=>
 @sLd 174 9 14 true s<|.mk fun s=>
 @sCall Tryz.prog (.func 44 []) [(s.τ 172),(s.τ 173),(s.τ 174)] (some 175) s<|.mk fun s=>
 @sCall Tryz.prog (.func 32 []) [(s.τ 175)] (some 176) s<|.mk fun s=>
 @sFl 177 0 6 s<|.mk fun s=>
 @sOp none (xStore 9 (s.τ 177) (s.τ 176) s.H) s<|.mk fun s=>
 @sFl 178 11 6 s<|.mk fun s=>
 @sLd 179 1 178 false s<|.mk fun s=>
 @sOp (some 180) (xBin .add false (s.τ 179) (.int .i64 1) s.H) s<|.mk fun s=>
 @sFl 181 11 6 s<|.mk fun s=>
 @sOp none (xStore 1 (s.τ 181) (s.τ 180) s.H) s<|.mk fun s=>
 @sFl 182 0 6 s<|.mk fun u1=>
 @sLd 183 9 182 true u1<|.mk fun u2=>
 @sCall0 Tryz.prog (.func 38 []) [(u2.τ 183)] (some 184) u2<|.mk fun u3=>
 @sChk (compat (cfp 184 38 [(u2.τ 183)]) (occ (u3.τ 6),[])) <| .mk <|
 @sFl 185 10 6 u3<|.mk fun u4=>
 @sChk (compat (cfp 184 38 [(u2.τ 183)]) (occ (u4.τ 185),[])) <| .mk <|
 @sLd 186 1 185 false u4<|.mk fun u5=>
 @sCall0 Tryz.prog (.func 52 []) [(u5.τ 186)] (some 187) u5<|.mk fun u6=>
 @sOp (some 188) (xBin .add false (u6.τ 184) (u6.τ 187) u6.H) u6<|.mk fun u7=>
 @sOp (some 189) (xBin .gtr false (u7.τ 188) (.int .i64 2000) u7.H) u7<|.mk fun s=>
 @sIf (s.τ 189) ⟨W21_b3 Φ J0 s⟩ ⟨W21_b4 Φ J0 s⟩
def W21_b10 (Φ:EP) (J0:Nat → SP) (s:St):Prop:=
 @sFl 72 12 6 s<|.mk fun s=>
 @sLd 73 1 72 false s<|.mk fun s=>
 @sFl 74 1 12 s<|.mk fun s=>
 @sLd 75 1 74 false s<|.mk fun s=>
 @sFl 76 3 12 s<|.mk fun s=>
 @sLd 77 1 76 false s<|.mk fun s=>
 @sOp (some 78) (xBuild [.int .i64 0,.int .i64 0,.int .i64 0,.str ⟨#[]⟩,.int .i64 0,.int .i64 0,.str ⟨#[]⟩,.nils,.nils] [(0,1,(.int .i64 14)),(1,1,(s.τ 73)),(2,1,(s.τ 75)),(3,1,(s.τ 77))] s.H) s<|.mk fun s=>
 @sOp none (xStore 9 (s.τ 14) (s.τ 78) s.H) s<|.mk fun s=>
 @sFl 79 3 12 s<|.mk fun s=>
 @sLd 80 1 79 false s<|.mk fun s=>
 @sFl 81 12 6 s<|.mk fun s=>
 @sLd 82 1 81 false s<|.mk fun s=>
 @sOp (some 83) (xBuild [.str ⟨#[]⟩,.int .i64 0,.int .i64 0] [(0,1,(s.τ 80)),(1,1,(s.τ 82))] s.H) s<|.mk fun s=>
 @sOp none (xStore 3 (s.τ 7) (s.τ 83) s.H) s<|.mk fun s=>
 @sOp (some 8) (xMov (.bool true) s.H) s<|.mk fun s=>
 @sFl 84 12 6 s<|.mk fun s=>
 @sLd 85 1 84 false s<|.mk fun s=>
 @sOp (some 86) (xBin .add false (s.τ 85) (.int .i64 1) s.H) s<|.mk fun s=>
 @sFl 87 12 6 s<|.mk fun s=>
 @sOp none (xStore 1 (s.τ 87) (s.τ 86) s.H) s<|.mk fun s=>
 W21_k9 Φ J0 s
def W21_b11 (Φ:EP) (J0:Nat → SP) (s:St):Prop:=
 @sFl 90 9 6 s<|.mk fun s=>
 @sLd 91 1 90 false s<|.mk fun s=>
 @sFl 92 1 12 s<|.mk fun s=>
 @sLd 93 1 92 false s<|.mk fun s=>
 @sMv 94 15 s<|.mk fun s=>
 @sOp (some 95) (xIx 1 (s.τ 91) (s.τ 93) s.H) s<|.mk fun s=>
 @sOp none (xStore 1 (s.τ 95) (s.τ 94) s.H) s<|.mk fun s=>
 W21_k9 Φ J0 s
def W21_b13 (Φ:EP) (J0:Nat → SP) (s:St):Prop:=
 @sFl 98 10 6 s<|.mk fun s=>
 @sLd 99 1 98 false s<|.mk fun s=>
 @sFl 100 1 12 s<|.mk fun s=>
 @sLd 101 1 100 false s<|.mk fun s=>
 @sFl 102 8 12 s<|.mk fun s=>
 @sLd 103 1 102 false s<|.mk fun s=>
 @sOp (some 104) (xIx 9 (s.τ 103) (.int .i64 0) s.H) s<|.mk fun s=>
 @sLd 105 9 104 true s<|.mk fun s=>
 @sCall0 Tryz.prog (.func 48 []) [(s.τ 99),(s.τ 101),(s.τ 105)] (some 106) s<|.mk fun s=>
 @sFl 107 10 6 s<|.mk fun s=>
 @sOp none (xStore 1 (s.τ 107) (s.τ 106) s.H) s<|.mk fun s=>
 W21_k9 Φ J0 s
def W21_b15 (Φ:EP) (J0:Nat → SP) (s:St):Prop:=
 @sFl 111 10 6 s<|.mk fun s=>
 @sLd 112 1 111 false s<|.mk fun s=>
 @sFl 113 1 12 s<|.mk fun s=>
 @sLd 114 1 113 false s<|.mk fun s=>
 @sCall Tryz.prog (.func 49 []) [(s.τ 112),(s.τ 114)] (some 115) s<|.mk fun s=>
 @sMv 110 115 s<|.mk fun s=>
 @sOp (some 116) (xExt (s.τ 110) 0 s.H) s<|.mk fun s=>
 @sOp (some 117) (xExt (s.τ 110) 1 s.H) s<|.mk fun s=>
 @sOp none (xStore 9 (s.τ 14) (s.τ 116) s.H) s<|.mk fun s=>
 @sFl 118 10 6 s<|.mk fun s=>
 @sOp none (xStore 1 (s.τ 118) (s.τ 117) s.H) s<|.mk fun s=>
 W21_k9 Φ J0 s
def W21_b17 (Φ:EP) (J0:Nat → SP) (s:St):Prop:=
 @sFl 121 10 6 s<|.mk fun s=>
 @sLd 122 1 121 false s<|.mk fun s=>
 @sFl 123 1 12 s<|.mk fun s=>
 @sLd 124 1 123 false s<|.mk fun s=>
 @sCall Tryz.prog (.func 50 []) [(s.τ 122),(s.τ 124)] (some 125) s<|.mk fun s=>
 @sFl 126 10 6 s<|.mk fun s=>
 @sOp none (xStore 1 (s.τ 126) (s.τ 125) s.H) s<|.mk fun s=>
 W21_k9 Φ J0 s
def W21_b19 (Φ:EP) (J0:Nat → SP) (s:St):Prop:=
 @sFl 129 10 6 s<|.mk fun s=>
 @sLd 130 1 129 false s<|.mk fun s=>
 @sFl 131 1 12 s<|.mk fun s=>
 @sLd 132 1 131 false s<|.mk fun s=>
 @sFl 133 2 12 s<|.mk fun s=>
 @sLd 134 1 133 false s<|.mk fun s=>
 @sCall Tryz.prog (.func 34 []) [(s.τ 130),(s.τ 132),(s.τ 134)] (some 135) s<|.mk fun s=>
 @sFl 136 10 6 s<|.mk fun s=>
 @sOp none (xStore 1 (s.τ 136) (s.τ 135) s.H) s<|.mk fun s=>
 W21_k9 Φ J0 s
def W21_b20 (Φ:EP) (J0:Nat → SP) (s:St):Prop:=
 @sFl 145 8 12 s<|.mk fun s=>
 @sLd 146 1 145 false s<|.mk fun s=>
 @sOp (some 147) (xIx 9 (s.τ 146) (.int .i64 0) s.H) s<|.mk fun s=>
 @sLd 148 9 147 true s<|.mk fun s=>
 @sOp none (xStore 9 (s.τ 14) (s.τ 148) s.H) s<|.mk fun s=>
 W21_k9 Φ J0 s
def W21_b21 (Φ:EP) (J0:Nat → SP) (s:St):Prop:=
 @sFl 139 8 12 s<|.mk fun s=>
 @sLd 140 1 139 false s<|.mk fun s=>
 @sOp (some 141) (xIx 9 (s.τ 140) (.int .i64 1) s.H) s<|.mk fun s=>
 @sLd 142 9 141 true s<|.mk fun s=>
 @sOp none (xStore 9 (s.τ 14) (s.τ 142) s.H) s<|.mk fun s=>
 @sMv 143 15 s<|.mk fun s=>
 @sOp (some 144) (xBin .neq false (s.τ 143) (.int .i64 0) s.H) s<|.mk fun s=>
 @sIf (s.τ 144) ⟨W21_b20 Φ J0 s⟩ ⟨W21_k9 Φ J0 s⟩
def W21_b22 (Φ:EP) (J0:Nat → SP) (s:St):Prop:=
 @sFl 151 8 12 s<|.mk fun s=>
 @sLd 152 1 151 false s<|.mk fun s=>
 @sFl 153 2 11 s<|.mk fun s=>
 @sLd 154 1 153 false s<|.mk fun s=>
 @sOp (some 155) (xIx 9 (s.τ 152) (s.τ 154) s.H) s<|.mk fun s=>
 @sLd 156 9 155 true s<|.mk fun s=>
 @sOp none (xStore 9 (s.τ 14) (s.τ 156) s.H) s<|.mk fun s=>
 W21_k9 Φ J0 s
def W21_b23 (Φ:EP) (J0:Nat → SP) (s:St):Prop:=
 @sFl 159 2 3 s<|.mk fun s=>
 @sLd 160 1 159 false s<|.mk fun s=>
 @sFl 161 1 12 s<|.mk fun s=>
 @sLd 162 1 161 false s<|.mk fun s=>
 @sOp (some 163) (xIx 9 (s.τ 160) (s.τ 162) s.H) s<|.mk fun s=>
 @sLd 164 9 163 true s<|.mk fun s=>
 @sOp none (xStore 9 (s.τ 14) (s.τ 164) s.H) s<|.mk fun s=>
 W21_k9 Φ J0 s
def W21_b25 (Φ:EP) (J0:Nat → SP) (s:St):Prop:=
 @sFl 167 0 6 s<|.mk fun s=>
 @sLd 168 9 167 true s<|.mk fun s=>
 @sMv 169 13 s<|.mk fun s=>
 @sCall Tryz.prog (.func 51 []) [(s.τ 168),(s.τ 169)] (some 170) s<|.mk fun s=>
 @sMv 13 170 s<|.mk fun s=>
 W21_k9 Φ J0 s
def W21_b26 (Φ:EP) (J0:Nat → SP) (s:St):Prop:=
 @sOp (some 166) (xBin .eql false (s.τ 69) (.int .i64 8) s.H) s<|.mk fun s=>
 @sMv 165 166 s<|.mk fun s=>
 @sIf (s.τ 165) ⟨W21_b25 Φ J0 s⟩ ⟨W21_k9 Φ J0 s⟩
def W21_b27 (Φ:EP) (J0:Nat → SP) (s:St):Prop:=
 @sOp (some 158) (xBin .eql false (s.τ 69) (.int .i64 13) s.H) s<|.mk fun s=>
 @sMv 157 158 s<|.mk fun s=>
 @sIf (s.τ 157) ⟨W21_b23 Φ J0 s⟩ ⟨W21_b26 Φ J0 s⟩
def W21_b28 (Φ:EP) (J0:Nat → SP) (s:St):Prop:=
 @sOp (some 150) (xBin .eql false (s.τ 69) (.int .i64 10) s.H) s<|.mk fun s=>
 @sMv 149 150 s<|.mk fun s=>
 @sIf (s.τ 149) ⟨W21_b22 Φ J0 s⟩ ⟨W21_b27 Φ J0 s⟩
def W21_b29 (Φ:EP) (J0:Nat → SP) (s:St):Prop:=
 @sOp (some 138) (xBin .eql false (s.τ 69) (.int .i64 9) s.H) s<|.mk fun s=>
 @sMv 137 138 s<|.mk fun s=>
 @sIf (s.τ 137) ⟨W21_b21 Φ J0 s⟩ ⟨W21_b28 Φ J0 s⟩
def W21_b30 (Φ:EP) (J0:Nat → SP) (s:St):Prop:=
 @sOp (some 128) (xBin .eql false (s.τ 69) (.int .i64 6) s.H) s<|.mk fun s=>
 @sMv 127 128 s<|.mk fun s=>
 @sIf (s.τ 127) ⟨W21_b19 Φ J0 s⟩ ⟨W21_b29 Φ J0 s⟩
def W21_b31 (Φ:EP) (J0:Nat → SP) (s:St):Prop:=
 @sOp (some 120) (xBin .eql false (s.τ 69) (.int .i64 5) s.H) s<|.mk fun s=>
 @sMv 119 120 s<|.mk fun s=>
 @sIf (s.τ 119) ⟨W21_b17 Φ J0 s⟩ ⟨W21_b30 Φ J0 s⟩
def W21_b32 (Φ:EP) (J0:Nat → SP) (s:St):Prop:=
 @sOp (some 109) (xBin .eql false (s.τ 69) (.int .i64 4) s.H) s<|.mk fun s=>
 @sMv 108 109 s<|.mk fun s=>
 @sIf (s.τ 108) ⟨W21_b15 Φ J0 s⟩ ⟨W21_b31 Φ J0 s⟩
def W21_b33 (Φ:EP) (J0:Nat → SP) (s:St):Prop:=
 @sOp (some 97) (xBin .eql false (s.τ 69) (.int .i64 3) s.H) s<|.mk fun s=>
 @sMv 96 97 s<|.mk fun s=>
 @sIf (s.τ 96) ⟨W21_b13 Φ J0 s⟩ ⟨W21_b32 Φ J0 s⟩
def W21_b34 (Φ:EP) (J0:Nat → SP) (s:St):Prop:=
 @sOp (some 89) (xBin .eql false (s.τ 69) (.int .i64 2) s.H) s<|.mk fun s=>
 @sMv 88 89 s<|.mk fun s=>
 @sIf (s.τ 88) ⟨W21_b11 Φ J0 s⟩ ⟨W21_b33 Φ J0 s⟩
def W21_k35 (Φ:EP) (J0:Nat → SP) (s:St):Prop:=
 @sFl 68 0 12 s<|.mk fun s=>
 @sLd 69 1 68 false s<|.mk fun s=>
 @sOp (some 71) (xBin .eql false (s.τ 69) (.int .i64 1) s.H) s<|.mk fun s=>
 @sMv 70 71 s<|.mk fun s=>
 @sIf (s.τ 70) ⟨W21_b10 Φ J0 s⟩ ⟨W21_b34 Φ J0 s⟩
def W21_b37 (Φ:EP) (J0:Nat → SP) (s:St):Prop:=
 @sFl 59 4 12 s<|.mk fun s=>
 @sLd 60 4 59 true s<|.mk fun s=>
 @sFl 61 9 6 s<|.mk fun s=>
 @sLd 62 1 61 false s<|.mk fun s=>
 @sCall Tryz.prog (.func 47 []) [(s.τ 60),(s.τ 62)] (some 63) s<|.mk fun s=>
 @sMv 58 63 s<|.mk fun s=>
 @sOp (some 64) (xExt (s.τ 58) 0 s.H) s<|.mk fun s=>
 @sOp (some 65) (xExt (s.τ 58) 1 s.H) s<|.mk fun s=>
 @sMv 15 64 s<|.mk fun s=>
 @sMv 9 65 s<|.mk fun s=>
 @sMv 66 9 s<|.mk fun s=>
 @sOp (some 67) (xBin .neq false (s.τ 66) (.int .i64 0) s.H) s<|.mk fun s=>
 @sIf (s.τ 67) ⟨J0 0 s⟩ ⟨W21_k35 Φ J0 s⟩
def W21_b43 (Φ:EP) (J0:Nat → SP) (s:St):Prop:=
 @sLd 36 13 4 true s<|.mk fun s=>
 @sCall Tryz.prog (.func 41 []) [(s.τ 36)] (some 37) s<|.mk fun s=>
 @sOp none (xStore 13 (s.τ 6) (s.τ 37) s.H) s<|.mk fun s=>
 @sMv 38 10 s<|.mk fun s=>
 @sMv 39 2 s<|.mk fun s=>
 @sOp (some 40) (xIx 3 (s.τ 38) (s.τ 39) s.H) s<|.mk fun s=>
 @sLd 41 3 40 true s<|.mk fun s=>
 @sOp (some 11) (xAlloc 11 60 [.int .i64 0,.nils,.int .i64 0] s.H) s<|.mk fun s=>
 @sOp none (xStore 3 (s.τ 11) (s.τ 41) s.H) s<|.mk fun s=>
 @sFl 42 0 6 s<|.mk fun s=>
 @sLd 43 9 42 true s<|.mk fun s=>
 @sFl 44 1 11 s<|.mk fun s=>
 @sLd 45 1 44 false s<|.mk fun s=>
 @sCall Tryz.prog (.func 43 []) [(s.τ 43),(s.τ 45)] (some 46) s<|.mk fun s=>
 @sOp (some 12) (xAlloc 12 35 [.int .i64 0,.int .i64 0,.int .i64 0,.str ⟨#[]⟩,.int .i64 0,.int .i64 0,.str ⟨#[]⟩,.nils,.nils] s.H) s<|.mk fun s=>
 @sOp none (xStore 9 (s.τ 12) (s.τ 46) s.H) s<|.mk fun s=>
 @sFl 47 1 11 s<|.mk fun s=>
 @sLd 48 1 47 false s<|.mk fun s=>
 @sOp (some 49) (xBuild [.int .i64 0,.int .i64 0,.int .i64 0,.str ⟨#[]⟩,.int .i64 0,.int .i64 0,.str ⟨#[]⟩,.nils,.nils] [] s.H) s<|.mk fun s=>
 @sOp (some 14) (xAlloc 14 35 [.int .i64 0,.int .i64 0,.int .i64 0,.str ⟨#[]⟩,.int .i64 0,.int .i64 0,.str ⟨#[]⟩,.nils,.nils] s.H) s<|.mk fun s=>
 @sMv 13 48 s<|.mk fun s=>
 @sOp none (xStore 9 (s.τ 14) (s.τ 49) s.H) s<|.mk fun s=>
 @sOp (some 15) (xMov (.int .i64 0) s.H) s<|.mk fun s=>
 @sFl 50 0 12 s<|.mk fun s=>
 @sLd 51 1 50 false s<|.mk fun s=>
 @sOp (some 52) (xBin .eql false (s.τ 51) (.int .i64 2) s.H) s<|.mk fun s=>
 @sMv 53 52 s<|.mk fun s=>
 @sGf 54 0 12 53 false s<|.mk fun s=>
 @sGl 55 1 54 53 false false s<|.mk fun s=>
 @sGo 56 53 false s (fun s=>(xBin .eql false (s.τ 55) (.int .i64 9) s.H))<|.mk fun s=>
 @sOp (some 57) (xPick (s.τ 53) (.bool true) (s.τ 56) s.H) s<|.mk fun s=>
 @sIf (s.τ 57) ⟨W21_b37 Φ J0 s⟩ ⟨W21_k35 Φ J0 s⟩
def W21_b44 (Φ:EP) (J0:Nat → SP) (s:St):Prop:=
 @sFl 31 11 4 s<|.mk fun s=>
 @sLd 32 1 31 false s<|.mk fun s=>
 @sOp (some 33) (xBin .geq false (s.τ 32) (.int .i64 5000) s.H) s<|.mk fun s=>
 @sMv 30 33 s<|.mk fun s=>
 @sIf (s.τ 30) ⟨W21_b2 Φ J0 s⟩ ⟨W21_b43 Φ J0 s⟩
def W21_s50 (Φ:EP) (J0:Nat → SP) (s:St):Prop:=
 @sFl 16 0 4 s<|.mk fun s=>
 @sLd 17 9 16 true s<|.mk fun s=>
 @sCall Tryz.prog (.func 46 []) [(s.τ 17)] (some 18) s<|.mk fun s=>
 @sMv 10 18 s<|.mk fun s=>
 @sMv 20 2 s<|.mk fun s=>
 @sOp (some 21) (xBin .lss false (s.τ 20) (.int .i64 0) s.H) s<|.mk fun s=>
 @sMv 22 21 s<|.mk fun s=>
 @sGm 23 2 22 false s<|.mk fun s=>
 @sGm 24 10 22 false s<|.mk fun s=>
 @sGo 25 22 false s (fun s=>(xLen (s.τ 24) s.H))<|.mk fun s=>
 @sGo 26 22 false s (fun s=>(xBin .geq false (s.τ 23) (s.τ 25) s.H))<|.mk fun s=>
 @sOp (some 27) (xPick (s.τ 22) (.bool true) (s.τ 26) s.H) s<|.mk fun s=>
 @sMv 19 27 s<|.mk fun s=>
 @sIf (s.τ 19) ⟨W21_b1 Φ J0 s⟩ ⟨W21_b44 Φ J0 s⟩
def W21_g51 (Φ:EP) (J0:Nat → SP) (s:St):Prop:=
 @sOp (some 193) (xBuild [.int .i64 0,.int .i64 0,.int .i64 0,.str ⟨#[]⟩,.int .i64 0,.int .i64 0,.str ⟨#[]⟩,.nils,.nils,.nils,.nils,.int .i64 0,.int .i64 0] [] s.H) s<|.mk fun s=>
 @sOp (some 194) (xBuild [.str ⟨#[]⟩,.int .i64 0,.int .i64 0] [] s.H) s<|.mk fun s=>
 @sMv 195 9 s<|.mk fun s=>
 @sOp none (xStore 13 (s.τ 6) (s.τ 193) s.H) s<|.mk fun s=>
 @sOp none (xStore 3 (s.τ 7) (s.τ 194) s.H) s<|.mk fun s=>
 @sOp (some 8) (xMov (.bool false) s.H) s<|.mk fun s=>
 @sMv 9 195 s<|.mk fun s=>
 Φ .ret s
def W21 (Φ:EP) (s:St):Prop:=
 @sOp (some 3) (xBox 3 29 (s.τ 0) s.H) s<|.mk fun s=>
 @sOp (some 4) (xBox 4 38 (s.τ 1) s.H) s<|.mk fun s=>
 @sOp (some 6) (xAlloc 6 38 [.int .i64 0,.int .i64 0,.int .i64 0,.str ⟨#[]⟩,.int .i64 0,.int .i64 0,.str ⟨#[]⟩,.nils,.nils,.nils,.nils,.int .i64 0,.int .i64 0] s.H) s<|.mk fun s=>
 @sOp (some 7) (xAlloc 7 44 [.str ⟨#[]⟩,.int .i64 0,.int .i64 0] s.H) s<|.mk fun s=>
 @sOp (some 8) (xMov (.bool false) s.H) s<|.mk fun s=>
 @sOp (some 9) (xMov (.int .i64 0) s.H) s<|.mk fun s=>
 @sScope s ⟨fun J0 s=>W21_s50 Φ J0 s⟩ ⟨[(0,fun J0 s=>W21_g51 Φ J0 s)]⟩
theorem W21_rs (τ:Nat → AV) (H:Heap):resV Tryz.prog τ H [.cell 6 38,.cell 7 44,.tmp 8,.tmp 9] = ob (ob (rdV H 13 true (τ 6)) fun v=>ob (ob (rdV H 3 true (τ 7)) fun v=>ob (ob (some (τ 8)) fun v=>ob (ob (some (τ 9)) fun v=>ob (some []) fun vs=>some (v :: vs)) fun vs=>some (v :: vs)) fun vs=>some (v :: vs)) fun vs=>some (v :: vs)) fun vs=>some (.tup vs):=by kernel_rfl
theorem W21_eq (Φ:EP) (s:St):awp Tryz.prog (Tryz.f21.body.getD .skip) Φ s = W21 Φ s:=by kernel_rfl
theorem W21_S {args:List AV} {r:AV} (hl:args.length ≤ 196) (h:∀ vs,W21 (retK Tryz.prog [.cell 6 38,.cell 7 44,.tmp 8,.tmp 9] r) ⟨Am.look (argT 0 args),hls [] vs,noG⟩):Am.Spec Tryz.prog 21 args r:=.of_W (W:=W21) Tryz.func21 (by kernel_rfl) (by kernel_rfl) (by kernel_rfl) Tryz.ntmps21 W21_eq (by kernel_rfl) hl h
-- 22 "penance/penanceref8.Do"
def W22_b1 (Φ:EP) (s:St):Prop:=
 @sOp (some 29) (xBuild [.int .i64 0,.int .i64 0,.int .i64 0,.str ⟨#[]⟩,.int .i64 0,.int .i64 0,.str ⟨#[]⟩,.nils,.nils,.nils,.nils,.int .i64 0,.int .i64 0] [] s.H) s<|.mk fun s=>
 @sOp (some 30) (xBuild [.str ⟨#[]⟩,.int .i64 0,.int .i64 0] [] s.H) s<|.mk fun s=>
 @sOp none (xStore 13 (s.τ 6) (s.τ 29) s.H) s<|.mk fun s=>
 @sOp none (xStore 3 (s.τ 7) (s.τ 30) s.H) s<|.mk fun s=>
 @sOp (some 8) (xMov (.bool false) s.H) s<|.mk fun s=>
 @sOp (some 9) (xMov (.int .i64 12) s.H) s<|.mk fun s=>
 Φ .ret s
def W22_b2 (Φ:EP) (s:St):Prop:=
 @sOp (some 34) (xBuild [.int .i64 0,.int .i64 0,.int .i64 0,.str ⟨#[]⟩,.int .i64 0,.int .i64 0,.str ⟨#[]⟩,.nils,.nils,.nils,.nils,.int .i64 0,.int .i64 0] [] s.H) s<|.mk fun s=>
 @sOp (some 35) (xBuild [.str ⟨#[]⟩,.int .i64 0,.int .i64 0] [] s.H) s<|.mk fun s=>
 @sOp none (xStore 13 (s.τ 6) (s.τ 34) s.H) s<|.mk fun s=>
 @sOp none (xStore 3 (s.τ 7) (s.τ 35) s.H) s<|.mk fun s=>
 @sOp (some 8) (xMov (.bool false) s.H) s<|.mk fun s=>
 @sOp (some 9) (xMov (.int .i64 10) s.H) s<|.mk fun s=>
 Φ .ret s
def W22_b3 (Φ:EP) (s:St):Prop:=
 @sOp (some 61) (xBuild [.int .i64 0,.int .i64 0,.int .i64 0,.str ⟨#[]⟩,.int .i64 0,.int .i64 0,.str ⟨#[]⟩,.nils,.nils,.nils,.nils,.int .i64 0,.int .i64 0] [] s.H) s<|.mk fun u1=>
 @sOp (some 62) (xBuild [.str ⟨#[]⟩,.int .i64 0,.int .i64 0] [] u1.H) u1<|.mk fun u2=>
 @sFl 63 13 15 u2<|.mk fun u3=>
 @sLd 64 1 63 false u3<|.mk fun u4=>
 @sChk (compat (occ (u2.τ 15),[]) (occ (u4.τ 6),occ (u4.τ 6))) <| .mk <|
 @sChk (compat (occ (u3.τ 63),[]) (occ (u4.τ 6),occ (u4.τ 6))) <| .mk <|
 @sOp none (xStore 13 (u4.τ 6) (u4.τ 61) u4.H) u4<|.mk fun u5=>
 @sChk (compat (occ (u2.τ 15),[]) (occ (u5.τ 7),occ (u5.τ 7))) <| .mk <|
 @sChk (compat (occ (u3.τ 63),[]) (occ (u5.τ 7),occ (u5.τ 7))) <| .mk <|
 @sOp none (xStore 3 (u5.τ 7) (u5.τ 62) u5.H) u5<|.mk fun u6=>
 @sOp (some 8) (xMov (.bool false) u6.H) u6<|.mk fun u7=>
 @sMv 9 64 u7<|.mk fun s=>
 Φ .ret s
def W22_b4 (Φ:EP) (s:St):Prop:=
 @sOp (some 92) (xBuild [.int .i64 0,.int .i64 0,.int .i64 0,.str ⟨#[]⟩,.int .i64 0,.int .i64 0,.str ⟨#[]⟩,.nils,.nils,.nils,.nils,.int .i64 0,.int .i64 0] [] s.H) s<|.mk fun s=>
 @sOp (some 93) (xBuild [.str ⟨#[]⟩,.int .i64 0,.int .i64 0] [] s.H) s<|.mk fun s=>
 @sOp none (xStore 13 (s.τ 6) (s.τ 92) s.H) s<|.mk fun s=>
 @sOp none (xStore 3 (s.τ 7) (s.τ 93) s.H) s<|.mk fun s=>
 @sOp (some 8) (xMov (.bool false) s.H) s<|.mk fun s=>
 @sOp (some 9) (xMov (.int .i64 11) s.H) s<|.mk fun s=>
 Φ .ret s
def W22_b5 (Φ:EP) (s:St):Prop:=
 @sLd 94 13 12 true s<|.mk fun u1=>
 @sFl 95 9 15 u1<|.mk fun u2=>
 @sLd 96 3 95 true u2<|.mk fun u3=>
 @sFl 97 12 15 u3<|.mk fun u4=>
 @sLd 98 1 97 false u4<|.mk fun u5=>
 @sChk (compat (occ (u1.τ 15),[]) (occ (u5.τ 6),occ (u5.τ 6))) <| .mk <|
 @sChk (compat (occ (u2.τ 95),[]) (occ (u5.τ 6),occ (u5.τ 6))) <| .mk <|
 @sChk (compat (occ (u3.τ 15),[]) (occ (u5.τ 6),occ (u5.τ 6))) <| .mk <|
 @sChk (compat (occ (u4.τ 97),[]) (occ (u5.τ 6),occ (u5.τ 6))) <| .mk <|
 @sOp none (xStore 13 (u5.τ 6) (u5.τ 94) u5.H) u5<|.mk fun u6=>
 @sChk (compat (occ (u3.τ 15),[]) (occ (u6.τ 7),occ (u6.τ 7))) <| .mk <|
 @sChk (compat (occ (u4.τ 97),[]) (occ (u6.τ 7),occ (u6.τ 7))) <| .mk <|
 @sOp none (xStore 3 (u6.τ 7) (u6.τ 96) u6.H) u6<|.mk fun u7=>
 @sMv 8 98 u7<|.mk fun u8=>
 @sOp (some 9) (xMov (.int .i64 0) u8.H) u8<|.mk fun s=>
 Φ .ret s
def W22_k10 (Φ:EP) (s:St):Prop:=
 @sLd 73 9 10 true s<|.mk fun s=>
 @sMv 74 13 s<|.mk fun s=>
 @sFl 75 0 15 s<|.mk fun s=>
 @sLd 76 9 75 true s<|.mk fun s=>
 @sCall Tryz.prog (.func 56 []) [(s.τ 73),(s.τ 74),(s.τ 76)] (some 77) s<|.mk fun s=>
 @sCall Tryz.prog (.func 35 []) [(s.τ 77)] (some 78) s<|.mk fun s=>
 @sFl 79 0 12 s<|.mk fun s=>
 @sOp none (xStore 9 (s.τ 79) (s.τ 78) s.H) s<|.mk fun s=>
 @sFl 80 11 4 s<|.mk fun s=>
 @sLd 81 1 80 false s<|.mk fun s=>
 @sOp (some 82) (xBin .add false (s.τ 81) (.int .i64 1) s.H) s<|.mk fun s=>
 @sFl 83 11 12 s<|.mk fun s=>
 @sOp none (xStore 1 (s.τ 83) (s.τ 82) s.H) s<|.mk fun s=>
 @sFl 84 0 12 s<|.mk fun u1=>
 @sLd 85 9 84 true u1<|.mk fun u2=>
 @sCall0 Tryz.prog (.func 57 []) [(u2.τ 85)] (some 86) u2<|.mk fun u3=>
 @sChk (compat (cfp 86 57 [(u2.τ 85)]) (occ (u3.τ 12),[])) <| .mk <|
 @sFl 87 10 12 u3<|.mk fun u4=>
 @sChk (compat (cfp 86 57 [(u2.τ 85)]) (occ (u4.τ 87),[])) <| .mk <|
 @sLd 88 1 87 false u4<|.mk fun u5=>
 @sCall0 Tryz.prog (.func 58 []) [(u5.τ 88)] (some 89) u5<|.mk fun u6=>
 @sOp (some 90) (xBin .add false (u6.τ 86) (u6.τ 89) u6.H) u6<|.mk fun u7=>
 @sOp (some 91) (xBin .gtr false (u7.τ 90) (.int .i64 2000) u7.H) u7<|.mk fun s=>
 @sIf (s.τ 91) ⟨W22_b4 Φ s⟩ ⟨W22_b5 Φ s⟩
def W22_b12 (Φ:EP) (s:St):Prop:=
 @sMv 68 13 s<|.mk fun s=>
 @sLd 69 9 10 true s<|.mk fun s=>
 @sMv 70 13 s<|.mk fun s=>
 @sCall Tryz.prog (.func 55 []) [(s.τ 69),(s.τ 70)] (some 71) s<|.mk fun s=>
 @sOp (some 72) (xSlc 1 (s.τ 68) none (some (s.τ 71)) s.H) s<|.mk fun s=>
 @sMv 13 72 s<|.mk fun s=>
 W22_k10 Φ s
def W22_b13 (Φ:EP) (s:St):Prop:=
 @sFl 65 0 14 s<|.mk fun s=>
 @sLd 66 1 65 false s<|.mk fun s=>
 @sOp (some 67) (xBin .eql false (s.τ 66) (.int .i64 8) s.H) s<|.mk fun s=>
 @sIf (s.τ 67) ⟨W22_b12 Φ s⟩ ⟨W22_k10 Φ s⟩
def W22_b16 (Φ:EP) (s:St):Prop:=
 @sLd 36 13 4 true s<|.mk fun s=>
 @sOp (some 12) (xAlloc 12 38 [.int .i64 0,.int .i64 0,.int .i64 0,.str ⟨#[]⟩,.int .i64 0,.int .i64 0,.str ⟨#[]⟩,.nils,.nils,.nils,.nils,.int .i64 0,.int .i64 0] s.H) s<|.mk fun s=>
 @sOp none (xStore 13 (s.τ 12) (s.τ 36) s.H) s<|.mk fun s=>
 @sOp (some 37) (xRow 37 3 1 0 [.int .i64 0] [] s.H) s<|.mk fun s=>
 @sFl 38 9 4 s<|.mk fun s=>
 @sLd 39 1 38 false s<|.mk fun s=>
 @sOp (some 40) (xApp Tryz.prog 3 1 8 (some 40) (s.τ 37) (s.τ 39) s.H) s<|.mk fun s=>
 @sFl 41 9 12 s<|.mk fun s=>
 @sOp none (xStore 1 (s.τ 41) (s.τ 40) s.H) s<|.mk fun s=>
 @sMv 42 11 s<|.mk fun s=>
 @sMv 43 2 s<|.mk fun s=>
 @sOp (some 44) (xIx 3 (s.τ 42) (s.τ 43) s.H) s<|.mk fun s=>
 @sFl 45 1 44 s<|.mk fun s=>
 @sLd 46 1 45 false s<|.mk fun s=>
 @sMv 13 46 s<|.mk fun s=>
 @sLd 47 9 10 true s<|.mk fun s=>
 @sMv 48 13 s<|.mk fun s=>
 @sCall Tryz.prog (.func 53 []) [(s.τ 47),(s.τ 48)] (some 49) s<|.mk fun s=>
 @sOp (some 14) (xAlloc 14 35 [.int .i64 0,.int .i64 0,.int .i64 0,.str ⟨#[]⟩,.int .i64 0,.int .i64 0,.str ⟨#[]⟩,.nils,.nils] s.H) s<|.mk fun s=>
 @sOp none (xStore 9 (s.τ 14) (s.τ 49) s.H) s<|.mk fun s=>
 @sLd 50 4 3 true s<|.mk fun u1=>
 @sLd 51 9 14 true u1<|.mk fun u2=>
 @sMv 52 11 u2<|.mk fun u3=>
 @sMv 53 2 u3<|.mk fun u4=>
 @sOp (some 54) (xIx 3 (u4.τ 52) (u4.τ 53) u4.H) u4<|.mk fun u5=>
 @sFl 55 2 54 u5<|.mk fun u6=>
 @sLd 56 1 55 false u6<|.mk fun u7=>
 @sCall0 Tryz.prog (.func 54 []) [(u7.τ 50),(u7.τ 12),(u7.τ 51),(u7.τ 56)] (some 57) u7<|.mk fun u8=>
 @sChk (compat (occ (s.τ 3),[]) ([15],[15])) <| .mk <|
 @sChk (compat (occ (u1.τ 14),[]) ([15],[15])) <| .mk <|
 @sChk (compat (occ (u4.τ 52),[]) ([15],[15])) <| .mk <|
 @sChk (compat (occ (u5.τ 54),[]) ([15],[15])) <| .mk <|
 @sChk (compat (occ (u6.τ 55),[]) ([15],[15])) <| .mk <|
 @sChk (compat (cfp 57 54 [(u7.τ 50),(u7.τ 12),(u7.τ 51),(u7.τ 56)]) ([15],[15])) <| .mk <|
 @sOp (some 15) (xAlloc 15 107 [.int .i64 0,.int .i64 0,.int .i64 0,.str ⟨#[]⟩,.int .i64 0,.int .i64 0,.str ⟨#[]⟩,.nils,.nils,.str ⟨#[]⟩,.int .i64 0,.int .i64 0,.bool false,.int .i64 0] u8.H) u8<|.mk fun u9=>
 @sOp none (xStore 14 (u9.τ 15) (u9.τ 57) u9.H) u9<|.mk fun s=>
 @sFl 58 13 15 s<|.mk fun s=>
 @sLd 59 1 58 false s<|.mk fun s=>
 @sOp (some 60) (xBin .neq false (s.τ 59) (.int .i64 0) s.H) s<|.mk fun s=>
 @sIf (s.τ 60) ⟨W22_b3 Φ s⟩ ⟨W22_b13 Φ s⟩
def W22_b17 (Φ:EP) (s:St):Prop:=
 @sFl 31 11 4 s<|.mk fun s=>
 @sLd 32 1 31 false s<|.mk fun s=>
 @sOp (some 33) (xBin .geq false (s.τ 32) (.int .i64 5000) s.H) s<|.mk fun s=>
 @sIf (s.τ 33) ⟨W22_b2 Φ s⟩ ⟨W22_b16 Φ s⟩
def W22 (Φ:EP) (s:St):Prop:=
 @sOp (some 3) (xBox 3 29 (s.τ 0) s.H) s<|.mk fun s=>
 @sOp (some 4) (xBox 4 38 (s.τ 1) s.H) s<|.mk fun s=>
 @sOp (some 6) (xAlloc 6 38 [.int .i64 0,.int .i64 0,.int .i64 0,.str ⟨#[]⟩,.int .i64 0,.int .i64 0,.str ⟨#[]⟩,.nils,.nils,.nils,.nils,.int .i64 0,.int .i64 0] s.H) s<|.mk fun s=>
 @sOp (some 7) (xAlloc 7 44 [.str ⟨#[]⟩,.int .i64 0,.int .i64 0] s.H) s<|.mk fun s=>
 @sOp (some 8) (xMov (.bool false) s.H) s<|.mk fun s=>
 @sOp (some 9) (xMov (.int .i64 0) s.H) s<|.mk fun s=>
 @sFl 16 0 4 s<|.mk fun s=>
 @sLd 17 9 16 true s<|.mk fun s=>
 @sCall Tryz.prog (.func 35 []) [(s.τ 17)] (some 18) s<|.mk fun s=>
 @sOp (some 10) (xAlloc 10 35 [.int .i64 0,.int .i64 0,.int .i64 0,.str ⟨#[]⟩,.int .i64 0,.int .i64 0,.str ⟨#[]⟩,.nils,.nils] s.H) s<|.mk fun s=>
 @sOp none (xStore 9 (s.τ 10) (s.τ 18) s.H) s<|.mk fun s=>
 @sLd 19 9 10 true s<|.mk fun s=>
 @sCall Tryz.prog (.func 25 []) [(s.τ 19)] (some 20) s<|.mk fun s=>
 @sMv 11 20 s<|.mk fun s=>
 @sMv 21 2 s<|.mk fun s=>
 @sOp (some 22) (xBin .lss false (s.τ 21) (.int .i64 0) s.H) s<|.mk fun s=>
 @sMv 23 22 s<|.mk fun s=>
 @sGm 24 2 23 false s<|.mk fun s=>
 @sGm 25 11 23 false s<|.mk fun s=>
 @sGo 26 23 false s (fun s=>(xLen (s.τ 25) s.H))<|.mk fun s=>
 @sGo 27 23 false s (fun s=>(xBin .geq false (s.τ 24) (s.τ 26) s.H))<|.mk fun s=>
 @sOp (some 28) (xPick (s.τ 23) (.bool true) (s.τ 27) s.H) s<|.mk fun s=>
 @sIf (s.τ 28) ⟨W22_b1 Φ s⟩ ⟨W22_b17 Φ s⟩
theorem W22_rs (τ:Nat → AV) (H:Heap):resV Tryz.prog τ H [.cell 6 38,.cell 7 44,.tmp 8,.tmp 9] = ob (ob (rdV H 13 true (τ 6)) fun v=>ob (ob (rdV H 3 true (τ 7)) fun v=>ob (ob (some (τ 8)) fun v=>ob (ob (some (τ 9)) fun v=>ob (some []) fun vs=>some (v :: vs)) fun vs=>some (v :: vs)) fun vs=>some (v :: vs)) fun vs=>some (v :: vs)) fun vs=>some (.tup vs):=by kernel_rfl
theorem W22_eq (Φ:EP) (s:St):awp Tryz.prog (Tryz.f22.body.getD .skip) Φ s = W22 Φ s:=by kernel_rfl
theorem W22_S {args:List AV} {r:AV} (hl:args.length ≤ 99) (h:∀ vs,W22 (retK Tryz.prog [.cell 6 38,.cell 7 44,.tmp 8,.tmp 9] r) ⟨Am.look (argT 0 args),hls [] vs,noG⟩):Am.Spec Tryz.prog 22 args r:=.of_W (W:=W22) Tryz.func22 (by kernel_rfl) (by kernel_rfl) (by kernel_rfl) Tryz.ntmps22 W22_eq (by kernel_rfl) hl h
end Go.Proofs.YtnngddgaobhkiaaGreat
set_option linter.unusedVariables false
set_option maxRecDepth 100000
namespace Go.Proofs.YtnngddgaobhkiaaGreat
open Go Go.Am
-- 25 "penance/penanceref7.Enabled"
def W25 (Φ:EP) (s:St):Prop:=
 @sOp (some 1) (xBox 1 35 (s.τ 0) s.H) s<|.mk fun s=>
 @sOp (some 2) (xMov (.nils) s.H) s<|.mk fun s=>
 @sLd 4 9 1 true s<|.mk fun s=>
 @sCall Tryz.prog (.func 35 []) [(s.τ 4)] (some 5) s<|.mk fun s=>
 @sOp (some 3) (xAlloc 3 35 [.int .i64 0,.int .i64 0,.int .i64 0,.str ⟨#[]⟩,.int .i64 0,.int .i64 0,.str ⟨#[]⟩,.nils,.nils] s.H) s<|.mk fun s=>
 @sOp none (xStore 9 (s.τ 3) (s.τ 5) s.H) s<|.mk fun s=>
 @sLd 6 9 3 true s<|.mk fun u1=>
 @sLd 7 9 3 true u1<|.mk fun u2=>
 @sChk (compat (occ (s.τ 3),[]) (cfp 8 26 [(u2.τ 7)])) <| .mk <|
 @sCall0 Tryz.prog (.func 26 []) [(u2.τ 7)] (some 8) u2<|.mk fun u3=>
 @sOp (some 9) (xLen (u3.τ 8) u3.H) u3<|.mk fun u4=>
 @sOp (some 10) (xBin .eql false (u4.τ 9) (.int .i64 0) u4.H) u4<|.mk fun u5=>
 @sCall0 Tryz.prog (.func 62 []) [(u5.τ 6),(.nils),(u5.τ 10)] (some 11) u5<|.mk fun u6=>
 @sMv 2 11 u6<|.mk fun s=>
 Φ .ret s
theorem W25_rs (τ:Nat → AV) (H:Heap):resV Tryz.prog τ H [.tmp 2] = some (τ 2):=by kernel_rfl
theorem W25_eq (Φ:EP) (s:St):awp Tryz.prog (Tryz.f25.body.getD .skip) Φ s = W25 Φ s:=by kernel_rfl
theorem W25_S {args:List AV} {r:AV} (hl:args.length ≤ 12) (h:∀ vs,W25 (retK Tryz.prog [.tmp 2] r) ⟨Am.look (argT 0 args),hls [] vs,noG⟩):Am.Spec Tryz.prog 25 args r:=.of_W (W:=W25) Tryz.func25 (by kernel_rfl) (by kernel_rfl) (by kernel_rfl) Tryz.ntmps25 W25_eq (by kernel_rfl) hl h
-- 26 "penance/penanceref5.Waits"
def W26_b1 (Φ:EP) (s:St):Prop:=
 @sFl 8 1 1 s<|.mk fun s=>
 @sLd 9 1 8 false s<|.mk fun s=>
 @sOp (some 10) (xLit 1 1 [.int .i64 0] [(0,(s.τ 9))] s.H) s<|.mk fun s=>
 @sMv 2 10 s<|.mk fun s=>
 Φ .ret s
def W26_k2 (Φ:EP) (s:St):Prop:=
 @sMv 25 3 s<|.mk fun s=>
 @sMv 2 25 s<|.mk fun s=>
 Φ .ret s
def W26_b4 (Φ:EP) (L0:SP) (s:St):Prop:=
 @sMv 17 3 s<|.mk fun s=>
 @sFl 18 8 1 s<|.mk fun s=>
 @sLd 19 1 18 false s<|.mk fun s=>
 @sMv 20 4 s<|.mk fun s=>
 @sOp (some 21) (xIx 9 (s.τ 19) (s.τ 20) s.H) s<|.mk fun s=>
 @sLd 22 9 21 true s<|.mk fun s=>
 @sCall Tryz.prog (.func 26 []) [(s.τ 22)] (some 23) s<|.mk fun s=>
 @sOp (some 24) (xApp Tryz.prog 3 1 8 (some 24) (s.τ 17) (s.τ 23) s.H) s<|.mk fun s=>
 @sMv 3 24 s<|.mk fun s=>
 @sMv 15 4 s<|.mk fun s=>
 @sOp (some 16) (xBin .add false (s.τ 15) (.int .i64 1) s.H) s<|.mk fun s=>
 @sMv 4 16 s<|.mk fun s=>
 L0 s
def W26_l6 (Φ:EP) (L0:SP) (s:St):Prop:=
 @sMv 11 4 s<|.mk fun s=>
 @sLd 12 9 1 true s<|.mk fun s=>
 @sCall Tryz.prog (.func 63 []) [(s.τ 12)] (some 13) s<|.mk fun s=>
 @sOp (some 14) (xBin .lss false (s.τ 11) (s.τ 13) s.H) s<|.mk fun s=>
 @sIf (s.τ 14) ⟨W26_b4 Φ L0 s⟩ ⟨W26_k2 Φ s⟩
def W26_b7 (Φ:EP) (s:St):Prop:=
 @sOp (some 3) (xMov (.nils) s.H) s<|.mk fun s=>
 @sOp (some 4) (xMov (.int .i64 0) s.H) s<|.mk fun s=>
 @sLoop s ⟨fun L0 s=>W26_l6 Φ L0 s⟩
def W26 (Φ:EP) (s:St):Prop:=
 @sOp (some 1) (xBox 1 35 (s.τ 0) s.H) s<|.mk fun s=>
 @sOp (some 2) (xMov (.nils) s.H) s<|.mk fun s=>
 @sFl 5 0 1 s<|.mk fun s=>
 @sLd 6 1 5 false s<|.mk fun s=>
 @sOp (some 7) (xBin .eql false (s.τ 6) (.int .i64 14) s.H) s<|.mk fun s=>
 @sIf (s.τ 7) ⟨W26_b1 Φ s⟩ ⟨W26_b7 Φ s⟩
theorem W26_rs (τ:Nat → AV) (H:Heap):resV Tryz.prog τ H [.tmp 2] = some (τ 2):=by kernel_rfl
theorem W26_eq (Φ:EP) (s:St):awp Tryz.prog (Tryz.f26.body.getD .skip) Φ s = W26 Φ s:=by kernel_rfl
theorem W26_S {args:List AV} {r:AV} (hl:args.length ≤ 26) (h:∀ vs,W26 (retK Tryz.prog [.tmp 2] r) ⟨Am.look (argT 0 args),hls [] vs,noG⟩):Am.Spec Tryz.prog 26 args r:=.of_W (W:=W26) Tryz.func26 (by kernel_rfl) (by kernel_rfl) (by kernel_rfl) Tryz.ntmps26 W26_eq (by kernel_rfl) hl h
-- 27 "penance/penanceref5.Rows"
def W27_b1 (Φ:EP) (s:St):Prop:=
 @sOp (some 4) (xMov (.bool false) s.H) s<|.mk fun s=>
 Φ .ret s
def W27_k2 (Φ:EP) (s:St):Prop:=
 @sOp (some 4) (xMov (.bool true) s.H) s<|.mk fun s=>
 Φ .ret s
def W27_b3 (Φ:EP) (L0:SP) (s:St):Prop:=
 @sOp (some 4) (xMov (.bool false) s.H) s<|.mk fun s=>
 Φ .ret s
def W27_b4 (Φ:EP) (L0:SP) (s:St):Prop:=
 @sMv 15 5 s<|.mk fun s=>
 @sOp (some 16) (xBin .add false (s.τ 15) (.int .i64 1) s.H) s<|.mk fun s=>
 @sMv 5 16 s<|.mk fun s=>
 L0 s
def W27_b6 (Φ:EP) (L0:SP) (s:St):Prop:=
 @sMv 17 0 s<|.mk fun s=>
 @sMv 18 5 s<|.mk fun s=>
 @sOp (some 19) (xIx 9 (s.τ 17) (s.τ 18) s.H) s<|.mk fun s=>
 @sLd 20 9 19 true s<|.mk fun s=>
 @sMv 21 1 s<|.mk fun s=>
 @sMv 22 5 s<|.mk fun s=>
 @sOp (some 23) (xIx 9 (s.τ 21) (s.τ 22) s.H) s<|.mk fun s=>
 @sLd 24 9 23 true s<|.mk fun s=>
 @sCall0 Tryz.prog (.func 36 []) [(s.τ 20),(s.τ 24)] (some 25) s<|.mk fun s=>
 @sOp (some 26) (xNot (s.τ 25) s.H) s<|.mk fun s=>
 @sIf (s.τ 26) ⟨W27_b3 Φ L0 s⟩ ⟨W27_b4 Φ L0 s⟩
def W27_l7 (Φ:EP) (L0:SP) (s:St):Prop:=
 @sMv 11 5 s<|.mk fun s=>
 @sMv 12 0 s<|.mk fun s=>
 @sOp (some 13) (xLen (s.τ 12) s.H) s<|.mk fun s=>
 @sOp (some 14) (xBin .lss false (s.τ 11) (s.τ 13) s.H) s<|.mk fun s=>
 @sIf (s.τ 14) ⟨W27_b6 Φ L0 s⟩ ⟨W27_k2 Φ s⟩
def W27_b8 (Φ:EP) (s:St):Prop:=
 @sOp (some 5) (xMov (.int .i64 0) s.H) s<|.mk fun s=>
 @sLoop s ⟨fun L0 s=>W27_l7 Φ L0 s⟩
def W27 (Φ:EP) (s:St):Prop:=
 @sOp (some 4) (xMov (.bool false) s.H) s<|.mk fun s=>
 @sMv 6 0 s<|.mk fun s=>
 @sOp (some 7) (xLen (s.τ 6) s.H) s<|.mk fun s=>
 @sMv 8 1 s<|.mk fun s=>
 @sOp (some 9) (xLen (s.τ 8) s.H) s<|.mk fun s=>
 @sOp (some 10) (xBin .neq false (s.τ 7) (s.τ 9) s.H) s<|.mk fun s=>
 @sIf (s.τ 10) ⟨W27_b1 Φ s⟩ ⟨W27_b8 Φ s⟩
theorem W27_rs (τ:Nat → AV) (H:Heap):resV Tryz.prog τ H [.tmp 4] = some (τ 4):=by kernel_rfl
theorem W27_eq (Φ:EP) (s:St):awp Tryz.prog (Tryz.f27.body.getD .skip) Φ s = W27 Φ s:=by kernel_rfl
theorem W27_S {args:List AV} {r:AV} (hl:args.length ≤ 27) (h:∀ vs,W27 (retK Tryz.prog [.tmp 4] r) ⟨Am.look (argT 0 args),hls [] vs,noG⟩):Am.Spec Tryz.prog 27 args r:=.of_W (W:=W27) Tryz.func27 (by kernel_rfl) (by kernel_rfl) (by kernel_rfl) Tryz.ntmps27 W27_eq (by kernel_rfl) hl h
-- 28 "penance/penanceref6.Same"
def W28_b1 (Φ:EP) (s:St):Prop:=
 @sOp (some 4) (xMov (.bool false) s.H) s<|.mk fun s=>
 Φ .ret s
def W28_k2 (Φ:EP) (s:St):Prop:=
 @sOp (some 4) (xMov (.bool true) s.H) s<|.mk fun s=>
 Φ .ret s
def W28_b3 (Φ:EP) (L0:SP) (s:St):Prop:=
 @sOp (some 4) (xMov (.bool false) s.H) s<|.mk fun s=>
 Φ .ret s
def W28_b4 (Φ:EP) (L0:SP) (s:St):Prop:=
 @sMv 15 5 s<|.mk fun s=>
 @sOp (some 16) (xBin .add false (s.τ 15) (.int .i64 1) s.H) s<|.mk fun s=>
 @sMv 5 16 s<|.mk fun s=>
 L0 s
def W28_b6 (Φ:EP) (L0:SP) (s:St):Prop:=
 @sMv 17 0 s<|.mk fun s=>
 @sMv 18 5 s<|.mk fun s=>
 @sOp (some 19) (xIx 1 (s.τ 17) (s.τ 18) s.H) s<|.mk fun s=>
 @sLd 20 1 19 false s<|.mk fun s=>
 @sMv 21 1 s<|.mk fun s=>
 @sMv 22 5 s<|.mk fun s=>
 @sOp (some 23) (xIx 1 (s.τ 21) (s.τ 22) s.H) s<|.mk fun s=>
 @sLd 24 1 23 false s<|.mk fun s=>
 @sCall0 Tryz.prog (.func 27 []) [(s.τ 20),(s.τ 24)] (some 25) s<|.mk fun s=>
 @sOp (some 26) (xNot (s.τ 25) s.H) s<|.mk fun s=>
 @sIf (s.τ 26) ⟨W28_b3 Φ L0 s⟩ ⟨W28_b4 Φ L0 s⟩
def W28_l7 (Φ:EP) (L0:SP) (s:St):Prop:=
 @sMv 11 5 s<|.mk fun s=>
 @sMv 12 0 s<|.mk fun s=>
 @sOp (some 13) (xLen (s.τ 12) s.H) s<|.mk fun s=>
 @sOp (some 14) (xBin .lss false (s.τ 11) (s.τ 13) s.H) s<|.mk fun s=>
 @sIf (s.τ 14) ⟨W28_b6 Φ L0 s⟩ ⟨W28_k2 Φ s⟩
def W28_b8 (Φ:EP) (s:St):Prop:=
 @sOp (some 5) (xMov (.int .i64 0) s.H) s<|.mk fun s=>
 @sLoop s ⟨fun L0 s=>W28_l7 Φ L0 s⟩
def W28 (Φ:EP) (s:St):Prop:=
 @sOp (some 4) (xMov (.bool false) s.H) s<|.mk fun s=>
 @sMv 6 0 s<|.mk fun s=>
 @sOp (some 7) (xLen (s.τ 6) s.H) s<|.mk fun s=>
 @sMv 8 1 s<|.mk fun s=>
 @sOp (some 9) (xLen (s.τ 8) s.H) s<|.mk fun s=>
 @sOp (some 10) (xBin .neq false (s.τ 7) (s.τ 9) s.H) s<|.mk fun s=>
 @sIf (s.τ 10) ⟨W28_b1 Φ s⟩ ⟨W28_b8 Φ s⟩
theorem W28_rs (τ:Nat → AV) (H:Heap):resV Tryz.prog τ H [.tmp 4] = some (τ 4):=by kernel_rfl
theorem W28_eq (Φ:EP) (s:St):awp Tryz.prog (Tryz.f28.body.getD .skip) Φ s = W28 Φ s:=by kernel_rfl
theorem W28_S {args:List AV} {r:AV} (hl:args.length ≤ 27) (h:∀ vs,W28 (retK Tryz.prog [.tmp 4] r) ⟨Am.look (argT 0 args),hls [] vs,noG⟩):Am.Spec Tryz.prog 28 args r:=.of_W (W:=W28) Tryz.func28 (by kernel_rfl) (by kernel_rfl) (by kernel_rfl) Tryz.ntmps28 W28_eq (by kernel_rfl) hl h
-- 32 "penance/term.Norm"
def W32_b2 (Φ:EP) (s:St):Prop:=
 @sFl 26 8 1 s<|.mk fun s=>
 @sLd 27 1 26 false s<|.mk fun s=>
 @sOp (some 28) (xIx 9 (s.τ 27) (.int .i64 1) s.H) s<|.mk fun s=>
 @sLd 29 9 28 true s<|.mk fun s=>
 @sCall Tryz.prog (.func 32 []) [(s.τ 29)] (some 30) s<|.mk fun s=>
 @sOp none (xStore 9 (s.τ 2) (s.τ 30) s.H) s<|.mk fun s=>
 Φ .ret s
def W32_b4 (Φ:EP) (s:St):Prop:=
 @sLd 31 9 4 true s<|.mk fun u1=>
 @sFl 32 8 1 u1<|.mk fun u2=>
 @sLd 33 1 32 false u2<|.mk fun u3=>
 @sOp (some 34) (xIx 9 (u3.τ 33) (.int .i64 1) u3.H) u3<|.mk fun u4=>
 @sLd 35 9 34 true u4<|.mk fun u5=>
 @sChk (compat (occ (s.τ 4),[]) (cfp 36 76 [(u5.τ 35)])) <| .mk <|
 @sCall0 Tryz.prog (.func 76 []) [(u5.τ 35)] (some 36) u5<|.mk fun u6=>
 @sOp (some 37) (xLit 9 2 [.int .i64 0,.int .i64 0,.int .i64 0,.str ⟨#[]⟩,.int .i64 0,.int .i64 0,.str ⟨#[]⟩,.nils,.nils] [(0,(u6.τ 31)),(1,(u6.τ 36))] u6.H) u6<|.mk fun u7=>
 @sOp (some 38) (xBuild [.int .i64 0,.int .i64 0,.int .i64 0,.str ⟨#[]⟩,.int .i64 0,.int .i64 0,.str ⟨#[]⟩,.nils,.nils] [(0,1,(.int .i64 12)),(8,1,(u7.τ 37))] u7.H) u7<|.mk fun u8=>
 @sOp none (xStore 9 (u8.τ 2) (u8.τ 38) u8.H) u8<|.mk fun s=>
 Φ .ret s
def W32_b7 (Φ:EP) (s:St):Prop:=
 @sFl 18 8 1 s<|.mk fun s=>
 @sLd 19 1 18 false s<|.mk fun s=>
 @sOp (some 20) (xIx 9 (s.τ 19) (.int .i64 0) s.H) s<|.mk fun s=>
 @sLd 21 9 20 true s<|.mk fun s=>
 @sCall Tryz.prog (.func 32 []) [(s.τ 21)] (some 22) s<|.mk fun s=>
 @sOp (some 4) (xAlloc 4 35 [.int .i64 0,.int .i64 0,.int .i64 0,.str ⟨#[]⟩,.int .i64 0,.int .i64 0,.str ⟨#[]⟩,.nils,.nils] s.H) s<|.mk fun s=>
 @sOp none (xStore 9 (s.τ 4) (s.τ 22) s.H) s<|.mk fun s=>
 @sMv 23 3 s<|.mk fun s=>
 @sLd 24 9 4 true s<|.mk fun s=>
 @sCall Tryz.prog (s.τ 23) [(s.τ 24)] (some 25) s<|.mk fun s=>
 @sIf (s.τ 25) ⟨W32_b2 Φ s⟩ ⟨W32_b4 Φ s⟩
def W32_b8 (Φ:EP) (s:St):Prop:=
 @sOp (some 67) (xBuild [.int .i64 0,.int .i64 0,.int .i64 0,.str ⟨#[]⟩,.int .i64 0,.int .i64 0,.str ⟨#[]⟩,.nils,.nils] [] s.H) s<|.mk fun s=>
 @sOp none (xStore 9 (s.τ 2) (s.τ 67) s.H) s<|.mk fun s=>
 Φ .ret s
def W32_b9 (Φ:EP) (s:St):Prop:=
 @sLd 68 9 5 true s<|.mk fun s=>
 @sLd 69 9 6 true s<|.mk fun s=>
 @sOp (some 70) (xLit 9 2 [.int .i64 0,.int .i64 0,.int .i64 0,.str ⟨#[]⟩,.int .i64 0,.int .i64 0,.str ⟨#[]⟩,.nils,.nils] [(0,(s.τ 68)),(1,(s.τ 69))] s.H) s<|.mk fun s=>
 @sOp (some 71) (xBuild [.int .i64 0,.int .i64 0,.int .i64 0,.str ⟨#[]⟩,.int .i64 0,.int .i64 0,.str ⟨#[]⟩,.nils,.nils] [(0,1,(.int .i64 11)),(8,1,(s.τ 70))] s.H) s<|.mk fun s=>
 @sOp none (xStore 9 (s.τ 2) (s.τ 71) s.H) s<|.mk fun s=>
 Φ .ret s
def W32_b16 (Φ:EP) (s:St):Prop:=
 @sFl 49 8 1 s<|.mk fun u1=>
 @sLd 50 1 49 false u1<|.mk fun u2=>
 @sOp (some 51) (xIx 9 (u2.τ 50) (.int .i64 0) u2.H) u2<|.mk fun u3=>
 @sLd 52 9 51 true u3<|.mk fun u4=>
 @sCall0 Tryz.prog (.func 32 []) [(u4.τ 52)] (some 53) u4<|.mk fun u5=>
 @sChk (compat (cfp 53 32 [(u4.τ 52)]) (occ (u5.τ 1),[])) <| .mk <|
 @sFl 54 8 1 u5<|.mk fun u6=>
 @sChk (compat (cfp 53 32 [(u4.τ 52)]) (occ (u6.τ 54),[])) <| .mk <|
 @sLd 55 1 54 false u6<|.mk fun u7=>
 @sChk (compat (cfp 53 32 [(u4.τ 52)]) (occ (u7.τ 55),[])) <| .mk <|
 @sOp (some 56) (xIx 9 (u7.τ 55) (.int .i64 1) u7.H) u7<|.mk fun u8=>
 @sChk (compat (cfp 53 32 [(u4.τ 52)]) (occ (u8.τ 56),[])) <| .mk <|
 @sLd 57 9 56 true u8<|.mk fun u9=>
 @sCall0 Tryz.prog (.func 32 []) [(u9.τ 57)] (some 58) u9<|.mk fun u10=>
 @sChk (compat (occ (s.τ 1),[]) ([5],[5])) <| .mk <|
 @sChk (compat (occ (u1.τ 49),[]) ([5],[5])) <| .mk <|
 @sChk (compat (occ (u2.τ 50),[]) ([5],[5])) <| .mk <|
 @sChk (compat (occ (u3.τ 51),[]) ([5],[5])) <| .mk <|
 @sChk (compat (cfp 53 32 [(u4.τ 52)]) ([5],[5])) <| .mk <|
 @sChk (compat (occ (u5.τ 1),[]) ([5],[5])) <| .mk <|
 @sChk (compat (occ (u6.τ 54),[]) ([5],[5])) <| .mk <|
 @sChk (compat (occ (u7.τ 55),[]) ([5],[5])) <| .mk <|
 @sChk (compat (occ (u8.τ 56),[]) ([5],[5])) <| .mk <|
 @sChk (compat (cfp 58 32 [(u9.τ 57)]) ([5],[5])) <| .mk <|
 @sOp (some 5) (xAlloc 5 35 [.int .i64 0,.int .i64 0,.int .i64 0,.str ⟨#[]⟩,.int .i64 0,.int .i64 0,.str ⟨#[]⟩,.nils,.nils] u10.H) u10<|.mk fun u11=>
 @sChk (compat (occ (s.τ 1),[]) ([6],[6])) <| .mk <|
 @sChk (compat (occ (u1.τ 49),[]) ([6],[6])) <| .mk <|
 @sChk (compat (occ (u2.τ 50),[]) ([6],[6])) <| .mk <|
 @sChk (compat (occ (u3.τ 51),[]) ([6],[6])) <| .mk <|
 @sChk (compat (cfp 53 32 [(u4.τ 52)]) ([6],[6])) <| .mk <|
 @sChk (compat (occ (u5.τ 1),[]) ([6],[6])) <| .mk <|
 @sChk (compat (occ (u6.τ 54),[]) ([6],[6])) <| .mk <|
 @sChk (compat (occ (u7.τ 55),[]) ([6],[6])) <| .mk <|
 @sChk (compat (occ (u8.τ 56),[]) ([6],[6])) <| .mk <|
 @sChk (compat (cfp 58 32 [(u9.τ 57)]) ([6],[6])) <| .mk <|
 @sChk (compat ([5],[5]) ([6],[6])) <| .mk <|
 @sOp (some 6) (xAlloc 6 35 [.int .i64 0,.int .i64 0,.int .i64 0,.str ⟨#[]⟩,.int .i64 0,.int .i64 0,.str ⟨#[]⟩,.nils,.nils] u11.H) u11<|.mk fun u12=>
 @sOp none (xStore 9 (u12.τ 5) (u12.τ 53) u12.H) u12<|.mk fun u13=>
 @sOp none (xStore 9 (u13.τ 6) (u13.τ 58) u13.H) u13<|.mk fun s=>
 @sMv 59 3 s<|.mk fun s=>
 @sLd 60 9 5 true s<|.mk fun s=>
 @sCall Tryz.prog (s.τ 59) [(s.τ 60)] (some 61) s<|.mk fun s=>
 @sMv 62 61 s<|.mk fun s=>
 @sGm 63 3 62 true s<|.mk fun s=>
 @sGl 64 9 6 62 true true s<|.mk fun s=>
 @sGrd (guardOf (s.τ 62) true) (some 65) s ⟨fun s K=>@sCall Tryz.prog (s.τ 63) [(s.τ 64)] (some 65) s ⟨K⟩⟩<|.mk fun s=>
 @sOp (some 66) (xPick (s.τ 62) (s.τ 65) (.bool false) s.H) s<|.mk fun s=>
 @sIf (s.τ 66) ⟨W32_b8 Φ s⟩ ⟨W32_b9 Φ s⟩
def W32_b17 (Φ:EP) (s:St):Prop:=
 @sOp (some 90) (xBuild [.int .i64 0,.int .i64 0,.int .i64 0,.str ⟨#[]⟩,.int .i64 0,.int .i64 0,.str ⟨#[]⟩,.nils,.nils] [] s.H) s<|.mk fun s=>
 @sOp none (xStore 9 (s.τ 2) (s.τ 90) s.H) s<|.mk fun s=>
 Φ .ret s
def W32_b18 (Φ:EP) (s:St):Prop:=
 @sLd 91 9 7 true s<|.mk fun s=>
 @sOp (some 92) (xLit 9 1 [.int .i64 0,.int .i64 0,.int .i64 0,.str ⟨#[]⟩,.int .i64 0,.int .i64 0,.str ⟨#[]⟩,.nils,.nils] [(0,(s.τ 91))] s.H) s<|.mk fun s=>
 @sOp (some 93) (xBuild [.int .i64 0,.int .i64 0,.int .i64 0,.str ⟨#[]⟩,.int .i64 0,.int .i64 0,.str ⟨#[]⟩,.nils,.nils] [(0,1,(.int .i64 7)),(8,1,(s.τ 92))] s.H) s<|.mk fun s=>
 @sOp none (xStore 9 (s.τ 2) (s.τ 93) s.H) s<|.mk fun s=>
 Φ .ret s
def W32_b21 (Φ:EP) (s:St):Prop:=
 @sFl 82 8 1 s<|.mk fun s=>
 @sLd 83 1 82 false s<|.mk fun s=>
 @sOp (some 84) (xIx 9 (s.τ 83) (.int .i64 0) s.H) s<|.mk fun s=>
 @sLd 85 9 84 true s<|.mk fun s=>
 @sCall Tryz.prog (.func 32 []) [(s.τ 85)] (some 86) s<|.mk fun s=>
 @sOp (some 7) (xAlloc 7 35 [.int .i64 0,.int .i64 0,.int .i64 0,.str ⟨#[]⟩,.int .i64 0,.int .i64 0,.str ⟨#[]⟩,.nils,.nils] s.H) s<|.mk fun s=>
 @sOp none (xStore 9 (s.τ 7) (s.τ 86) s.H) s<|.mk fun s=>
 @sMv 87 3 s<|.mk fun s=>
 @sLd 88 9 7 true s<|.mk fun s=>
 @sCall Tryz.prog (s.τ 87) [(s.τ 88)] (some 89) s<|.mk fun s=>
 @sIf (s.τ 89) ⟨W32_b17 Φ s⟩ ⟨W32_b18 Φ s⟩
def W32_b23 (Φ:EP) (s:St):Prop:=
 @sLd 94 9 1 true s<|.mk fun s=>
 @sCall Tryz.prog (.func 76 []) [(s.τ 94)] (some 95) s<|.mk fun s=>
 @sOp none (xStore 9 (s.τ 2) (s.τ 95) s.H) s<|.mk fun s=>
 Φ .ret s
def W32_b28 (Φ:EP) (s:St):Prop:=
 @sFl 73 0 1 s<|.mk fun s=>
 @sLd 74 1 73 false s<|.mk fun s=>
 @sOp (some 75) (xBin .eql false (s.τ 74) (.int .i64 7) s.H) s<|.mk fun s=>
 @sMv 76 75 s<|.mk fun s=>
 @sGf 77 8 1 76 true s<|.mk fun s=>
 @sGl 78 1 77 76 false true s<|.mk fun s=>
 @sGo 79 76 true s (fun s=>(xLen (s.τ 78) s.H))<|.mk fun s=>
 @sGo 80 76 true s (fun s=>(xBin .eql false (s.τ 79) (.int .i64 1) s.H))<|.mk fun s=>
 @sOp (some 81) (xPick (s.τ 76) (s.τ 80) (.bool false) s.H) s<|.mk fun s=>
 @sMv 72 81 s<|.mk fun s=>
 @sIf (s.τ 72) ⟨W32_b21 Φ s⟩ ⟨W32_b23 Φ s⟩
def W32_b33 (Φ:EP) (s:St):Prop:=
 @sFl 40 0 1 s<|.mk fun s=>
 @sLd 41 1 40 false s<|.mk fun s=>
 @sOp (some 42) (xBin .eql false (s.τ 41) (.int .i64 11) s.H) s<|.mk fun s=>
 @sMv 43 42 s<|.mk fun s=>
 @sGf 44 8 1 43 true s<|.mk fun s=>
 @sGl 45 1 44 43 false true s<|.mk fun s=>
 @sGo 46 43 true s (fun s=>(xLen (s.τ 45) s.H))<|.mk fun s=>
 @sGo 47 43 true s (fun s=>(xBin .eql false (s.τ 46) (.int .i64 2) s.H))<|.mk fun s=>
 @sOp (some 48) (xPick (s.τ 43) (s.τ 47) (.bool false) s.H) s<|.mk fun s=>
 @sMv 39 48 s<|.mk fun s=>
 @sIf (s.τ 39) ⟨W32_b16 Φ s⟩ ⟨W32_b28 Φ s⟩
def W32 (Φ:EP) (s:St):Prop:=
 @sOp (some 1) (xBox 1 35 (s.τ 0) s.H) s<|.mk fun s=>
 @sOp (some 2) (xAlloc 2 35 [.int .i64 0,.int .i64 0,.int .i64 0,.str ⟨#[]⟩,.int .i64 0,.int .i64 0,.str ⟨#[]⟩,.nils,.nils] s.H) s<|.mk fun s=>
 @sOp (some 3) (xMov (.func 75 []) s.H) s<|.mk fun s=>
 @sFl 9 0 1 s<|.mk fun s=>
 @sLd 10 1 9 false s<|.mk fun s=>
 @sOp (some 11) (xBin .eql false (s.τ 10) (.int .i64 12) s.H) s<|.mk fun s=>
 @sMv 12 11 s<|.mk fun s=>
 @sGf 13 8 1 12 true s<|.mk fun s=>
 @sGl 14 1 13 12 false true s<|.mk fun s=>
 @sGo 15 12 true s (fun s=>(xLen (s.τ 14) s.H))<|.mk fun s=>
 @sGo 16 12 true s (fun s=>(xBin .eql false (s.τ 15) (.int .i64 2) s.H))<|.mk fun s=>
 @sOp (some 17) (xPick (s.τ 12) (s.τ 16) (.bool false) s.H) s<|.mk fun s=>
 @sMv 8 17 s<|.mk fun s=>
 @sIf (s.τ 8) ⟨W32_b7 Φ s⟩ ⟨W32_b33 Φ s⟩
theorem W32_rs (τ:Nat → AV) (H:Heap):resV Tryz.prog τ H [.cell 2 35] = rdV H 9 true (τ 2):=by kernel_rfl
theorem W32_eq (Φ:EP) (s:St):awp Tryz.prog (Tryz.f32.body.getD .skip) Φ s = W32 Φ s:=by kernel_rfl
theorem W32_S {args:List AV} {r:AV} (hl:args.length ≤ 96) (h:∀ vs,W32 (retK Tryz.prog [.cell 2 35] r) ⟨Am.look (argT 0 args),hls [] vs,noG⟩):Am.Spec Tryz.prog 32 args r:=.of_W (W:=W32) Tryz.func32 (by kernel_rfl) (by kernel_rfl) (by kernel_rfl) Tryz.ntmps32 W32_eq (by kernel_rfl) hl h
-- 33 "slices.Clone[[]int,int]"
def W33_b1 (Φ:EP) (s:St):Prop:=
 @sOp (some 2) (xMov (.nils) s.H) s<|.mk fun s=>
 Φ .ret s
def W33_b2 (Φ:EP) (s:St):Prop:=
 @sOp (some 5) (xRow 5 3 1 0 [.int .i64 0] [] s.H) s<|.mk fun s=>
 @sMv 6 0 s<|.mk fun s=>
 @sOp (some 7) (xApp Tryz.prog 3 1 8 (some 7) (s.τ 5) (s.τ 6) s.H) s<|.mk fun s=>
 @sMv 2 7 s<|.mk fun s=>
 Φ .ret s
def W33 (Φ:EP) (s:St):Prop:=
 @sOp (some 2) (xMov (.nils) s.H) s<|.mk fun s=>
 @sMv 3 0 s<|.mk fun s=>
 @sNil false (s.τ 3) (some 4) s<|.mk fun s=>
 @sIf (s.τ 4) ⟨W33_b1 Φ s⟩ ⟨W33_b2 Φ s⟩
theorem W33_rs (τ:Nat → AV) (H:Heap):resV Tryz.prog τ H [.tmp 2] = some (τ 2):=by kernel_rfl
theorem W33_eq (Φ:EP) (s:St):awp Tryz.prog (Tryz.f33.body.getD .skip) Φ s = W33 Φ s:=by kernel_rfl
theorem W33_S {args:List AV} {r:AV} (hl:args.length ≤ 8) (h:∀ vs,W33 (retK Tryz.prog [.tmp 2] r) ⟨Am.look (argT 0 args),hls [] vs,noG⟩):Am.Spec Tryz.prog 33 args r:=.of_W (W:=W33) Tryz.func33 (by kernel_rfl) (by kernel_rfl) (by kernel_rfl) Tryz.ntmps33 W33_eq (by kernel_rfl) hl h
-- 34 "penance/stacks.Merge"
def W34_k1 (Φ:EP) (s:St):Prop:=
 @sMv 38 7 s<|.mk fun s=>
 @sMv 6 38 s<|.mk fun s=>
 Φ .ret s
def W34_b2 (Φ:EP) (s:St):Prop:=
 @sMv 23 7 s<|.mk fun s=>
 @sMv 24 2 s<|.mk fun s=>
 @sMv 25 7 s<|.mk fun s=>
 @sMv 26 1 s<|.mk fun s=>
 @sMv 27 7 s<|.mk fun s=>
 @sMv 28 2 s<|.mk fun s=>
 @sOp (some 29) (xIx 1 (s.τ 27) (s.τ 28) s.H) s<|.mk fun s=>
 @sLd 30 1 29 false s<|.mk fun s=>
 @sMv 31 7 s<|.mk fun s=>
 @sMv 32 1 s<|.mk fun s=>
 @sOp (some 33) (xIx 1 (s.τ 31) (s.τ 32) s.H) s<|.mk fun s=>
 @sLd 34 1 33 false s<|.mk fun s=>
 @sOp (some 35) (xApp Tryz.prog 35 9 120 (some 35) (s.τ 30) (s.τ 34) s.H) s<|.mk fun s=>
 @sOp (some 36) (xIx 1 (s.τ 23) (s.τ 24) s.H) s<|.mk fun s=>
 @sOp none (xStore 1 (s.τ 36) (s.τ 35) s.H) s<|.mk fun s=>
 @sOp (some 37) (xIx 1 (s.τ 25) (s.τ 26) s.H) s<|.mk fun s=>
 @sOp none (xStore 1 (s.τ 37) (.nils) s.H) s<|.mk fun s=>
 W34_k1 Φ s
def W34 (Φ:EP) (s:St):Prop:=
 @sOp (some 6) (xMov (.nils) s.H) s<|.mk fun s=>
 @sMv 8 0 s<|.mk fun s=>
 @sCall Tryz.prog (.func 77 []) [(s.τ 8)] (some 9) s<|.mk fun s=>
 @sMv 7 9 s<|.mk fun s=>
 @sMv 10 1 s<|.mk fun s=>
 @sMv 11 2 s<|.mk fun s=>
 @sOp (some 12) (xBin .neq false (s.τ 10) (s.τ 11) s.H) s<|.mk fun s=>
 @sMv 13 12 s<|.mk fun s=>
 @sGm 14 7 13 true s<|.mk fun s=>
 @sGm 15 1 13 true s<|.mk fun s=>
 @sGrd (guardOf (s.τ 13) true) (some 16) s ⟨fun s K=>@sCall Tryz.prog (.func 78 []) [(s.τ 14),(s.τ 15)] (some 16) s ⟨K⟩⟩<|.mk fun s=>
 @sOp (some 17) (xPick (s.τ 13) (s.τ 16) (.bool false) s.H) s<|.mk fun s=>
 @sMv 18 17 s<|.mk fun s=>
 @sGm 19 7 18 true s<|.mk fun s=>
 @sGm 20 2 18 true s<|.mk fun s=>
 @sGrd (guardOf (s.τ 18) true) (some 21) s ⟨fun s K=>@sCall Tryz.prog (.func 78 []) [(s.τ 19),(s.τ 20)] (some 21) s ⟨K⟩⟩<|.mk fun s=>
 @sOp (some 22) (xPick (s.τ 18) (s.τ 21) (.bool false) s.H) s<|.mk fun s=>
 @sIf (s.τ 22) ⟨W34_b2 Φ s⟩ ⟨W34_k1 Φ s⟩
theorem W34_rs (τ:Nat → AV) (H:Heap):resV Tryz.prog τ H [.tmp 6] = some (τ 6):=by kernel_rfl
theorem W34_eq (Φ:EP) (s:St):awp Tryz.prog (Tryz.f34.body.getD .skip) Φ s = W34 Φ s:=by kernel_rfl
theorem W34_S {args:List AV} {r:AV} (hl:args.length ≤ 39) (h:∀ vs,W34 (retK Tryz.prog [.tmp 6] r) ⟨Am.look (argT 0 args),hls [] vs,noG⟩):Am.Spec Tryz.prog 34 args r:=.of_W (W:=W34) Tryz.func34 (by kernel_rfl) (by kernel_rfl) (by kernel_rfl) Tryz.ntmps34 W34_eq (by kernel_rfl) hl h
-- 35 "penance/penanceref5.Norm"
def W35_b2 (Φ:EP) (s:St):Prop:=
 @sFl 21 8 1 s<|.mk fun s=>
 @sLd 22 1 21 false s<|.mk fun s=>
 @sOp (some 23) (xIx 9 (s.τ 22) (.int .i64 1) s.H) s<|.mk fun s=>
 @sLd 24 9 23 true s<|.mk fun s=>
 @sCall Tryz.prog (.func 35 []) [(s.τ 24)] (some 25) s<|.mk fun s=>
 @sOp none (xStore 9 (s.τ 2) (s.τ 25) s.H) s<|.mk fun s=>
 Φ .ret s
def W35_b3 (Φ:EP) (s:St):Prop:=
 @sLd 26 9 4 true s<|.mk fun s=>
 @sFl 27 8 1 s<|.mk fun s=>
 @sLd 28 1 27 false s<|.mk fun s=>
 @sOp (some 29) (xIx 9 (s.τ 28) (.int .i64 1) s.H) s<|.mk fun s=>
 @sLd 30 9 29 true s<|.mk fun s=>
 @sOp (some 31) (xLit 9 2 [.int .i64 0,.int .i64 0,.int .i64 0,.str ⟨#[]⟩,.int .i64 0,.int .i64 0,.str ⟨#[]⟩,.nils,.nils] [(0,(s.τ 26)),(1,(s.τ 30))] s.H) s<|.mk fun s=>
 @sOp (some 32) (xBuild [.int .i64 0,.int .i64 0,.int .i64 0,.str ⟨#[]⟩,.int .i64 0,.int .i64 0,.str ⟨#[]⟩,.nils,.nils] [(0,1,(.int .i64 12)),(8,1,(s.τ 31))] s.H) s<|.mk fun s=>
 @sOp none (xStore 9 (s.τ 2) (s.τ 32) s.H) s<|.mk fun s=>
 Φ .ret s
def W35_b5 (Φ:EP) (s:St):Prop:=
 @sFl 13 8 1 s<|.mk fun s=>
 @sLd 14 1 13 false s<|.mk fun s=>
 @sOp (some 15) (xIx 9 (s.τ 14) (.int .i64 0) s.H) s<|.mk fun s=>
 @sLd 16 9 15 true s<|.mk fun s=>
 @sCall Tryz.prog (.func 35 []) [(s.τ 16)] (some 17) s<|.mk fun s=>
 @sOp (some 4) (xAlloc 4 35 [.int .i64 0,.int .i64 0,.int .i64 0,.str ⟨#[]⟩,.int .i64 0,.int .i64 0,.str ⟨#[]⟩,.nils,.nils] s.H) s<|.mk fun s=>
 @sOp none (xStore 9 (s.τ 4) (s.τ 17) s.H) s<|.mk fun s=>
 @sFl 18 0 4 s<|.mk fun s=>
 @sLd 19 1 18 false s<|.mk fun s=>
 @sOp (some 20) (xBin .eql false (s.τ 19) (.int .i64 0) s.H) s<|.mk fun s=>
 @sIf (s.τ 20) ⟨W35_b2 Φ s⟩ ⟨W35_b3 Φ s⟩
def W35_b6 (Φ:EP) (s:St):Prop:=
 @sLd 53 9 3 true s<|.mk fun s=>
 @sOp none (xStore 9 (s.τ 2) (s.τ 53) s.H) s<|.mk fun s=>
 Φ .ret s
def W35_b7 (Φ:EP) (s:St):Prop:=
 @sLd 54 9 5 true s<|.mk fun s=>
 @sLd 55 9 6 true s<|.mk fun s=>
 @sOp (some 56) (xLit 9 2 [.int .i64 0,.int .i64 0,.int .i64 0,.str ⟨#[]⟩,.int .i64 0,.int .i64 0,.str ⟨#[]⟩,.nils,.nils] [(0,(s.τ 54)),(1,(s.τ 55))] s.H) s<|.mk fun s=>
 @sOp (some 57) (xBuild [.int .i64 0,.int .i64 0,.int .i64 0,.str ⟨#[]⟩,.int .i64 0,.int .i64 0,.str ⟨#[]⟩,.nils,.nils] [(0,1,(.int .i64 11)),(8,1,(s.τ 56))] s.H) s<|.mk fun s=>
 @sOp none (xStore 9 (s.τ 2) (s.τ 57) s.H) s<|.mk fun s=>
 Φ .ret s
def W35_b13 (Φ:EP) (s:St):Prop:=
 @sFl 35 8 1 s<|.mk fun u1=>
 @sLd 36 1 35 false u1<|.mk fun u2=>
 @sOp (some 37) (xIx 9 (u2.τ 36) (.int .i64 0) u2.H) u2<|.mk fun u3=>
 @sLd 38 9 37 true u3<|.mk fun u4=>
 @sCall0 Tryz.prog (.func 35 []) [(u4.τ 38)] (some 39) u4<|.mk fun u5=>
 @sChk (compat (cfp 39 35 [(u4.τ 38)]) (occ (u5.τ 1),[])) <| .mk <|
 @sFl 40 8 1 u5<|.mk fun u6=>
 @sChk (compat (cfp 39 35 [(u4.τ 38)]) (occ (u6.τ 40),[])) <| .mk <|
 @sLd 41 1 40 false u6<|.mk fun u7=>
 @sChk (compat (cfp 39 35 [(u4.τ 38)]) (occ (u7.τ 41),[])) <| .mk <|
 @sOp (some 42) (xIx 9 (u7.τ 41) (.int .i64 1) u7.H) u7<|.mk fun u8=>
 @sChk (compat (cfp 39 35 [(u4.τ 38)]) (occ (u8.τ 42),[])) <| .mk <|
 @sLd 43 9 42 true u8<|.mk fun u9=>
 @sCall0 Tryz.prog (.func 35 []) [(u9.τ 43)] (some 44) u9<|.mk fun u10=>
 @sChk (compat (occ (s.τ 1),[]) ([5],[5])) <| .mk <|
 @sChk (compat (occ (u1.τ 35),[]) ([5],[5])) <| .mk <|
 @sChk (compat (occ (u2.τ 36),[]) ([5],[5])) <| .mk <|
 @sChk (compat (occ (u3.τ 37),[]) ([5],[5])) <| .mk <|
 @sChk (compat (cfp 39 35 [(u4.τ 38)]) ([5],[5])) <| .mk <|
 @sChk (compat (occ (u5.τ 1),[]) ([5],[5])) <| .mk <|
 @sChk (compat (occ (u6.τ 40),[]) ([5],[5])) <| .mk <|
 @sChk (compat (occ (u7.τ 41),[]) ([5],[5])) <| .mk <|
 @sChk (compat (occ (u8.τ 42),[]) ([5],[5])) <| .mk <|
 @sChk (compat (cfp 44 35 [(u9.τ 43)]) ([5],[5])) <| .mk <|
 @sOp (some 5) (xAlloc 5 35 [.int .i64 0,.int .i64 0,.int .i64 0,.str ⟨#[]⟩,.int .i64 0,.int .i64 0,.str ⟨#[]⟩,.nils,.nils] u10.H) u10<|.mk fun u11=>
 @sChk (compat (occ (s.τ 1),[]) ([6],[6])) <| .mk <|
 @sChk (compat (occ (u1.τ 35),[]) ([6],[6])) <| .mk <|
 @sChk (compat (occ (u2.τ 36),[]) ([6],[6])) <| .mk <|
 @sChk (compat (occ (u3.τ 37),[]) ([6],[6])) <| .mk <|
 @sChk (compat (cfp 39 35 [(u4.τ 38)]) ([6],[6])) <| .mk <|
 @sChk (compat (occ (u5.τ 1),[]) ([6],[6])) <| .mk <|
 @sChk (compat (occ (u6.τ 40),[]) ([6],[6])) <| .mk <|
 @sChk (compat (occ (u7.τ 41),[]) ([6],[6])) <| .mk <|
 @sChk (compat (occ (u8.τ 42),[]) ([6],[6])) <| .mk <|
 @sChk (compat (cfp 44 35 [(u9.τ 43)]) ([6],[6])) <| .mk <|
 @sChk (compat ([5],[5]) ([6],[6])) <| .mk <|
 @sOp (some 6) (xAlloc 6 35 [.int .i64 0,.int .i64 0,.int .i64 0,.str ⟨#[]⟩,.int .i64 0,.int .i64 0,.str ⟨#[]⟩,.nils,.nils] u11.H) u11<|.mk fun u12=>
 @sOp none (xStore 9 (u12.τ 5) (u12.τ 39) u12.H) u12<|.mk fun u13=>
 @sOp none (xStore 9 (u13.τ 6) (u13.τ 44) u13.H) u13<|.mk fun s=>
 @sFl 45 0 5 s<|.mk fun s=>
 @sLd 46 1 45 false s<|.mk fun s=>
 @sOp (some 47) (xBin .eql false (s.τ 46) (.int .i64 0) s.H) s<|.mk fun s=>
 @sMv 48 47 s<|.mk fun s=>
 @sGf 49 0 6 48 true s<|.mk fun s=>
 @sGl 50 1 49 48 false true s<|.mk fun s=>
 @sGo 51 48 true s (fun s=>(xBin .eql false (s.τ 50) (.int .i64 0) s.H))<|.mk fun s=>
 @sOp (some 52) (xPick (s.τ 48) (s.τ 51) (.bool false) s.H) s<|.mk fun s=>
 @sIf (s.τ 52) ⟨W35_b6 Φ s⟩ ⟨W35_b7 Φ s⟩
def W35_b14 (Φ:EP) (s:St):Prop:=
 @sLd 68 9 3 true s<|.mk fun s=>
 @sOp none (xStore 9 (s.τ 2) (s.τ 68) s.H) s<|.mk fun s=>
 Φ .ret s
def W35_b15 (Φ:EP) (s:St):Prop:=
 @sLd 69 9 7 true s<|.mk fun s=>
 @sOp (some 70) (xLit 9 1 [.int .i64 0,.int .i64 0,.int .i64 0,.str ⟨#[]⟩,.int .i64 0,.int .i64 0,.str ⟨#[]⟩,.nils,.nils] [(0,(s.τ 69))] s.H) s<|.mk fun s=>
 @sOp (some 71) (xBuild [.int .i64 0,.int .i64 0,.int .i64 0,.str ⟨#[]⟩,.int .i64 0,.int .i64 0,.str ⟨#[]⟩,.nils,.nils] [(0,1,(.int .i64 7)),(8,1,(s.τ 70))] s.H) s<|.mk fun s=>
 @sOp none (xStore 9 (s.τ 2) (s.τ 71) s.H) s<|.mk fun s=>
 Φ .ret s
def W35_b17 (Φ:EP) (s:St):Prop:=
 @sFl 60 8 1 s<|.mk fun s=>
 @sLd 61 1 60 false s<|.mk fun s=>
 @sOp (some 62) (xIx 9 (s.τ 61) (.int .i64 0) s.H) s<|.mk fun s=>
 @sLd 63 9 62 true s<|.mk fun s=>
 @sCall Tryz.prog (.func 35 []) [(s.τ 63)] (some 64) s<|.mk fun s=>
 @sOp (some 7) (xAlloc 7 35 [.int .i64 0,.int .i64 0,.int .i64 0,.str ⟨#[]⟩,.int .i64 0,.int .i64 0,.str ⟨#[]⟩,.nils,.nils] s.H) s<|.mk fun s=>
 @sOp none (xStore 9 (s.τ 7) (s.τ 64) s.H) s<|.mk fun s=>
 @sFl 65 0 7 s<|.mk fun s=>
 @sLd 66 1 65 false s<|.mk fun s=>
 @sOp (some 67) (xBin .eql false (s.τ 66) (.int .i64 0) s.H) s<|.mk fun s=>
 @sIf (s.τ 67) ⟨W35_b14 Φ s⟩ ⟨W35_b15 Φ s⟩
def W35_b18 (Φ:EP) (s:St):Prop:=
 @sLd 72 9 1 true s<|.mk fun s=>
 @sOp none (xStore 9 (s.τ 2) (s.τ 72) s.H) s<|.mk fun s=>
 Φ .ret s
def W35_b19 (Φ:EP) (s:St):Prop:=
 @sOp (some 59) (xBin .eql false (s.τ 10) (.int .i64 7) s.H) s<|.mk fun s=>
 @sMv 58 59 s<|.mk fun s=>
 @sIf (s.τ 58) ⟨W35_b17 Φ s⟩ ⟨W35_b18 Φ s⟩
def W35_b20 (Φ:EP) (s:St):Prop:=
 @sOp (some 34) (xBin .eql false (s.τ 10) (.int .i64 11) s.H) s<|.mk fun s=>
 @sMv 33 34 s<|.mk fun s=>
 @sIf (s.τ 33) ⟨W35_b13 Φ s⟩ ⟨W35_b19 Φ s⟩
def W35 (Φ:EP) (s:St):Prop:=
 @sOp (some 1) (xBox 1 35 (s.τ 0) s.H) s<|.mk fun s=>
 @sOp (some 2) (xAlloc 2 35 [.int .i64 0,.int .i64 0,.int .i64 0,.str ⟨#[]⟩,.int .i64 0,.int .i64 0,.str ⟨#[]⟩,.nils,.nils] s.H) s<|.mk fun s=>
 @sOp (some 8) (xBuild [.int .i64 0,.int .i64 0,.int .i64 0,.str ⟨#[]⟩,.int .i64 0,.int .i64 0,.str ⟨#[]⟩,.nils,.nils] [] s.H) s<|.mk fun s=>
 @sOp (some 3) (xAlloc 3 35 [.int .i64 0,.int .i64 0,.int .i64 0,.str ⟨#[]⟩,.int .i64 0,.int .i64 0,.str ⟨#[]⟩,.nils,.nils] s.H) s<|.mk fun s=>
 @sOp none (xStore 9 (s.τ 3) (s.τ 8) s.H) s<|.mk fun s=>
 @sFl 9 0 1 s<|.mk fun s=>
 @sLd 10 1 9 false s<|.mk fun s=>
 @sOp (some 12) (xBin .eql false (s.τ 10) (.int .i64 12) s.H) s<|.mk fun s=>
 @sMv 11 12 s<|.mk fun s=>
 @sIf (s.τ 11) ⟨W35_b5 Φ s⟩ ⟨W35_b20 Φ s⟩
theorem W35_rs (τ:Nat → AV) (H:Heap):resV Tryz.prog τ H [.cell 2 35] = rdV H 9 true (τ 2):=by kernel_rfl
theorem W35_eq (Φ:EP) (s:St):awp Tryz.prog (Tryz.f35.body.getD .skip) Φ s = W35 Φ s:=by kernel_rfl
theorem W35_S {args:List AV} {r:AV} (hl:args.length ≤ 73) (h:∀ vs,W35 (retK Tryz.prog [.cell 2 35] r) ⟨Am.look (argT 0 args),hls [] vs,noG⟩):Am.Spec Tryz.prog 35 args r:=.of_W (W:=W35) Tryz.func35 (by kernel_rfl) (by kernel_rfl) (by kernel_rfl) Tryz.ntmps35 W35_eq (by kernel_rfl) hl h
-- 36 "penance/penanceref5.Same"
def W36_b1 (Φ:EP) (s:St):Prop:=
 @sOp (some 4) (xMov (.bool false) s.H) s<|.mk fun s=>
 Φ .ret s
def W36_k2 (Φ:EP) (s:St):Prop:=
 @sOp (some 4) (xMov (.bool true) s.H) s<|.mk fun s=>
 Φ .ret s
def W36_b3 (Φ:EP) (L0:SP) (s:St):Prop:=
 @sOp (some 4) (xMov (.bool false) s.H) s<|.mk fun s=>
 Φ .ret s
def W36_b4 (Φ:EP) (L0:SP) (s:St):Prop:=
 @sMv 54 5 s<|.mk fun s=>
 @sOp (some 55) (xBin .add false (s.τ 54) (.int .i64 1) s.H) s<|.mk fun s=>
 @sMv 5 55 s<|.mk fun s=>
 L0 s
def W36_b6 (Φ:EP) (L0:SP) (s:St):Prop:=
 @sFl 56 8 2 s<|.mk fun s=>
 @sLd 57 1 56 false s<|.mk fun s=>
 @sMv 58 5 s<|.mk fun s=>
 @sOp (some 59) (xIx 9 (s.τ 57) (s.τ 58) s.H) s<|.mk fun s=>
 @sLd 60 9 59 true s<|.mk fun s=>
 @sFl 61 8 3 s<|.mk fun s=>
 @sLd 62 1 61 false s<|.mk fun s=>
 @sMv 63 5 s<|.mk fun s=>
 @sOp (some 64) (xIx 9 (s.τ 62) (s.τ 63) s.H) s<|.mk fun s=>
 @sLd 65 9 64 true s<|.mk fun s=>
 @sCall0 Tryz.prog (.func 36 []) [(s.τ 60),(s.τ 65)] (some 66) s<|.mk fun s=>
 @sOp (some 67) (xNot (s.τ 66) s.H) s<|.mk fun s=>
 @sIf (s.τ 67) ⟨W36_b3 Φ L0 s⟩ ⟨W36_b4 Φ L0 s⟩
def W36_l7 (Φ:EP) (L0:SP) (s:St):Prop:=
 @sMv 49 5 s<|.mk fun s=>
 @sFl 50 8 2 s<|.mk fun s=>
 @sLd 51 1 50 false s<|.mk fun s=>
 @sOp (some 52) (xLen (s.τ 51) s.H) s<|.mk fun s=>
 @sOp (some 53) (xBin .lss false (s.τ 49) (s.τ 52) s.H) s<|.mk fun s=>
 @sIf (s.τ 53) ⟨W36_b6 Φ L0 s⟩ ⟨W36_k2 Φ s⟩
def W36_b8 (Φ:EP) (s:St):Prop:=
 @sOp (some 5) (xMov (.int .i64 0) s.H) s<|.mk fun s=>
 @sLoop s ⟨fun L0 s=>W36_l7 Φ L0 s⟩
def W36 (Φ:EP) (s:St):Prop:=
 @sOp (some 2) (xBox 2 35 (s.τ 0) s.H) s<|.mk fun s=>
 @sOp (some 3) (xBox 3 35 (s.τ 1) s.H) s<|.mk fun s=>
 @sOp (some 4) (xMov (.bool false) s.H) s<|.mk fun s=>
 @sFl 6 0 2 s<|.mk fun s=>
 @sLd 7 1 6 false s<|.mk fun s=>
 @sFl 8 0 3 s<|.mk fun s=>
 @sLd 9 1 8 false s<|.mk fun s=>
 @sOp (some 10) (xBin .neq false (s.τ 7) (s.τ 9) s.H) s<|.mk fun s=>
 @sMv 11 10 s<|.mk fun s=>
 @sGf 12 1 2 11 false s<|.mk fun s=>
 @sGl 13 1 12 11 false false s<|.mk fun s=>
 @sGf 14 1 3 11 false s<|.mk fun s=>
 @sGl 15 1 14 11 false false s<|.mk fun s=>
 @sGo 16 11 false s (fun s=>(xBin .neq false (s.τ 13) (s.τ 15) s.H))<|.mk fun s=>
 @sOp (some 17) (xPick (s.τ 11) (.bool true) (s.τ 16) s.H) s<|.mk fun s=>
 @sMv 18 17 s<|.mk fun s=>
 @sGf 19 2 2 18 false s<|.mk fun s=>
 @sGl 20 1 19 18 false false s<|.mk fun s=>
 @sGf 21 2 3 18 false s<|.mk fun s=>
 @sGl 22 1 21 18 false false s<|.mk fun s=>
 @sGo 23 18 false s (fun s=>(xBin .neq false (s.τ 20) (s.τ 22) s.H))<|.mk fun s=>
 @sOp (some 24) (xPick (s.τ 18) (.bool true) (s.τ 23) s.H) s<|.mk fun s=>
 @sMv 25 24 s<|.mk fun s=>
 @sGf 26 3 2 25 false s<|.mk fun s=>
 @sGl 27 1 26 25 false false s<|.mk fun s=>
 @sGf 28 3 3 25 false s<|.mk fun s=>
 @sGl 29 1 28 25 false false s<|.mk fun s=>
 @sGo 30 25 false s (fun s=>(xBin .neq false (s.τ 27) (s.τ 29) s.H))<|.mk fun s=>
 @sOp (some 31) (xPick (s.τ 25) (.bool true) (s.τ 30) s.H) s<|.mk fun s=>
 @sMv 32 31 s<|.mk fun s=>
 @sGf 33 4 2 32 false s<|.mk fun s=>
 @sGl 34 4 33 32 true false s<|.mk fun s=>
 @sGf 35 4 3 32 false s<|.mk fun s=>
 @sGl 36 4 35 32 true false s<|.mk fun s=>
 @sGrd (guardOf (s.τ 32) false) (some 37) s ⟨fun s K=>@sCall Tryz.prog (.func 79 []) [(s.τ 34),(s.τ 36)] (some 37) s ⟨K⟩⟩<|.mk fun s=>
 @sGo 38 32 false s (fun s=>(xNot (s.τ 37) s.H))<|.mk fun s=>
 @sOp (some 39) (xPick (s.τ 32) (.bool true) (s.τ 38) s.H) s<|.mk fun s=>
 @sMv 40 39 s<|.mk fun s=>
 @sGf 41 8 2 40 false s<|.mk fun s=>
 @sGl 42 1 41 40 false false s<|.mk fun s=>
 @sGo 43 40 false s (fun s=>(xLen (s.τ 42) s.H))<|.mk fun s=>
 @sGf 44 8 3 40 false s<|.mk fun s=>
 @sGl 45 1 44 40 false false s<|.mk fun s=>
 @sGo 46 40 false s (fun s=>(xLen (s.τ 45) s.H))<|.mk fun s=>
 @sGo 47 40 false s (fun s=>(xBin .neq false (s.τ 43) (s.τ 46) s.H))<|.mk fun s=>
 @sOp (some 48) (xPick (s.τ 40) (.bool true) (s.τ 47) s.H) s<|.mk fun s=>
 @sIf (s.τ 48) ⟨W36_b1 Φ s⟩ ⟨W36_b8 Φ s⟩
theorem W36_rs (τ:Nat → AV) (H:Heap):resV Tryz.prog τ H [.tmp 4] = some (τ 4):=by kernel_rfl
theorem W36_eq (Φ:EP) (s:St):awp Tryz.prog (Tryz.f36.body.getD .skip) Φ s = W36 Φ s:=by kernel_rfl
theorem W36_S {args:List AV} {r:AV} (hl:args.length ≤ 68) (h:∀ vs,W36 (retK Tryz.prog [.tmp 4] r) ⟨Am.look (argT 0 args),hls [] vs,noG⟩):Am.Spec Tryz.prog 36 args r:=.of_W (W:=W36) Tryz.func36 (by kernel_rfl) (by kernel_rfl) (by kernel_rfl) Tryz.ntmps36 W36_eq (by kernel_rfl) hl h
-- 37 "penance/penanceref1.Ints"
def W37_b1 (Φ:EP) (s:St):Prop:=
 @sOp (some 4) (xMov (.bool false) s.H) s<|.mk fun s=>
 Φ .ret s
def W37_k2 (Φ:EP) (s:St):Prop:=
 @sOp (some 4) (xMov (.bool true) s.H) s<|.mk fun s=>
 Φ .ret s
def W37_b3 (Φ:EP) (L0:SP) (s:St):Prop:=
 @sOp (some 4) (xMov (.bool false) s.H) s<|.mk fun s=>
 Φ .ret s
def W37_b4 (Φ:EP) (L0:SP) (s:St):Prop:=
 @sMv 15 5 s<|.mk fun s=>
 @sOp (some 16) (xBin .add false (s.τ 15) (.int .i64 1) s.H) s<|.mk fun s=>
 @sMv 5 16 s<|.mk fun s=>
 L0 s
def W37_b5 (Φ:EP) (L0:SP) (s:St):Prop:=
 @sMv 17 0 s<|.mk fun s=>
 @sMv 18 5 s<|.mk fun s=>
 @sOp (some 19) (xIx 1 (s.τ 17) (s.τ 18) s.H) s<|.mk fun s=>
 @sLd 20 1 19 false s<|.mk fun s=>
 @sMv 21 1 s<|.mk fun s=>
 @sMv 22 5 s<|.mk fun s=>
 @sOp (some 23) (xIx 1 (s.τ 21) (s.τ 22) s.H) s<|.mk fun s=>
 @sLd 24 1 23 false s<|.mk fun s=>
 @sOp (some 25) (xBin .neq false (s.τ 20) (s.τ 24) s.H) s<|.mk fun s=>
 @sIf (s.τ 25) ⟨W37_b3 Φ L0 s⟩ ⟨W37_b4 Φ L0 s⟩
def W37_l6 (Φ:EP) (L0:SP) (s:St):Prop:=
 @sMv 11 5 s<|.mk fun s=>
 @sMv 12 0 s<|.mk fun s=>
 @sOp (some 13) (xLen (s.τ 12) s.H) s<|.mk fun s=>
 @sOp (some 14) (xBin .lss false (s.τ 11) (s.τ 13) s.H) s<|.mk fun s=>
 @sIf (s.τ 14) ⟨W37_b5 Φ L0 s⟩ ⟨W37_k2 Φ s⟩
def W37_b7 (Φ:EP) (s:St):Prop:=
 @sOp (some 5) (xMov (.int .i64 0) s.H) s<|.mk fun s=>
 @sLoop s ⟨fun L0 s=>W37_l6 Φ L0 s⟩
def W37 (Φ:EP) (s:St):Prop:=
 @sOp (some 4) (xMov (.bool false) s.H) s<|.mk fun s=>
 @sMv 6 0 s<|.mk fun s=>
 @sOp (some 7) (xLen (s.τ 6) s.H) s<|.mk fun s=>
 @sMv 8 1 s<|.mk fun s=>
 @sOp (some 9) (xLen (s.τ 8) s.H) s<|.mk fun s=>
 @sOp (some 10) (xBin .neq false (s.τ 7) (s.τ 9) s.H) s<|.mk fun s=>
 @sIf (s.τ 10) ⟨W37_b1 Φ s⟩ ⟨W37_b7 Φ s⟩
theorem W37_rs (τ:Nat → AV) (H:Heap):resV Tryz.prog τ H [.tmp 4] = some (τ 4):=by kernel_rfl
theorem W37_eq (Φ:EP) (s:St):awp Tryz.prog (Tryz.f37.body.getD .skip) Φ s = W37 Φ s:=by kernel_rfl
theorem W37_S {args:List AV} {r:AV} (hl:args.length ≤ 26) (h:∀ vs,W37 (retK Tryz.prog [.tmp 4] r) ⟨Am.look (argT 0 args),hls [] vs,noG⟩):Am.Spec Tryz.prog 37 args r:=.of_W (W:=W37) Tryz.func37 (by kernel_rfl) (by kernel_rfl) (by kernel_rfl) Tryz.ntmps37 W37_eq (by kernel_rfl) hl h
-- 38 "penance/term.Size"
def W38_k1 (Φ:EP) (s:St):Prop:=
 @sMv 18 3 s<|.mk fun s=>
 @sMv 2 18 s<|.mk fun s=>
 Φ .ret s
def W38_b3 (Φ:EP) (L0:SP) (s:St):Prop:=
 @sOp (some 11) (xIx 9 (s.τ 7) (s.τ 9) s.H) s<|.mk fun s=>
 @sLd 12 9 11 true s<|.mk fun s=>
 @sOp (some 5) (xAlloc 5 35 [.int .i64 0,.int .i64 0,.int .i64 0,.str ⟨#[]⟩,.int .i64 0,.int .i64 0,.str ⟨#[]⟩,.nils,.nils] s.H) s<|.mk fun s=>
 @sOp none (xStore 9 (s.τ 5) (s.τ 12) s.H) s<|.mk fun s=>
 @sMv 13 3 s<|.mk fun s=>
 @sLd 14 9 5 true s<|.mk fun s=>
 @sCall Tryz.prog (.func 38 []) [(s.τ 14)] (some 15) s<|.mk fun s=>
 @sOp (some 16) (xBin .add false (s.τ 13) (s.τ 15) s.H) s<|.mk fun s=>
 @sMv 3 16 s<|.mk fun s=>
 @sOp (some 17) (xBin .add false (s.τ 9) (.int .i64 1) s.H) s<|.mk fun s=>
 @sMv 9 17 s<|.mk fun s=>
 L0 s
def W38_l4 (Φ:EP) (L0:SP) (s:St):Prop:=
 @sOp (some 10) (xBin .lss false (s.τ 9) (s.τ 8) s.H) s<|.mk fun s=>
 @sIf (s.τ 10) ⟨W38_b3 Φ L0 s⟩ ⟨W38_k1 Φ s⟩
def W38 (Φ:EP) (s:St):Prop:=
 @sOp (some 1) (xBox 1 35 (s.τ 0) s.H) s<|.mk fun s=>
 @sOp (some 2) (xMov (.int .i64 0) s.H) s<|.mk fun s=>
 @sOp (some 3) (xMov (.int .i64 1) s.H) s<|.mk fun s=>
 @sFl 6 8 1 s<|.mk fun s=>
 @sLd 7 1 6 false s<|.mk fun s=>
 @sOp (some 8) (xLen (s.τ 7) s.H) s<|.mk fun s=>
 @sOp (some 9) (xMov (.int .i64 0) s.H) s<|.mk fun s=>
 @sLoop s ⟨fun L0 s=>W38_l4 Φ L0 s⟩
theorem W38_rs (τ:Nat → AV) (H:Heap):resV Tryz.prog τ H [.tmp 2] = some (τ 2):=by kernel_rfl
theorem W38_eq (Φ:EP) (s:St):awp Tryz.prog (Tryz.f38.body.getD .skip) Φ s = W38 Φ s:=by kernel_rfl
theorem W38_S {args:List AV} {r:AV} (hl:args.length ≤ 19) (h:∀ vs,W38 (retK Tryz.prog [.tmp 2] r) ⟨Am.look (argT 0 args),hls [] vs,noG⟩):Am.Spec Tryz.prog 38 args r:=.of_W (W:=W38) Tryz.func38 (by kernel_rfl) (by kernel_rfl) (by kernel_rfl) Tryz.ntmps38 W38_eq (by kernel_rfl) hl h
-- 39 "penance/run.waits"
def W39_k1 (Φ:EP) (s:St):Prop:=
 @sOp none (xStore 1 (s.τ 2) (.bool false) s.H) s<|.mk fun s=>
 Φ .ret s
def W39_b2 (Φ:EP) (s:St):Prop:=
 @sOp none (xStore 1 (s.τ 2) (.bool true) s.H) s<|.mk fun s=>
 Φ .ret s
def W39_r3 (Φ:EP) (s:St):Prop:=
 @sOp (some 3) (xAlloc 3 35 [.int .i64 0,.int .i64 0,.int .i64 0,.str ⟨#[]⟩,.int .i64 0,.int .i64 0,.str ⟨#[]⟩,.nils,.nils] s.H) s<|.mk fun s=>
 @sOp none (xStore 9 (s.τ 3) (s.τ 6) s.H) s<|.mk fun s=>
 @sFl 7 0 3 s<|.mk fun s=>
 @sLd 8 1 7 false s<|.mk fun s=>
 @sOp (some 9) (xBin .eql false (s.τ 8) (.int .i64 14) s.H) s<|.mk fun s=>
 @sIf (s.τ 9) ⟨W39_b2 Φ s⟩ ⟨Φ .normal s⟩
def W39 (Φ:EP) (s:St):Prop:=
 @sOp (some 1) (xBox 1 35 (s.τ 0) s.H) s<|.mk fun s=>
 @sOp (some 2) (xAlloc 2 4 [.bool false] s.H) s<|.mk fun s=>
 @sLd 4 9 1 true s<|.mk fun s=>
 @sCall Tryz.prog (.func 80 []) [(s.τ 4)] (some 5) s<|.mk fun s=>
 @sRange Tryz.prog (s.τ 5) [6] s ⟨fun Φ s=>W39_r3 Φ s⟩ ⟨(blkK 0 (thenK (W39_k1 Φ) Φ))⟩
theorem W39_rs (τ:Nat → AV) (H:Heap):resV Tryz.prog τ H [.cell 2 4] = rdV H 1 false (τ 2):=by kernel_rfl
theorem W39_eq (Φ:EP) (s:St):awp Tryz.prog (Tryz.f39.body.getD .skip) Φ s = W39 Φ s:=by kernel_rfl
theorem W39_S {args:List AV} {r:AV} (hl:args.length ≤ 10) (h:∀ vs,W39 (retK Tryz.prog [.cell 2 4] r) ⟨Am.look (argT 0 args),hls [] vs,noG⟩):Am.Spec Tryz.prog 39 args r:=.of_W (W:=W39) Tryz.func39 (by kernel_rfl) (by kernel_rfl) (by kernel_rfl) Tryz.ntmps39 W39_eq (by kernel_rfl) hl h
-- 40 "penance/term.Right"
def W40 (Φ:EP) (s:St):Prop:=
 @sOp (some 4) (xBox 4 35 (s.τ 0) s.H) s<|.mk fun s=>
 @sOp (some 8) (xMov (.bool false) s.H) s<|.mk fun s=>
 @sMv 9 1 s<|.mk fun s=>
 @sMv 10 2 s<|.mk fun s=>
 @sMv 11 3 s<|.mk fun s=>
 @sOp (some 12) (xBuild [.int .i64 0,.int .i64 0,.int .i64 0] [(0,1,(s.τ 9)),(1,1,(s.τ 10)),(2,1,(s.τ 11))] s.H) s<|.mk fun s=>
 @sLd 13 9 4 true s<|.mk fun s=>
 @sCall Tryz.prog (.func 81 []) [(s.τ 12),(s.τ 13),(.bool false)] (some 14) s<|.mk fun s=>
 @sMv 8 14 s<|.mk fun s=>
 Φ .ret s
theorem W40_rs (τ:Nat → AV) (H:Heap):resV Tryz.prog τ H [.tmp 8] = some (τ 8):=by kernel_rfl
theorem W40_eq (Φ:EP) (s:St):awp Tryz.prog (Tryz.f40.body.getD .skip) Φ s = W40 Φ s:=by kernel_rfl
theorem W40_S {args:List AV} {r:AV} (hl:args.length ≤ 15) (h:∀ vs,W40 (retK Tryz.prog [.tmp 8] r) ⟨Am.look (argT 0 args),hls [] vs,noG⟩):Am.Spec Tryz.prog 40 args r:=.of_W (W:=W40) Tryz.func40 (by kernel_rfl) (by kernel_rfl) (by kernel_rfl) Tryz.ntmps40 W40_eq (by kernel_rfl) hl h
-- 41 "penance/run.own"
def W41 (Φ:EP) (s:St):Prop:=
 @sOp (some 1) (xBox 1 38 (s.τ 0) s.H) s<|.mk fun s=>
 @sOp (some 2) (xAlloc 2 38 [.int .i64 0,.int .i64 0,.int .i64 0,.str ⟨#[]⟩,.int .i64 0,.int .i64 0,.str ⟨#[]⟩,.nils,.nils,.nils,.nils,.int .i64 0,.int .i64 0] s.H) s<|.mk fun s=>
 @sFl 3 0 1 s<|.mk fun u1=>
 @sLd 4 9 3 true u1<|.mk fun u2=>
 @sCall0 Tryz.prog (.func 32 []) [(u2.τ 4)] (some 5) u2<|.mk fun u3=>
 @sChk (compat (cfp 5 32 [(u2.τ 4)]) (occ (u3.τ 1),[])) <| .mk <|
 @sFl 6 9 1 u3<|.mk fun u4=>
 @sChk (compat (cfp 5 32 [(u2.τ 4)]) (occ (u4.τ 6),[])) <| .mk <|
 @sLd 7 1 6 false u4<|.mk fun u5=>
 @sCall0 Tryz.prog (.func 33 []) [(u5.τ 7)] (some 8) u5<|.mk fun u6=>
 @sChk (compat (cfp 5 32 [(u2.τ 4)]) (occ (u6.τ 1),[])) <| .mk <|
 @sChk (compat (cfp 8 33 [(u5.τ 7)]) (occ (u6.τ 1),[])) <| .mk <|
 @sFl 9 10 1 u6<|.mk fun u7=>
 @sChk (compat (cfp 5 32 [(u2.τ 4)]) (occ (u7.τ 9),[])) <| .mk <|
 @sChk (compat (cfp 8 33 [(u5.τ 7)]) (occ (u7.τ 9),[])) <| .mk <|
 @sLd 10 1 9 false u7<|.mk fun u8=>
 @sCall0 Tryz.prog (.func 34 []) [(u8.τ 10),(.int .i64 0),(.int .i64 0)] (some 11) u8<|.mk fun u9=>
 @sChk (compat (cfp 8 33 [(u5.τ 7)]) (occ (u9.τ 1),[])) <| .mk <|
 @sChk (compat (cfp 11 34 [(u8.τ 10),(.int .i64 0),(.int .i64 0)]) (occ (u9.τ 1),[])) <| .mk <|
 @sFl 12 0 1 u9<|.mk fun u10=>
 @sOp none (xStore 9 (u10.τ 12) (u10.τ 5) u10.H) u10<|.mk fun u11=>
 @sFl 13 9 1 u11<|.mk fun u12=>
 @sOp none (xStore 1 (u12.τ 13) (u12.τ 8) u12.H) u12<|.mk fun u13=>
 @sFl 14 10 1 u13<|.mk fun u14=>
 @sOp none (xStore 1 (u14.τ 14) (u14.τ 11) u14.H) u14<|.mk fun s=>
 @sLd 15 13 1 true s<|.mk fun s=>
 @sOp none (xStore 13 (s.τ 2) (s.τ 15) s.H) s<|.mk fun s=>
 Φ .ret s
theorem W41_rs (τ:Nat → AV) (H:Heap):resV Tryz.prog τ H [.cell 2 38] = rdV H 13 true (τ 2):=by kernel_rfl
theorem W41_eq (Φ:EP) (s:St):awp Tryz.prog (Tryz.f41.body.getD .skip) Φ s = W41 Φ s:=by kernel_rfl
theorem W41_S {args:List AV} {r:AV} (hl:args.length ≤ 16) (h:∀ vs,W41 (retK Tryz.prog [.cell 2 38] r) ⟨Am.look (argT 0 args),hls [] vs,noG⟩):Am.Spec Tryz.prog 41 args r:=.of_W (W:=W41) Tryz.func41 (by kernel_rfl) (by kernel_rfl) (by kernel_rfl) Tryz.ntmps41 W41_eq (by kernel_rfl) hl h
end Go.Proofs.YtnngddgaobhkiaaGreat
set_option linter.unusedVariables false
set_option maxRecDepth 100000
namespace Go.Proofs.YtnngddgaobhkiaaGreat
open Go Go.Am
-- 42 "penance/run.waiting"
def W42_b1 (Φ:EP) (s:St):Prop:=
 @sFl 14 1 2 s<|.mk fun s=>
 @sLd 15 1 14 false s<|.mk fun s=>
 @sMv 16 1 s<|.mk fun s=>
 @sOp (some 17) (xBin .eql false (s.τ 15) (s.τ 16) s.H) s<|.mk fun s=>
 @sOp (some 4) (xMov (.nils) s.H) s<|.mk fun s=>
 @sMv 5 17 s<|.mk fun s=>
 Φ .ret s
def W42_b2 (Φ:EP) (s:St):Prop:=
 @sOp (some 4) (xMov (.nils) s.H) s<|.mk fun s=>
 @sOp (some 5) (xMov (.bool false) s.H) s<|.mk fun s=>
 Φ .ret s
def W42_k3 (Φ:EP) (s:St):Prop:=
 @sOp (some 4) (xMov (.nils) s.H) s<|.mk fun s=>
 @sOp (some 5) (xMov (.bool false) s.H) s<|.mk fun s=>
 Φ .ret s
def W42_b4 (Φ:EP) (L0:SP) (s:St):Prop:=
 @sMv 54 6 s<|.mk fun s=>
 @sOp (some 55) (xRow 55 3 1 1 [.int .i64 0] [(0,(s.τ 54))] s.H) s<|.mk fun s=>
 @sMv 56 8 s<|.mk fun s=>
 @sOp (some 57) (xApp Tryz.prog 3 1 8 (some 57) (s.τ 55) (s.τ 56) s.H) s<|.mk fun s=>
 @sMv 4 57 s<|.mk fun s=>
 @sOp (some 5) (xMov (.bool true) s.H) s<|.mk fun s=>
 Φ .ret s
def W42_b5 (Φ:EP) (L0:SP) (s:St):Prop:=
 @sOp (some 58) (xBin .add false (s.τ 35) (.int .i64 1) s.H) s<|.mk fun s=>
 @sMv 35 58 s<|.mk fun s=>
 L0 s
def W42_b7 (Φ:EP) (L0:SP) (s:St):Prop:=
 @sLd 48 9 7 true s<|.mk fun s=>
 @sMv 49 1 s<|.mk fun s=>
 @sCall Tryz.prog (.func 42 []) [(s.τ 48),(s.τ 49)] (some 50) s<|.mk fun s=>
 @sMv 47 50 s<|.mk fun s=>
 @sOp (some 51) (xExt (s.τ 47) 0 s.H) s<|.mk fun s=>
 @sOp (some 52) (xExt (s.τ 47) 1 s.H) s<|.mk fun s=>
 @sMv 8 51 s<|.mk fun s=>
 @sMv 9 52 s<|.mk fun s=>
 @sMv 53 9 s<|.mk fun s=>
 @sIf (s.τ 53) ⟨W42_b4 Φ L0 s⟩ ⟨W42_b5 Φ L0 s⟩
def W42_b11 (Φ:EP) (L0:SP) (s:St):Prop:=
 @sMv 37 35 s<|.mk fun s=>
 @sOp (some 38) (xIx 9 (s.τ 33) (s.τ 35) s.H) s<|.mk fun s=>
 @sLd 39 9 38 true s<|.mk fun s=>
 @sOp (some 7) (xAlloc 7 35 [.int .i64 0,.int .i64 0,.int .i64 0,.str ⟨#[]⟩,.int .i64 0,.int .i64 0,.str ⟨#[]⟩,.nils,.nils] s.H) s<|.mk fun s=>
 @sMv 6 37 s<|.mk fun s=>
 @sOp none (xStore 9 (s.τ 7) (s.τ 39) s.H) s<|.mk fun s=>
 @sMv 40 6 s<|.mk fun s=>
 @sOp (some 41) (xBin .gtr false (s.τ 40) (.int .i64 0) s.H) s<|.mk fun s=>
 @sMv 42 41 s<|.mk fun s=>
 @sGf 43 0 2 42 true s<|.mk fun s=>
 @sGl 44 1 43 42 false true s<|.mk fun s=>
 @sGo 45 42 true s (fun s=>(xBin .eql false (s.τ 44) (.int .i64 12) s.H))<|.mk fun s=>
 @sOp (some 46) (xPick (s.τ 42) (s.τ 45) (.bool false) s.H) s<|.mk fun s=>
 @sIf (s.τ 46) ⟨W42_k3 Φ s⟩ ⟨W42_b7 Φ L0 s⟩
def W42_l12 (Φ:EP) (L0:SP) (s:St):Prop:=
 @sOp (some 36) (xBin .lss false (s.τ 35) (s.τ 34) s.H) s<|.mk fun s=>
 @sIf (s.τ 36) ⟨W42_b11 Φ L0 s⟩ ⟨W42_k3 Φ s⟩
def W42_b13 (Φ:EP) (s:St):Prop:=
 @sFl 32 8 2 s<|.mk fun s=>
 @sLd 33 1 32 false s<|.mk fun s=>
 @sOp (some 34) (xLen (s.τ 33) s.H) s<|.mk fun s=>
 @sOp (some 35) (xMov (.int .i64 0) s.H) s<|.mk fun s=>
 @sLoop s ⟨fun L0 s=>W42_l12 Φ L0 s⟩
def W42_b20 (Φ:EP) (s:St):Prop:=
 @sFl 19 0 2 s<|.mk fun s=>
 @sLd 20 1 19 false s<|.mk fun s=>
 @sOp (some 21) (xBin .neq false (s.τ 20) (.int .i64 12) s.H) s<|.mk fun s=>
 @sMv 22 21 s<|.mk fun s=>
 @sGf 23 0 2 22 true s<|.mk fun s=>
 @sGl 24 1 23 22 false true s<|.mk fun s=>
 @sGo 25 22 true s (fun s=>(xBin .neq false (s.τ 24) (.int .i64 11) s.H))<|.mk fun s=>
 @sOp (some 26) (xPick (s.τ 22) (s.τ 25) (.bool false) s.H) s<|.mk fun s=>
 @sMv 27 26 s<|.mk fun s=>
 @sGf 28 0 2 27 true s<|.mk fun s=>
 @sGl 29 1 28 27 false true s<|.mk fun s=>
 @sGo 30 27 true s (fun s=>(xBin .neq false (s.τ 29) (.int .i64 7) s.H))<|.mk fun s=>
 @sOp (some 31) (xPick (s.τ 27) (s.τ 30) (.bool false) s.H) s<|.mk fun s=>
 @sMv 18 31 s<|.mk fun s=>
 @sIf (s.τ 18) ⟨W42_b2 Φ s⟩ ⟨W42_b13 Φ s⟩
def W42 (Φ:EP) (s:St):Prop:=
 @sOp (some 2) (xBox 2 35 (s.τ 0) s.H) s<|.mk fun s=>
 @sOp (some 4) (xMov (.nils) s.H) s<|.mk fun s=>
 @sOp (some 5) (xMov (.bool false) s.H) s<|.mk fun s=>
 @sFl 11 0 2 s<|.mk fun s=>
 @sLd 12 1 11 false s<|.mk fun s=>
 @sOp (some 13) (xBin .eql false (s.τ 12) (.int .i64 14) s.H) s<|.mk fun s=>
 @sMv 10 13 s<|.mk fun s=>
 @sIf (s.τ 10) ⟨W42_b1 Φ s⟩ ⟨W42_b20 Φ s⟩
theorem W42_rs (τ:Nat → AV) (H:Heap):resV Tryz.prog τ H [.tmp 4,.tmp 5] = ob (ob (some (τ 4)) fun v=>ob (ob (some (τ 5)) fun v=>ob (some []) fun vs=>some (v :: vs)) fun vs=>some (v :: vs)) fun vs=>some (.tup vs):=by kernel_rfl
theorem W42_eq (Φ:EP) (s:St):awp Tryz.prog (Tryz.f42.body.getD .skip) Φ s = W42 Φ s:=by kernel_rfl
theorem W42_S {args:List AV} {r:AV} (hl:args.length ≤ 59) (h:∀ vs,W42 (retK Tryz.prog [.tmp 4,.tmp 5] r) ⟨Am.look (argT 0 args),hls [] vs,noG⟩):Am.Spec Tryz.prog 42 args r:=.of_W (W:=W42) Tryz.func42 (by kernel_rfl) (by kernel_rfl) (by kernel_rfl) Tryz.ntmps42 W42_eq (by kernel_rfl) hl h
-- 43 "penance/run.at"
def W43_k1 (Φ:EP) (s:St):Prop:=
 @sLd 19 9 2 true s<|.mk fun s=>
 @sOp none (xStore 9 (s.τ 4) (s.τ 19) s.H) s<|.mk fun s=>
 Φ .ret s
def W43_b2 (Φ:EP) (L0:SP) (s:St):Prop:=
 @sOp (some 11) (xIx 1 (s.τ 7) (s.τ 9) s.H) s<|.mk fun s=>
 @sLd 12 1 11 false s<|.mk fun s=>
 @sMv 6 12 s<|.mk fun s=>
 @sFl 13 8 2 s<|.mk fun s=>
 @sLd 14 1 13 false s<|.mk fun s=>
 @sMv 15 6 s<|.mk fun s=>
 @sOp (some 16) (xIx 9 (s.τ 14) (s.τ 15) s.H) s<|.mk fun s=>
 @sLd 17 9 16 true s<|.mk fun s=>
 @sOp none (xStore 9 (s.τ 2) (s.τ 17) s.H) s<|.mk fun s=>
 @sOp (some 18) (xBin .add false (s.τ 9) (.int .i64 1) s.H) s<|.mk fun s=>
 @sMv 9 18 s<|.mk fun s=>
 L0 s
def W43_l3 (Φ:EP) (L0:SP) (s:St):Prop:=
 @sOp (some 10) (xBin .lss false (s.τ 9) (s.τ 8) s.H) s<|.mk fun s=>
 @sIf (s.τ 10) ⟨W43_b2 Φ L0 s⟩ ⟨W43_k1 Φ s⟩
def W43 (Φ:EP) (s:St):Prop:=
 @sOp (some 2) (xBox 2 35 (s.τ 0) s.H) s<|.mk fun s=>
 @sOp (some 4) (xAlloc 4 35 [.int .i64 0,.int .i64 0,.int .i64 0,.str ⟨#[]⟩,.int .i64 0,.int .i64 0,.str ⟨#[]⟩,.nils,.nils] s.H) s<|.mk fun s=>
 @sMv 7 1 s<|.mk fun s=>
 @sOp (some 8) (xLen (s.τ 7) s.H) s<|.mk fun s=>
 @sOp (some 9) (xMov (.int .i64 0) s.H) s<|.mk fun s=>
 @sLoop s ⟨fun L0 s=>W43_l3 Φ L0 s⟩
theorem W43_rs (τ:Nat → AV) (H:Heap):resV Tryz.prog τ H [.cell 4 35] = rdV H 9 true (τ 4):=by kernel_rfl
theorem W43_eq (Φ:EP) (s:St):awp Tryz.prog (Tryz.f43.body.getD .skip) Φ s = W43 Φ s:=by kernel_rfl
theorem W43_S {args:List AV} {r:AV} (hl:args.length ≤ 20) (h:∀ vs,W43 (retK Tryz.prog [.cell 4 35] r) ⟨Am.look (argT 0 args),hls [] vs,noG⟩):Am.Spec Tryz.prog 43 args r:=.of_W (W:=W43) Tryz.func43 (by kernel_rfl) (by kernel_rfl) (by kernel_rfl) Tryz.ntmps43 W43_eq (by kernel_rfl) hl h
-- 44 "penance/run.put"
def W44_b1 (Φ:EP) (s:St):Prop:=
 @sLd 11 9 5 true s<|.mk fun s=>
 @sOp none (xStore 9 (s.τ 6) (s.τ 11) s.H) s<|.mk fun s=>
 Φ .ret s
def W44_b4 (Φ:EP) (s:St):Prop:=
 @sFl 12 8 3 s<|.mk fun s=>
 @sLd 13 1 12 false s<|.mk fun s=>
 @sCall Tryz.prog (.func 82 []) [(s.τ 13)] (some 14) s<|.mk fun s=>
 @sMv 7 14 s<|.mk fun s=>
 @sMv 15 7 s<|.mk fun u1=>
 @sMv 16 1 u1<|.mk fun u2=>
 @sOp (some 17) (xIx 1 (u2.τ 16) (.int .i64 0) u2.H) u2<|.mk fun u3=>
 @sLd 18 1 17 false u3<|.mk fun u4=>
 @sMv 19 7 u4<|.mk fun u5=>
 @sMv 20 1 u5<|.mk fun u6=>
 @sOp (some 21) (xIx 1 (u6.τ 20) (.int .i64 0) u6.H) u6<|.mk fun u7=>
 @sLd 22 1 21 false u7<|.mk fun u8=>
 @sOp (some 23) (xIx 9 (u8.τ 19) (u8.τ 22) u8.H) u8<|.mk fun u9=>
 @sLd 24 9 23 true u9<|.mk fun u10=>
 @sMv 25 1 u10<|.mk fun u11=>
 @sOp (some 26) (xSlc 1 (u11.τ 25) (some (.int .i64 1)) none u11.H) u11<|.mk fun u12=>
 @sLd 27 9 5 true u12<|.mk fun u13=>
 @sChk (compat (occ (u2.τ 16),[]) (cfp 28 44 [(u13.τ 24),(u13.τ 26),(u13.τ 27)])) <| .mk <|
 @sChk (compat (occ (u3.τ 17),[]) (cfp 28 44 [(u13.τ 24),(u13.τ 26),(u13.τ 27)])) <| .mk <|
 @sCall0 Tryz.prog (.func 44 []) [(u13.τ 24),(u13.τ 26),(u13.τ 27)] (some 28) u13<|.mk fun u14=>
 @sOp (some 29) (xIx 9 (u14.τ 15) (u14.τ 18) u14.H) u14<|.mk fun u15=>
 @sOp none (xStore 9 (u15.τ 29) (u15.τ 28) u15.H) u15<|.mk fun s=>
 @sMv 30 7 s<|.mk fun s=>
 @sFl 31 8 3 s<|.mk fun s=>
 @sOp none (xStore 1 (s.τ 31) (s.τ 30) s.H) s<|.mk fun s=>
 @sLd 32 9 3 true s<|.mk fun s=>
 @sOp none (xStore 9 (s.τ 6) (s.τ 32) s.H) s<|.mk fun s=>
 Φ .ret s
def W44 (Φ:EP) (s:St):Prop:=
 @sOp (some 3) (xBox 3 35 (s.τ 0) s.H) s<|.mk fun s=>
 @sOp (some 5) (xBox 5 35 (s.τ 2) s.H) s<|.mk fun s=>
 @sOp (some 6) (xAlloc 6 35 [.int .i64 0,.int .i64 0,.int .i64 0,.str ⟨#[]⟩,.int .i64 0,.int .i64 0,.str ⟨#[]⟩,.nils,.nils] s.H) s<|.mk fun s=>
 @sMv 8 1 s<|.mk fun s=>
 @sOp (some 9) (xLen (s.τ 8) s.H) s<|.mk fun s=>
 @sOp (some 10) (xBin .eql false (s.τ 9) (.int .i64 0) s.H) s<|.mk fun s=>
 @sIf (s.τ 10) ⟨W44_b1 Φ s⟩ ⟨W44_b4 Φ s⟩
theorem W44_rs (τ:Nat → AV) (H:Heap):resV Tryz.prog τ H [.cell 6 35] = rdV H 9 true (τ 6):=by kernel_rfl
theorem W44_eq (Φ:EP) (s:St):awp Tryz.prog (Tryz.f44.body.getD .skip) Φ s = W44 Φ s:=by kernel_rfl
theorem W44_S {args:List AV} {r:AV} (hl:args.length ≤ 33) (h:∀ vs,W44 (retK Tryz.prog [.cell 6 35] r) ⟨Am.look (argT 0 args),hls [] vs,noG⟩):Am.Spec Tryz.prog 44 args r:=.of_W (W:=W44) Tryz.func44 (by kernel_rfl) (by kernel_rfl) (by kernel_rfl) Tryz.ntmps44 W44_eq (by kernel_rfl) hl h
-- 46 "penance/steps.Enabled"
def W46_k2 (Φ:EP) (J0:Nat → SP) (s:St):Prop:=
 @sLd 42 1 3 false s<|.mk fun s=>
 @sCall Tryz.prog (.func 84 []) [(s.τ 42)] (some 43) s<|.mk fun s=>
 @sMv 2 43 s<|.mk fun s=>
 Φ .ret s
def W46_b4 (Φ:EP) (L0:SP) (s:St):Prop:=
 @sMv 29 27 s<|.mk fun s=>
 @sMv 6 29 s<|.mk fun s=>
 @sLd 30 1 3 false s<|.mk fun u1=>
 @sFl 31 0 4 u1<|.mk fun u2=>
 @sFl 32 0 31 u2<|.mk fun u3=>
 @sLd 33 1 32 false u3<|.mk fun u4=>
 @sFl 34 9 4 u4<|.mk fun u5=>
 @sLd 35 1 34 false u5<|.mk fun u6=>
 @sChk (compat (occ (s.τ 3),[]) (cfp 36 33 [(u6.τ 35)])) <| .mk <|
 @sChk (compat (occ (u1.τ 4),[]) (cfp 36 33 [(u6.τ 35)])) <| .mk <|
 @sChk (compat (occ (u2.τ 31),[]) (cfp 36 33 [(u6.τ 35)])) <| .mk <|
 @sChk (compat (occ (u3.τ 32),[]) (cfp 36 33 [(u6.τ 35)])) <| .mk <|
 @sCall0 Tryz.prog (.func 33 []) [(u6.τ 35)] (some 36) u6<|.mk fun u7=>
 @sMv 37 6 u7<|.mk fun u8=>
 @sOp (some 38) (xBuild [.int .i64 0,.nils,.int .i64 0] [(0,1,(u8.τ 33)),(1,1,(u8.τ 36)),(2,1,(u8.τ 37))] u8.H) u8<|.mk fun u9=>
 @sChk (compat (occ (s.τ 3),[]) ([39] ++ occL [(u9.τ 38)],[39] ++ occL [(u9.τ 38)])) <| .mk <|
 @sOp (some 39) (xLit 3 1 [.int .i64 0,.nils,.int .i64 0] [(0,(u9.τ 38))] u9.H) u9<|.mk fun u10=>
 @sOp (some 40) (xApp Tryz.prog 60 3 40 (some 40) (u10.τ 30) (u10.τ 39) u10.H) u10<|.mk fun u11=>
 @sOp none (xStore 1 (u11.τ 3) (u11.τ 40) u11.H) u11<|.mk fun s=>
 @sOp (some 41) (xBin .add false (s.τ 27) (.int .i64 1) s.H) s<|.mk fun s=>
 @sMv 27 41 s<|.mk fun s=>
 L0 s
def W46_l5 (Φ:EP) (L0:SP) (s:St):Prop:=
 @sOp (some 28) (xBin .lss false (s.τ 27) (s.τ 26) s.H) s<|.mk fun s=>
 @sIf (s.τ 28) ⟨W46_b4 Φ L0 s⟩ ⟨Φ .normal s⟩
def W46_k6 (Φ:EP) (s:St):Prop:=
 @sMv 26 5 s<|.mk fun s=>
 @sOp (some 27) (xMov (.int .i64 0) s.H) s<|.mk fun s=>
 @sLoop s ⟨fun L0 s=>W46_l5 Φ L0 s⟩
def W46_b7 (Φ:EP) (s:St):Prop:=
 @sFl 22 10 4 s<|.mk fun s=>
 @sLd 23 1 22 false s<|.mk fun s=>
 @sIf (s.τ 23) ⟨Φ .normal s⟩ ⟨W46_k6 Φ s⟩
def W46_b8 (Φ:EP) (s:St):Prop:=
 @sOp (some 5) (xMov (.int .i64 2) s.H) s<|.mk fun s=>
 W46_k6 Φ s
def W46_b9 (Φ:EP) (s:St):Prop:=
 @sOp (some 25) (xBin .eql false (s.τ 13) (.int .i64 10) s.H) s<|.mk fun s=>
 @sMv 24 25 s<|.mk fun s=>
 @sIf (s.τ 24) ⟨W46_b8 Φ s⟩ ⟨W46_k6 Φ s⟩
def W46_b10 (Φ:EP) (s:St):Prop:=
 @sOp (some 21) (xBin .eql false (s.τ 13) (.int .i64 8) s.H) s<|.mk fun s=>
 @sMv 20 21 s<|.mk fun s=>
 @sIf (s.τ 20) ⟨W46_b7 Φ s⟩ ⟨W46_b9 Φ s⟩
def W46_k11 (Φ:EP) (s:St):Prop:=
 @sIf (s.τ 14) ⟨Φ .normal s⟩ ⟨W46_b10 Φ s⟩
def W46_b12 (Φ:EP) (s:St):Prop:=
 @sOp (some 19) (xBin .eql false (s.τ 13) (.int .i64 7) s.H) s<|.mk fun s=>
 @sMv 14 19 s<|.mk fun s=>
 W46_k11 Φ s
def W46_b13 (Φ:EP) (s:St):Prop:=
 @sOp (some 18) (xBin .eql false (s.τ 13) (.int .i64 11) s.H) s<|.mk fun s=>
 @sMv 14 18 s<|.mk fun s=>
 @sIf (s.τ 14) ⟨W46_k11 Φ s⟩ ⟨W46_b12 Φ s⟩
def W46_b14 (Φ:EP) (s:St):Prop:=
 @sOp (some 17) (xBin .eql false (s.τ 13) (.int .i64 12) s.H) s<|.mk fun s=>
 @sMv 14 17 s<|.mk fun s=>
 @sIf (s.τ 14) ⟨W46_k11 Φ s⟩ ⟨W46_b13 Φ s⟩
def W46_b15 (Φ:EP) (s:St):Prop:=
 @sOp (some 16) (xBin .eql false (s.τ 13) (.int .i64 14) s.H) s<|.mk fun s=>
 @sMv 14 16 s<|.mk fun s=>
 @sIf (s.τ 14) ⟨W46_k11 Φ s⟩ ⟨W46_b14 Φ s⟩
def W46_r16 (Φ:EP) (s:St):Prop:=
 @sOp (some 4) (xAlloc 4 140 [.int .i64 0,.int .i64 0,.int .i64 0,.str ⟨#[]⟩,.int .i64 0,.int .i64 0,.str ⟨#[]⟩,.nils,.nils,.nils,.bool false] s.H) s<|.mk fun s=>
 @sOp none (xStore 11 (s.τ 4) (s.τ 10) s.H) s<|.mk fun s=>
 @sOp (some 5) (xMov (.int .i64 1) s.H) s<|.mk fun s=>
 @sFl 11 0 4 s<|.mk fun s=>
 @sFl 12 0 11 s<|.mk fun s=>
 @sLd 13 1 12 false s<|.mk fun s=>
 @sOp (some 15) (xBin .eql false (s.τ 13) (.int .i64 0) s.H) s<|.mk fun s=>
 @sMv 14 15 s<|.mk fun s=>
 @sIf (s.τ 14) ⟨W46_k11 Φ s⟩ ⟨W46_b15 Φ s⟩
def W46_s19 (Φ:EP) (J0:Nat → SP) (s:St):Prop:=
 @sOp (some 3) (xAlloc 3 56 [.nils] s.H) s<|.mk fun s=>
 @sLd 7 9 1 true s<|.mk fun s=>
 @sCall Tryz.prog (.func 32 []) [(s.τ 7)] (some 8) s<|.mk fun s=>
 @sCall Tryz.prog (.func 83 []) [(s.τ 8)] (some 9) s<|.mk fun s=>
 @sRange Tryz.prog (s.τ 9) [10] s ⟨fun Φ s=>W46_r16 Φ s⟩ ⟨(blkK 0 (thenK (W46_k2 Φ J0) (gotoK J0 Φ)))⟩
def W46_k21 (Φ:EP) (J0:Nat → SP) (s:St):Prop:=
 @sLd 42 1 3 false s<|.mk fun s=>
 @sCall Tryz.prog (.func 84 []) [(s.τ 42)] (some 43) s<|.mk fun s=>
 @sMv 2 43 s<|.mk fun s=>
 Φ .ret s
def W46_b23 (Φ:EP) (L0:SP) (s:St):Prop:=
 @sMv 29 27 s<|.mk fun s=>
 @sMv 6 29 s<|.mk fun s=>
 @sLd 30 1 3 false s<|.mk fun u1=>
 @sFl 31 0 4 u1<|.mk fun u2=>
 @sFl 32 0 31 u2<|.mk fun u3=>
 @sLd 33 1 32 false u3<|.mk fun u4=>
 @sFl 34 9 4 u4<|.mk fun u5=>
 @sLd 35 1 34 false u5<|.mk fun u6=>
 @sChk (compat (occ (s.τ 3),[]) (cfp 36 33 [(u6.τ 35)])) <| .mk <|
 @sChk (compat (occ (u1.τ 4),[]) (cfp 36 33 [(u6.τ 35)])) <| .mk <|
 @sChk (compat (occ (u2.τ 31),[]) (cfp 36 33 [(u6.τ 35)])) <| .mk <|
 @sChk (compat (occ (u3.τ 32),[]) (cfp 36 33 [(u6.τ 35)])) <| .mk <|
 @sCall0 Tryz.prog (.func 33 []) [(u6.τ 35)] (some 36) u6<|.mk fun u7=>
 @sMv 37 6 u7<|.mk fun u8=>
 @sOp (some 38) (xBuild [.int .i64 0,.nils,.int .i64 0] [(0,1,(u8.τ 33)),(1,1,(u8.τ 36)),(2,1,(u8.τ 37))] u8.H) u8<|.mk fun u9=>
 @sChk (compat (occ (s.τ 3),[]) ([39] ++ occL [(u9.τ 38)],[39] ++ occL [(u9.τ 38)])) <| .mk <|
 @sOp (some 39) (xLit 3 1 [.int .i64 0,.nils,.int .i64 0] [(0,(u9.τ 38))] u9.H) u9<|.mk fun u10=>
 @sOp (some 40) (xApp Tryz.prog 60 3 40 (some 40) (u10.τ 30) (u10.τ 39) u10.H) u10<|.mk fun u11=>
 @sOp none (xStore 1 (u11.τ 3) (u11.τ 40) u11.H) u11<|.mk fun s=>
 @sOp (some 41) (xBin .add false (s.τ 27) (.int .i64 1) s.H) s<|.mk fun s=>
 @sMv 27 41 s<|.mk fun s=>
 L0 s
def W46_l24 (Φ:EP) (L0:SP) (s:St):Prop:=
 @sOp (some 28) (xBin .lss false (s.τ 27) (s.τ 26) s.H) s<|.mk fun s=>
 @sIf (s.τ 28) ⟨W46_b23 Φ L0 s⟩ ⟨Φ .normal s⟩
def W46_k25 (Φ:EP) (s:St):Prop:=
 @sMv 26 5 s<|.mk fun s=>
 @sOp (some 27) (xMov (.int .i64 0) s.H) s<|.mk fun s=>
 @sLoop s ⟨fun L0 s=>W46_l24 Φ L0 s⟩
def W46_b26 (Φ:EP) (s:St):Prop:=
 @sFl 22 10 4 s<|.mk fun s=>
 @sLd 23 1 22 false s<|.mk fun s=>
 @sIf (s.τ 23) ⟨Φ .normal s⟩ ⟨W46_k25 Φ s⟩
def W46_b27 (Φ:EP) (s:St):Prop:=
 @sOp (some 5) (xMov (.int .i64 2) s.H) s<|.mk fun s=>
 W46_k25 Φ s
def W46_b28 (Φ:EP) (s:St):Prop:=
 @sOp (some 25) (xBin .eql false (s.τ 13) (.int .i64 10) s.H) s<|.mk fun s=>
 @sMv 24 25 s<|.mk fun s=>
 @sIf (s.τ 24) ⟨W46_b27 Φ s⟩ ⟨W46_k25 Φ s⟩
def W46_b29 (Φ:EP) (s:St):Prop:=
 @sOp (some 21) (xBin .eql false (s.τ 13) (.int .i64 8) s.H) s<|.mk fun s=>
 @sMv 20 21 s<|.mk fun s=>
 @sIf (s.τ 20) ⟨W46_b26 Φ s⟩ ⟨W46_b28 Φ s⟩
def W46_k30 (Φ:EP) (s:St):Prop:=
 @sIf (s.τ 14) ⟨Φ .normal s⟩ ⟨W46_b29 Φ s⟩
def W46_b31 (Φ:EP) (s:St):Prop:=
 @sOp (some 19) (xBin .eql false (s.τ 13) (.int .i64 7) s.H) s<|.mk fun s=>
 @sMv 14 19 s<|.mk fun s=>
 W46_k30 Φ s
def W46_b32 (Φ:EP) (s:St):Prop:=
 @sOp (some 18) (xBin .eql false (s.τ 13) (.int .i64 11) s.H) s<|.mk fun s=>
 @sMv 14 18 s<|.mk fun s=>
 @sIf (s.τ 14) ⟨W46_k30 Φ s⟩ ⟨W46_b31 Φ s⟩
def W46_b33 (Φ:EP) (s:St):Prop:=
 @sOp (some 17) (xBin .eql false (s.τ 13) (.int .i64 12) s.H) s<|.mk fun s=>
 @sMv 14 17 s<|.mk fun s=>
 @sIf (s.τ 14) ⟨W46_k30 Φ s⟩ ⟨W46_b32 Φ s⟩
def W46_b34 (Φ:EP) (s:St):Prop:=
 @sOp (some 16) (xBin .eql false (s.τ 13) (.int .i64 14) s.H) s<|.mk fun s=>
 @sMv 14 16 s<|.mk fun s=>
 @sIf (s.τ 14) ⟨W46_k30 Φ s⟩ ⟨W46_b33 Φ s⟩
def W46_r35 (Φ:EP) (s:St):Prop:=
 @sOp (some 4) (xAlloc 4 140 [.int .i64 0,.int .i64 0,.int .i64 0,.str ⟨#[]⟩,.int .i64 0,.int .i64 0,.str ⟨#[]⟩,.nils,.nils,.nils,.bool false] s.H) s<|.mk fun s=>
 @sOp none (xStore 11 (s.τ 4) (s.τ 10) s.H) s<|.mk fun s=>
 @sOp (some 5) (xMov (.int .i64 1) s.H) s<|.mk fun s=>
 @sFl 11 0 4 s<|.mk fun s=>
 @sFl 12 0 11 s<|.mk fun s=>
 @sLd 13 1 12 false s<|.mk fun s=>
 @sOp (some 15) (xBin .eql false (s.τ 13) (.int .i64 0) s.H) s<|.mk fun s=>
 @sMv 14 15 s<|.mk fun s=>
 @sIf (s.τ 14) ⟨W46_k30 Φ s⟩ ⟨W46_b34 Φ s⟩
def W46_g38 (Φ:EP) (J0:Nat → SP) (s:St):Prop:=
 @sLd 7 9 1 true s<|.mk fun s=>
 @sCall Tryz.prog (.func 32 []) [(s.τ 7)] (some 8) s<|.mk fun s=>
 @sCall Tryz.prog (.func 83 []) [(s.τ 8)] (some 9) s<|.mk fun s=>
 @sRange Tryz.prog (s.τ 9) [10] s ⟨fun Φ s=>W46_r35 Φ s⟩ ⟨(blkK 0 (thenK (W46_k21 Φ J0) (gotoK J0 Φ)))⟩
def W46 (Φ:EP) (s:St):Prop:=
 @sOp (some 1) (xBox 1 35 (s.τ 0) s.H) s<|.mk fun s=>
 @sOp (some 2) (xMov (.nils) s.H) s<|.mk fun s=>
 @sScope s ⟨fun J0 s=>W46_s19 Φ J0 s⟩ ⟨[(0,fun J0 s=>W46_g38 Φ J0 s)]⟩
theorem W46_rs (τ:Nat → AV) (H:Heap):resV Tryz.prog τ H [.tmp 2] = some (τ 2):=by kernel_rfl
theorem W46_eq (Φ:EP) (s:St):awp Tryz.prog (Tryz.f46.body.getD .skip) Φ s = W46 Φ s:=by kernel_rfl
theorem W46_S {args:List AV} {r:AV} (hl:args.length ≤ 44) (h:∀ vs,W46 (retK Tryz.prog [.tmp 2] r) ⟨Am.look (argT 0 args),hls [] vs,noG⟩):Am.Spec Tryz.prog 46 args r:=.of_W (W:=W46) Tryz.func46 (by kernel_rfl) (by kernel_rfl) (by kernel_rfl) Tryz.ntmps46 W46_eq (by kernel_rfl) hl h
-- 47 "penance/expr.Eval"
def W47_b1 (Φ:EP) (s:St):Prop:=
 @sFl 12 1 2 s<|.mk fun s=>
 @sLd 13 1 12 false s<|.mk fun s=>
 @sMv 4 13 s<|.mk fun s=>
 @sOp (some 5) (xMov (.int .i64 0) s.H) s<|.mk fun s=>
 Φ .ret s
def W47_b2 (Φ:EP) (s:St):Prop:=
 @sOp (some 4) (xMov (.int .i64 0) s.H) s<|.mk fun s=>
 @sOp (some 5) (xMov (.int .i64 0) s.H) s<|.mk fun s=>
 Φ .ret s
def W47_b3 (Φ:EP) (s:St):Prop:=
 @sMv 27 1 s<|.mk fun s=>
 @sFl 28 1 2 s<|.mk fun s=>
 @sLd 29 1 28 false s<|.mk fun s=>
 @sOp (some 30) (xIx 1 (s.τ 27) (s.τ 29) s.H) s<|.mk fun s=>
 @sLd 31 1 30 false s<|.mk fun s=>
 @sMv 4 31 s<|.mk fun s=>
 @sOp (some 5) (xMov (.int .i64 0) s.H) s<|.mk fun s=>
 Φ .ret s
def W47_b9 (Φ:EP) (s:St):Prop:=
 @sFl 17 1 2 s<|.mk fun s=>
 @sLd 18 1 17 false s<|.mk fun s=>
 @sOp (some 19) (xBin .lss false (s.τ 18) (.int .i64 0) s.H) s<|.mk fun s=>
 @sMv 20 19 s<|.mk fun s=>
 @sGf 21 1 2 20 false s<|.mk fun s=>
 @sGl 22 1 21 20 false false s<|.mk fun s=>
 @sGm 23 1 20 false s<|.mk fun s=>
 @sGo 24 20 false s (fun s=>(xLen (s.τ 23) s.H))<|.mk fun s=>
 @sGo 25 20 false s (fun s=>(xBin .geq false (s.τ 22) (s.τ 24) s.H))<|.mk fun s=>
 @sOp (some 26) (xPick (s.τ 20) (.bool true) (s.τ 25) s.H) s<|.mk fun s=>
 @sIf (s.τ 26) ⟨W47_b2 Φ s⟩ ⟨W47_b3 Φ s⟩
def W47_b10 (Φ:EP) (s:St):Prop:=
 @sOp (some 4) (xMov (.int .i64 0) s.H) s<|.mk fun s=>
 @sOp (some 5) (xMov (.int .i64 0) s.H) s<|.mk fun s=>
 Φ .ret s
def W47_b11 (Φ:EP) (s:St):Prop:=
 @sMv 48 7 s<|.mk fun s=>
 @sOp (some 4) (xMov (.int .i64 0) s.H) s<|.mk fun s=>
 @sMv 5 48 s<|.mk fun s=>
 Φ .ret s
def W47_b13 (Φ:EP) (s:St):Prop:=
 @sMv 53 6 s<|.mk fun s=>
 @sOp (some 54) (xBin .eql false (s.τ 53) (.int .i64 0) s.H) s<|.mk fun s=>
 @sCall Tryz.prog (.func 85 []) [(s.τ 54)] (some 55) s<|.mk fun s=>
 @sMv 4 55 s<|.mk fun s=>
 @sOp (some 5) (xMov (.int .i64 0) s.H) s<|.mk fun s=>
 Φ .ret s
def W47_b15 (Φ:EP) (s:St):Prop:=
 @sMv 60 6 s<|.mk fun s=>
 @sCall Tryz.prog (.func 86 []) [(s.τ 60),(.int .i64 (-1))] (some 61) s<|.mk fun s=>
 @sOp (some 62) (xExt (s.τ 61) 0 s.H) s<|.mk fun s=>
 @sOp (some 63) (xExt (s.τ 61) 1 s.H) s<|.mk fun s=>
 @sMv 4 62 s<|.mk fun s=>
 @sMv 5 63 s<|.mk fun s=>
 Φ .ret s
def W47_b16 (Φ:EP) (s:St):Prop:=
 @sOp (some 4) (xMov (.int .i64 0) s.H) s<|.mk fun s=>
 @sOp (some 5) (xMov (.int .i64 0) s.H) s<|.mk fun s=>
 Φ .ret s
def W47_b17 (Φ:EP) (s:St):Prop:=
 @sOp (some 4) (xMov (.int .i64 1) s.H) s<|.mk fun s=>
 @sOp (some 5) (xMov (.int .i64 0) s.H) s<|.mk fun s=>
 Φ .ret s
def W47_b18 (Φ:EP) (s:St):Prop:=
 @sOp (some 4) (xMov (.int .i64 0) s.H) s<|.mk fun s=>
 @sOp (some 5) (xMov (.int .i64 0) s.H) s<|.mk fun s=>
 Φ .ret s
def W47_b19 (Φ:EP) (s:St):Prop:=
 @sMv 97 7 s<|.mk fun s=>
 @sOp (some 4) (xMov (.int .i64 0) s.H) s<|.mk fun s=>
 @sMv 5 97 s<|.mk fun s=>
 Φ .ret s
def W47_b21 (Φ:EP) (s:St):Prop:=
 @sMv 107 8 s<|.mk fun s=>
 @sOp (some 108) (xBin .neq false (s.τ 107) (.int .i64 0) s.H) s<|.mk fun s=>
 @sCall Tryz.prog (.func 85 []) [(s.τ 108)] (some 109) s<|.mk fun s=>
 @sMv 4 109 s<|.mk fun s=>
 @sOp (some 5) (xMov (.int .i64 0) s.H) s<|.mk fun s=>
 Φ .ret s
def W47_b23 (Φ:EP) (s:St):Prop:=
 @sFl 110 0 2 s<|.mk fun s=>
 @sLd 111 1 110 false s<|.mk fun s=>
 @sMv 112 6 s<|.mk fun s=>
 @sMv 113 8 s<|.mk fun s=>
 @sCall Tryz.prog (.func 87 []) [(s.τ 111),(s.τ 112),(s.τ 113)] (some 114) s<|.mk fun s=>
 @sOp (some 115) (xExt (s.τ 114) 0 s.H) s<|.mk fun s=>
 @sOp (some 116) (xExt (s.τ 114) 1 s.H) s<|.mk fun s=>
 @sMv 4 115 s<|.mk fun s=>
 @sMv 5 116 s<|.mk fun s=>
 Φ .ret s
def W47_b27 (Φ:EP) (s:St):Prop:=
 @sFl 99 0 2 s<|.mk fun s=>
 @sLd 100 1 99 false s<|.mk fun s=>
 @sOp (some 101) (xBin .eql false (s.τ 100) (.int .i64 16) s.H) s<|.mk fun s=>
 @sMv 102 101 s<|.mk fun s=>
 @sGf 103 0 2 102 false s<|.mk fun s=>
 @sGl 104 1 103 102 false false s<|.mk fun s=>
 @sGo 105 102 false s (fun s=>(xBin .eql false (s.τ 104) (.int .i64 17) s.H))<|.mk fun s=>
 @sOp (some 106) (xPick (s.τ 102) (.bool true) (s.τ 105) s.H) s<|.mk fun s=>
 @sMv 98 106 s<|.mk fun s=>
 @sIf (s.τ 98) ⟨W47_b21 Φ s⟩ ⟨W47_b23 Φ s⟩
def W47_b29 (Φ:EP) (s:St):Prop:=
 @sFl 86 3 2 s<|.mk fun s=>
 @sLd 87 1 86 false s<|.mk fun s=>
 @sOp (some 88) (xIx 4 (s.τ 87) (.int .i64 1) s.H) s<|.mk fun s=>
 @sLd 89 4 88 true s<|.mk fun s=>
 @sMv 90 1 s<|.mk fun s=>
 @sCall Tryz.prog (.func 47 []) [(s.τ 89),(s.τ 90)] (some 91) s<|.mk fun s=>
 @sMv 85 91 s<|.mk fun s=>
 @sOp (some 92) (xExt (s.τ 85) 0 s.H) s<|.mk fun s=>
 @sOp (some 93) (xExt (s.τ 85) 1 s.H) s<|.mk fun s=>
 @sMv 8 92 s<|.mk fun s=>
 @sMv 7 93 s<|.mk fun s=>
 @sMv 95 7 s<|.mk fun s=>
 @sOp (some 96) (xBin .neq false (s.τ 95) (.int .i64 0) s.H) s<|.mk fun s=>
 @sMv 94 96 s<|.mk fun s=>
 @sIf (s.τ 94) ⟨W47_b19 Φ s⟩ ⟨W47_b27 Φ s⟩
def W47_b30 (Φ:EP) (s:St):Prop:=
 @sFl 81 3 2 s<|.mk fun s=>
 @sLd 82 1 81 false s<|.mk fun s=>
 @sOp (some 83) (xLen (s.τ 82) s.H) s<|.mk fun s=>
 @sOp (some 84) (xBin .eql false (s.τ 83) (.int .i64 1) s.H) s<|.mk fun s=>
 @sMv 80 84 s<|.mk fun s=>
 @sIf (s.τ 80) ⟨W47_b18 Φ s⟩ ⟨W47_b29 Φ s⟩
def W47_b33 (Φ:EP) (s:St):Prop:=
 @sFl 73 0 2 s<|.mk fun s=>
 @sLd 74 1 73 false s<|.mk fun s=>
 @sOp (some 75) (xBin .eql false (s.τ 74) (.int .i64 17) s.H) s<|.mk fun s=>
 @sMv 76 75 s<|.mk fun s=>
 @sGm 77 6 76 true s<|.mk fun s=>
 @sGo 78 76 true s (fun s=>(xBin .neq false (s.τ 77) (.int .i64 0) s.H))<|.mk fun s=>
 @sOp (some 79) (xPick (s.τ 76) (s.τ 78) (.bool false) s.H) s<|.mk fun s=>
 @sMv 72 79 s<|.mk fun s=>
 @sIf (s.τ 72) ⟨W47_b17 Φ s⟩ ⟨W47_b30 Φ s⟩
def W47_b36 (Φ:EP) (s:St):Prop:=
 @sFl 65 0 2 s<|.mk fun s=>
 @sLd 66 1 65 false s<|.mk fun s=>
 @sOp (some 67) (xBin .eql false (s.τ 66) (.int .i64 16) s.H) s<|.mk fun s=>
 @sMv 68 67 s<|.mk fun s=>
 @sGm 69 6 68 true s<|.mk fun s=>
 @sGo 70 68 true s (fun s=>(xBin .eql false (s.τ 69) (.int .i64 0) s.H))<|.mk fun s=>
 @sOp (some 71) (xPick (s.τ 68) (s.τ 70) (.bool false) s.H) s<|.mk fun s=>
 @sMv 64 71 s<|.mk fun s=>
 @sIf (s.τ 64) ⟨W47_b16 Φ s⟩ ⟨W47_b33 Φ s⟩
def W47_b37 (Φ:EP) (s:St):Prop:=
 @sFl 57 0 2 s<|.mk fun s=>
 @sLd 58 1 57 false s<|.mk fun s=>
 @sOp (some 59) (xBin .eql false (s.τ 58) (.int .i64 4) s.H) s<|.mk fun s=>
 @sMv 56 59 s<|.mk fun s=>
 @sIf (s.τ 56) ⟨W47_b15 Φ s⟩ ⟨W47_b36 Φ s⟩
def W47_b38 (Φ:EP) (s:St):Prop:=
 @sFl 50 0 2 s<|.mk fun s=>
 @sLd 51 1 50 false s<|.mk fun s=>
 @sOp (some 52) (xBin .eql false (s.τ 51) (.int .i64 3) s.H) s<|.mk fun s=>
 @sMv 49 52 s<|.mk fun s=>
 @sIf (s.τ 49) ⟨W47_b13 Φ s⟩ ⟨W47_b37 Φ s⟩
def W47_b40 (Φ:EP) (s:St):Prop:=
 @sFl 37 3 2 s<|.mk fun s=>
 @sLd 38 1 37 false s<|.mk fun s=>
 @sOp (some 39) (xIx 4 (s.τ 38) (.int .i64 0) s.H) s<|.mk fun s=>
 @sLd 40 4 39 true s<|.mk fun s=>
 @sMv 41 1 s<|.mk fun s=>
 @sCall Tryz.prog (.func 47 []) [(s.τ 40),(s.τ 41)] (some 42) s<|.mk fun s=>
 @sMv 36 42 s<|.mk fun s=>
 @sOp (some 43) (xExt (s.τ 36) 0 s.H) s<|.mk fun s=>
 @sOp (some 44) (xExt (s.τ 36) 1 s.H) s<|.mk fun s=>
 @sMv 6 43 s<|.mk fun s=>
 @sMv 7 44 s<|.mk fun s=>
 @sMv 46 7 s<|.mk fun s=>
 @sOp (some 47) (xBin .neq false (s.τ 46) (.int .i64 0) s.H) s<|.mk fun s=>
 @sMv 45 47 s<|.mk fun s=>
 @sIf (s.τ 45) ⟨W47_b11 Φ s⟩ ⟨W47_b38 Φ s⟩
def W47_b41 (Φ:EP) (s:St):Prop:=
 @sFl 32 3 2 s<|.mk fun s=>
 @sLd 33 1 32 false s<|.mk fun s=>
 @sOp (some 34) (xLen (s.τ 33) s.H) s<|.mk fun s=>
 @sOp (some 35) (xBin .eql false (s.τ 34) (.int .i64 0) s.H) s<|.mk fun s=>
 @sIf (s.τ 35) ⟨W47_b10 Φ s⟩ ⟨W47_b40 Φ s⟩
def W47_b42 (Φ:EP) (s:St):Prop:=
 @sFl 14 0 2 s<|.mk fun s=>
 @sLd 15 1 14 false s<|.mk fun s=>
 @sOp (some 16) (xBin .eql false (s.τ 15) (.int .i64 2) s.H) s<|.mk fun s=>
 @sIf (s.τ 16) ⟨W47_b9 Φ s⟩ ⟨W47_b41 Φ s⟩
def W47 (Φ:EP) (s:St):Prop:=
 @sOp (some 2) (xBox 2 33 (s.τ 0) s.H) s<|.mk fun s=>
 @sOp (some 4) (xMov (.int .i64 0) s.H) s<|.mk fun s=>
 @sOp (some 5) (xMov (.int .i64 0) s.H) s<|.mk fun s=>
 @sFl 9 0 2 s<|.mk fun s=>
 @sLd 10 1 9 false s<|.mk fun s=>
 @sOp (some 11) (xBin .eql false (s.τ 10) (.int .i64 1) s.H) s<|.mk fun s=>
 @sIf (s.τ 11) ⟨W47_b1 Φ s⟩ ⟨W47_b42 Φ s⟩
theorem W47_rs (τ:Nat → AV) (H:Heap):resV Tryz.prog τ H [.tmp 4,.tmp 5] = ob (ob (some (τ 4)) fun v=>ob (ob (some (τ 5)) fun v=>ob (some []) fun vs=>some (v :: vs)) fun vs=>some (v :: vs)) fun vs=>some (.tup vs):=by kernel_rfl
theorem W47_eq (Φ:EP) (s:St):awp Tryz.prog (Tryz.f47.body.getD .skip) Φ s = W47 Φ s:=by kernel_rfl
theorem W47_S {args:List AV} {r:AV} (hl:args.length ≤ 117) (h:∀ vs,W47 (retK Tryz.prog [.tmp 4,.tmp 5] r) ⟨Am.look (argT 0 args),hls [] vs,noG⟩):Am.Spec Tryz.prog 47 args r:=.of_W (W:=W47) Tryz.func47 (by kernel_rfl) (by kernel_rfl) (by kernel_rfl) Tryz.ntmps47 W47_eq (by kernel_rfl) hl h
-- 48 "penance/stacks.Push"
def W48_k1 (Φ:EP) (s:St):Prop:=
 @sMv 24 7 s<|.mk fun s=>
 @sMv 6 24 s<|.mk fun s=>
 Φ .ret s
def W48_b3 (Φ:EP) (s:St):Prop:=
 @sMv 13 7 s<|.mk fun u1=>
 @sMv 14 1 u1<|.mk fun u2=>
 @sOp (some 15) (xIx 1 (u2.τ 13) (u2.τ 14) u2.H) u2<|.mk fun u3=>
 @sLd 16 1 15 false u3<|.mk fun u4=>
 @sLd 17 9 5 true u4<|.mk fun u5=>
 @sChk (compat (occ (u2.τ 13),[]) (cfp 18 88 [(u5.τ 17)])) <| .mk <|
 @sChk (compat (occ (u3.τ 15),[]) (cfp 18 88 [(u5.τ 17)])) <| .mk <|
 @sCall0 Tryz.prog (.func 88 []) [(u5.τ 17)] (some 18) u5<|.mk fun u6=>
 @sChk (compat (cfp 18 88 [(u5.τ 17)]) (occ (u6.τ 16),[])) <| .mk <|
 @sOp (some 19) (xLen (u6.τ 16) u6.H) u6<|.mk fun u7=>
 @sChk (compat (occ (u2.τ 13),[]) ([20] ++ occL [(.agg [.int .i64 0,.int .i64 0,.int .i64 0,.str ⟨#[]⟩,.int .i64 0,.int .i64 0,.str ⟨#[]⟩,.nils,.nils])],[20] ++ occL [(.agg [.int .i64 0,.int .i64 0,.int .i64 0,.str ⟨#[]⟩,.int .i64 0,.int .i64 0,.str ⟨#[]⟩,.nils,.nils])])) <| .mk <|
 @sChk (compat (occ (u3.τ 15),[]) ([20] ++ occL [(.agg [.int .i64 0,.int .i64 0,.int .i64 0,.str ⟨#[]⟩,.int .i64 0,.int .i64 0,.str ⟨#[]⟩,.nils,.nils])],[20] ++ occL [(.agg [.int .i64 0,.int .i64 0,.int .i64 0,.str ⟨#[]⟩,.int .i64 0,.int .i64 0,.str ⟨#[]⟩,.nils,.nils])])) <| .mk <|
 @sChk (compat (occ (u4.τ 5),[]) ([20] ++ occL [(.agg [.int .i64 0,.int .i64 0,.int .i64 0,.str ⟨#[]⟩,.int .i64 0,.int .i64 0,.str ⟨#[]⟩,.nils,.nils])],[20] ++ occL [(.agg [.int .i64 0,.int .i64 0,.int .i64 0,.str ⟨#[]⟩,.int .i64 0,.int .i64 0,.str ⟨#[]⟩,.nils,.nils])])) <| .mk <|
 @sChk (compat (cfp 18 88 [(u5.τ 17)]) ([20] ++ occL [(.agg [.int .i64 0,.int .i64 0,.int .i64 0,.str ⟨#[]⟩,.int .i64 0,.int .i64 0,.str ⟨#[]⟩,.nils,.nils])],[20] ++ occL [(.agg [.int .i64 0,.int .i64 0,.int .i64 0,.str ⟨#[]⟩,.int .i64 0,.int .i64 0,.str ⟨#[]⟩,.nils,.nils])])) <| .mk <|
 @sChk (compat (occ (u6.τ 16),[]) ([20] ++ occL [(.agg [.int .i64 0,.int .i64 0,.int .i64 0,.str ⟨#[]⟩,.int .i64 0,.int .i64 0,.str ⟨#[]⟩,.nils,.nils])],[20] ++ occL [(.agg [.int .i64 0,.int .i64 0,.int .i64 0,.str ⟨#[]⟩,.int .i64 0,.int .i64 0,.str ⟨#[]⟩,.nils,.nils])])) <| .mk <|
 @sOp (some 20) (xLit 9 1 [.int .i64 0,.int .i64 0,.int .i64 0,.str ⟨#[]⟩,.int .i64 0,.int .i64 0,.str ⟨#[]⟩,.nils,.nils] [(0,(.agg [.int .i64 0,.int .i64 0,.int .i64 0,.str ⟨#[]⟩,.int .i64 0,.int .i64 0,.str ⟨#[]⟩,.nils,.nils]))] u7.H) u7<|.mk fun u8=>
 @sOp (some 21) (xApp Tryz.prog 35 9 120 (some 21) (u8.τ 16) (u8.τ 20) u8.H) u8<|.mk fun u9=>
 @sOp (some 22) (xIx 9 (u9.τ 21) (u9.τ 19) u9.H) u9<|.mk fun u10=>
 @sOp none (xStore 9 (u10.τ 22) (u10.τ 18) u10.H) u10<|.mk fun u11=>
 @sChk (compat (occ (u10.τ 22),occ (u10.τ 22)) (occ (u11.τ 13),[])) <| .mk <|
 @sOp (some 23) (xIx 1 (u11.τ 13) (u11.τ 14) u11.H) u11<|.mk fun u12=>
 @sChk (compat (occ (u9.τ 21),[]) (occ (u12.τ 23),occ (u12.τ 23))) <| .mk <|
 @sChk (compat (occ (u10.τ 22),occ (u10.τ 22)) (occ (u12.τ 23),occ (u12.τ 23))) <| .mk <|
 @sOp none (xStore 1 (u12.τ 23) (u12.τ 21) u12.H) u12<|.mk fun s=>
 W48_k1 Φ s
def W48 (Φ:EP) (s:St):Prop:=
 @sOp (some 5) (xBox 5 35 (s.τ 2) s.H) s<|.mk fun s=>
 @sOp (some 6) (xMov (.nils) s.H) s<|.mk fun s=>
 @sMv 8 0 s<|.mk fun s=>
 @sCall Tryz.prog (.func 77 []) [(s.τ 8)] (some 9) s<|.mk fun s=>
 @sMv 7 9 s<|.mk fun s=>
 @sMv 10 7 s<|.mk fun s=>
 @sMv 11 1 s<|.mk fun s=>
 @sCall Tryz.prog (.func 78 []) [(s.τ 10),(s.τ 11)] (some 12) s<|.mk fun s=>
 @sIf (s.τ 12) ⟨W48_b3 Φ s⟩ ⟨W48_k1 Φ s⟩
theorem W48_rs (τ:Nat → AV) (H:Heap):resV Tryz.prog τ H [.tmp 6] = some (τ 6):=by kernel_rfl
theorem W48_eq (Φ:EP) (s:St):awp Tryz.prog (Tryz.f48.body.getD .skip) Φ s = W48 Φ s:=by kernel_rfl
theorem W48_S {args:List AV} {r:AV} (hl:args.length ≤ 25) (h:∀ vs,W48 (retK Tryz.prog [.tmp 6] r) ⟨Am.look (argT 0 args),hls [] vs,noG⟩):Am.Spec Tryz.prog 48 args r:=.of_W (W:=W48) Tryz.func48 (by kernel_rfl) (by kernel_rfl) (by kernel_rfl) Tryz.ntmps48 W48_eq (by kernel_rfl) hl h
-- 49 "penance/stacks.Reverse"
def W49_k2 (Φ:EP) (s:St):Prop:=
 @sLd 32 9 6 true s<|.mk fun u1=>
 @sMv 33 0 u1<|.mk fun u2=>
 @sMv 34 1 u2<|.mk fun u3=>
 @sChk (compat (occ (s.τ 6),[]) (cfp 35 50 [(u3.τ 33),(u3.τ 34)])) <| .mk <|
 @sCall0 Tryz.prog (.func 50 []) [(u3.τ 33),(u3.τ 34)] (some 35) u3<|.mk fun u4=>
 @sOp none (xStore 9 (u4.τ 4) (u4.τ 32) u4.H) u4<|.mk fun u5=>
 @sMv 5 35 u5<|.mk fun s=>
 Φ .ret s
def W49_k3 (Φ:EP) (L0:SP) (s:St):Prop:=
 @sOp (some 31) (xBin .add false (s.τ 17) (.int .i64 1) s.H) s<|.mk fun s=>
 @sMv 17 31 s<|.mk fun s=>
 L0 s
def W49_b5 (Φ:EP) (L0:SP) (s:St):Prop:=
 @sLd 24 9 8 true s<|.mk fun s=>
 @sCall Tryz.prog (.func 88 []) [(s.τ 24)] (some 25) s<|.mk fun s=>
 @sOp none (xStore 9 (s.τ 6) (s.τ 25) s.H) s<|.mk fun s=>
 W49_k3 Φ L0 s
def W49_b7 (Φ:EP) (L0:SP) (s:St):Prop:=
 @sLd 26 9 8 true s<|.mk fun u1=>
 @sCall0 Tryz.prog (.func 88 []) [(u1.τ 26)] (some 27) u1<|.mk fun u2=>
 @sChk (compat (cfp 27 88 [(u1.τ 26)]) (occ (u2.τ 6),[])) <| .mk <|
 @sLd 28 9 6 true u2<|.mk fun u3=>
 @sOp (some 29) (xLit 9 2 [.int .i64 0,.int .i64 0,.int .i64 0,.str ⟨#[]⟩,.int .i64 0,.int .i64 0,.str ⟨#[]⟩,.nils,.nils] [(0,(u3.τ 27)),(1,(u3.τ 28))] u3.H) u3<|.mk fun u4=>
 @sOp (some 30) (xBuild [.int .i64 0,.int .i64 0,.int .i64 0,.str ⟨#[]⟩,.int .i64 0,.int .i64 0,.str ⟨#[]⟩,.nils,.nils] [(0,1,(.int .i64 12)),(8,1,(u4.τ 29))] u4.H) u4<|.mk fun u5=>
 @sOp none (xStore 9 (u5.τ 6) (u5.τ 30) u5.H) u5<|.mk fun s=>
 W49_k3 Φ L0 s
def W49_b8 (Φ:EP) (L0:SP) (s:St):Prop:=
 @sMv 19 17 s<|.mk fun s=>
 @sOp (some 20) (xIx 9 (s.τ 15) (s.τ 17) s.H) s<|.mk fun s=>
 @sLd 21 9 20 true s<|.mk fun s=>
 @sOp (some 8) (xAlloc 8 35 [.int .i64 0,.int .i64 0,.int .i64 0,.str ⟨#[]⟩,.int .i64 0,.int .i64 0,.str ⟨#[]⟩,.nils,.nils] s.H) s<|.mk fun s=>
 @sMv 7 19 s<|.mk fun s=>
 @sOp none (xStore 9 (s.τ 8) (s.τ 21) s.H) s<|.mk fun s=>
 @sMv 22 7 s<|.mk fun s=>
 @sOp (some 23) (xBin .eql false (s.τ 22) (.int .i64 0) s.H) s<|.mk fun s=>
 @sIf (s.τ 23) ⟨W49_b5 Φ L0 s⟩ ⟨W49_b7 Φ L0 s⟩
def W49_l9 (Φ:EP) (L0:SP) (s:St):Prop:=
 @sOp (some 18) (xBin .lss false (s.τ 17) (s.τ 16) s.H) s<|.mk fun s=>
 @sIf (s.τ 18) ⟨W49_b8 Φ L0 s⟩ ⟨W49_k2 Φ s⟩
def W49_b10 (Φ:EP) (s:St):Prop:=
 @sMv 12 0 s<|.mk fun s=>
 @sMv 13 1 s<|.mk fun s=>
 @sOp (some 14) (xIx 1 (s.τ 12) (s.τ 13) s.H) s<|.mk fun s=>
 @sLd 15 1 14 false s<|.mk fun s=>
 @sOp (some 16) (xLen (s.τ 15) s.H) s<|.mk fun s=>
 @sOp (some 17) (xMov (.int .i64 0) s.H) s<|.mk fun s=>
 @sLoop s ⟨fun L0 s=>W49_l9 Φ L0 s⟩
def W49 (Φ:EP) (s:St):Prop:=
 @sOp (some 4) (xAlloc 4 35 [.int .i64 0,.int .i64 0,.int .i64 0,.str ⟨#[]⟩,.int .i64 0,.int .i64 0,.str ⟨#[]⟩,.nils,.nils] s.H) s<|.mk fun s=>
 @sOp (some 5) (xMov (.nils) s.H) s<|.mk fun s=>
 @sOp (some 6) (xAlloc 6 35 [.int .i64 0,.int .i64 0,.int .i64 0,.str ⟨#[]⟩,.int .i64 0,.int .i64 0,.str ⟨#[]⟩,.nils,.nils] s.H) s<|.mk fun s=>
 @sMv 9 0 s<|.mk fun s=>
 @sMv 10 1 s<|.mk fun s=>
 @sCall Tryz.prog (.func 78 []) [(s.τ 9),(s.τ 10)] (some 11) s<|.mk fun s=>
 @sIf (s.τ 11) ⟨W49_b10 Φ s⟩ ⟨W49_k2 Φ s⟩
theorem W49_rs (τ:Nat → AV) (H:Heap):resV Tryz.prog τ H [.cell 4 35,.tmp 5] = ob (ob (rdV H 9 true (τ 4)) fun v=>ob (ob (some (τ 5)) fun v=>ob (some []) fun vs=>some (v :: vs)) fun vs=>some (v :: vs)) fun vs=>some (.tup vs):=by kernel_rfl
theorem W49_eq (Φ:EP) (s:St):awp Tryz.prog (Tryz.f49.body.getD .skip) Φ s = W49 Φ s:=by kernel_rfl
theorem W49_S {args:List AV} {r:AV} (hl:args.length ≤ 36) (h:∀ vs,W49 (retK Tryz.prog [.cell 4 35,.tmp 5] r) ⟨Am.look (argT 0 args),hls [] vs,noG⟩):Am.Spec Tryz.prog 49 args r:=.of_W (W:=W49) Tryz.func49 (by kernel_rfl) (by kernel_rfl) (by kernel_rfl) Tryz.ntmps49 W49_eq (by kernel_rfl) hl h
-- 50 "penance/stacks.Accept"
def W50_k1 (Φ:EP) (s:St):Prop:=
 @sMv 14 5 s<|.mk fun s=>
 @sMv 4 14 s<|.mk fun s=>
 Φ .ret s
def W50_b2 (Φ:EP) (s:St):Prop:=
 @sMv 11 5 s<|.mk fun s=>
 @sMv 12 1 s<|.mk fun s=>
 @sOp (some 13) (xIx 1 (s.τ 11) (s.τ 12) s.H) s<|.mk fun s=>
 @sOp none (xStore 1 (s.τ 13) (.nils) s.H) s<|.mk fun s=>
 W50_k1 Φ s
def W50 (Φ:EP) (s:St):Prop:=
 @sOp (some 4) (xMov (.nils) s.H) s<|.mk fun s=>
 @sMv 6 0 s<|.mk fun s=>
 @sCall Tryz.prog (.func 77 []) [(s.τ 6)] (some 7) s<|.mk fun s=>
 @sMv 5 7 s<|.mk fun s=>
 @sMv 8 5 s<|.mk fun s=>
 @sMv 9 1 s<|.mk fun s=>
 @sCall Tryz.prog (.func 78 []) [(s.τ 8),(s.τ 9)] (some 10) s<|.mk fun s=>
 @sIf (s.τ 10) ⟨W50_b2 Φ s⟩ ⟨W50_k1 Φ s⟩
theorem W50_rs (τ:Nat → AV) (H:Heap):resV Tryz.prog τ H [.tmp 4] = some (τ 4):=by kernel_rfl
theorem W50_eq (Φ:EP) (s:St):awp Tryz.prog (Tryz.f50.body.getD .skip) Φ s = W50 Φ s:=by kernel_rfl
theorem W50_S {args:List AV} {r:AV} (hl:args.length ≤ 15) (h:∀ vs,W50 (retK Tryz.prog [.tmp 4] r) ⟨Am.look (argT 0 args),hls [] vs,noG⟩):Am.Spec Tryz.prog 50 args r:=.of_W (W:=W50) Tryz.func50 (by kernel_rfl) (by kernel_rfl) (by kernel_rfl) Tryz.ntmps50 W50_eq (by kernel_rfl) hl h
-- 51 "penance/run.block"
def W51_k1 (Φ:EP) (s:St):Prop:=
 @sMv 27 5 s<|.mk fun s=>
 @sMv 4 27 s<|.mk fun s=>
 Φ .ret s
def W51_k2 (Φ:EP) (L0:SP) (s:St):Prop:=
 @sFl 21 8 2 s<|.mk fun s=>
 @sLd 22 1 21 false s<|.mk fun s=>
 @sMv 23 7 s<|.mk fun s=>
 @sOp (some 24) (xIx 9 (s.τ 22) (s.τ 23) s.H) s<|.mk fun s=>
 @sLd 25 9 24 true s<|.mk fun s=>
 @sOp none (xStore 9 (s.τ 2) (s.τ 25) s.H) s<|.mk fun s=>
 @sOp (some 26) (xBin .add false (s.τ 10) (.int .i64 1) s.H) s<|.mk fun s=>
 @sMv 10 26 s<|.mk fun s=>
 L0 s
def W51_b3 (Φ:EP) (L0:SP) (s:St):Prop:=
 @sMv 18 1 s<|.mk fun s=>
 @sMv 19 6 s<|.mk fun s=>
 @sOp (some 20) (xSlc 1 (s.τ 18) none (some (s.τ 19)) s.H) s<|.mk fun s=>
 @sMv 5 20 s<|.mk fun s=>
 W51_k2 Φ L0 s
def W51_b4 (Φ:EP) (L0:SP) (s:St):Prop:=
 @sMv 12 10 s<|.mk fun s=>
 @sOp (some 13) (xIx 1 (s.τ 8) (s.τ 10) s.H) s<|.mk fun s=>
 @sLd 14 1 13 false s<|.mk fun s=>
 @sMv 6 12 s<|.mk fun s=>
 @sMv 7 14 s<|.mk fun s=>
 @sFl 15 0 2 s<|.mk fun s=>
 @sLd 16 1 15 false s<|.mk fun s=>
 @sOp (some 17) (xBin .eql false (s.τ 16) (.int .i64 7) s.H) s<|.mk fun s=>
 @sIf (s.τ 17) ⟨W51_b3 Φ L0 s⟩ ⟨W51_k2 Φ L0 s⟩
def W51_l5 (Φ:EP) (L0:SP) (s:St):Prop:=
 @sOp (some 11) (xBin .lss false (s.τ 10) (s.τ 9) s.H) s<|.mk fun s=>
 @sIf (s.τ 11) ⟨W51_b4 Φ L0 s⟩ ⟨W51_k1 Φ s⟩
def W51 (Φ:EP) (s:St):Prop:=
 @sOp (some 2) (xBox 2 35 (s.τ 0) s.H) s<|.mk fun s=>
 @sOp (some 4) (xMov (.nils) s.H) s<|.mk fun s=>
 @sOp (some 5) (xMov (.nils) s.H) s<|.mk fun s=>
 @sMv 8 1 s<|.mk fun s=>
 @sOp (some 9) (xLen (s.τ 8) s.H) s<|.mk fun s=>
 @sOp (some 10) (xMov (.int .i64 0) s.H) s<|.mk fun s=>
 @sLoop s ⟨fun L0 s=>W51_l5 Φ L0 s⟩
theorem W51_rs (τ:Nat → AV) (H:Heap):resV Tryz.prog τ H [.tmp 4] = some (τ 4):=by kernel_rfl
theorem W51_eq (Φ:EP) (s:St):awp Tryz.prog (Tryz.f51.body.getD .skip) Φ s = W51 Φ s:=by kernel_rfl
theorem W51_S {args:List AV} {r:AV} (hl:args.length ≤ 28) (h:∀ vs,W51 (retK Tryz.prog [.tmp 4] r) ⟨Am.look (argT 0 args),hls [] vs,noG⟩):Am.Spec Tryz.prog 51 args r:=.of_W (W:=W51) Tryz.func51 (by kernel_rfl) (by kernel_rfl) (by kernel_rfl) Tryz.ntmps51 W51_eq (by kernel_rfl) hl h
-- 52 "penance/stacks.Size"
def W52_k1 (Φ:EP) (s:St):Prop:=
 @sMv 26 3 s<|.mk fun s=>
 @sMv 2 26 s<|.mk fun s=>
 Φ .ret s
def W52_k2 (Φ:EP) (L0:SP) (s:St):Prop:=
 @sOp (some 25) (xBin .add false (s.τ 10) (.int .i64 1) s.H) s<|.mk fun s=>
 @sMv 10 25 s<|.mk fun s=>
 L0 s
def W52_b4 (Φ:EP) (L0:SP) (L1:SP) (s:St):Prop:=
 @sOp (some 18) (xIx 9 (s.τ 14) (s.τ 16) s.H) s<|.mk fun s=>
 @sLd 19 9 18 true s<|.mk fun s=>
 @sOp (some 7) (xAlloc 7 35 [.int .i64 0,.int .i64 0,.int .i64 0,.str ⟨#[]⟩,.int .i64 0,.int .i64 0,.str ⟨#[]⟩,.nils,.nils] s.H) s<|.mk fun s=>
 @sOp none (xStore 9 (s.τ 7) (s.τ 19) s.H) s<|.mk fun s=>
 @sMv 20 3 s<|.mk fun s=>
 @sLd 21 9 7 true s<|.mk fun s=>
 @sCall Tryz.prog (.func 38 []) [(s.τ 21)] (some 22) s<|.mk fun s=>
 @sOp (some 23) (xBin .add false (s.τ 20) (s.τ 22) s.H) s<|.mk fun s=>
 @sMv 3 23 s<|.mk fun s=>
 @sOp (some 24) (xBin .add false (s.τ 16) (.int .i64 1) s.H) s<|.mk fun s=>
 @sMv 16 24 s<|.mk fun s=>
 L1 s
def W52_l5 (Φ:EP) (L0:SP) (L1:SP) (s:St):Prop:=
 @sOp (some 17) (xBin .lss false (s.τ 16) (s.τ 15) s.H) s<|.mk fun s=>
 @sIf (s.τ 17) ⟨W52_b4 Φ L0 L1 s⟩ ⟨W52_k2 Φ L0 s⟩
def W52_b6 (Φ:EP) (L0:SP) (s:St):Prop:=
 @sOp (some 12) (xIx 1 (s.τ 8) (s.τ 10) s.H) s<|.mk fun s=>
 @sLd 13 1 12 false s<|.mk fun s=>
 @sMv 5 13 s<|.mk fun s=>
 @sMv 14 5 s<|.mk fun s=>
 @sOp (some 15) (xLen (s.τ 14) s.H) s<|.mk fun s=>
 @sOp (some 16) (xMov (.int .i64 0) s.H) s<|.mk fun s=>
 @sLoop s ⟨fun L1 s=>W52_l5 Φ L0 L1 s⟩
def W52_l7 (Φ:EP) (L0:SP) (s:St):Prop:=
 @sOp (some 11) (xBin .lss false (s.τ 10) (s.τ 9) s.H) s<|.mk fun s=>
 @sIf (s.τ 11) ⟨W52_b6 Φ L0 s⟩ ⟨W52_k1 Φ s⟩
def W52 (Φ:EP) (s:St):Prop:=
 @sOp (some 2) (xMov (.int .i64 0) s.H) s<|.mk fun s=>
 @sOp (some 3) (xMov (.int .i64 0) s.H) s<|.mk fun s=>
 @sMv 8 0 s<|.mk fun s=>
 @sOp (some 9) (xLen (s.τ 8) s.H) s<|.mk fun s=>
 @sOp (some 10) (xMov (.int .i64 0) s.H) s<|.mk fun s=>
 @sLoop s ⟨fun L0 s=>W52_l7 Φ L0 s⟩
theorem W52_rs (τ:Nat → AV) (H:Heap):resV Tryz.prog τ H [.tmp 2] = some (τ 2):=by kernel_rfl
theorem W52_eq (Φ:EP) (s:St):awp Tryz.prog (Tryz.f52.body.getD .skip) Φ s = W52 Φ s:=by kernel_rfl
theorem W52_S {args:List AV} {r:AV} (hl:args.length ≤ 27) (h:∀ vs,W52 (retK Tryz.prog [.tmp 2] r) ⟨Am.look (argT 0 args),hls [] vs,noG⟩):Am.Spec Tryz.prog 52 args r:=.of_W (W:=W52) Tryz.func52 (by kernel_rfl) (by kernel_rfl) (by kernel_rfl) Tryz.ntmps52 W52_eq (by kernel_rfl) hl h
-- 53 "penance/penanceref8.at"
def W53_k1 (Φ:EP) (s:St):Prop:=
 @sLd 20 9 2 true s<|.mk fun s=>
 @sOp none (xStore 9 (s.τ 4) (s.τ 20) s.H) s<|.mk fun s=>
 Φ .ret s
def W53_b2 (Φ:EP) (L0:SP) (s:St):Prop:=
 @sFl 12 8 2 s<|.mk fun s=>
 @sLd 13 1 12 false s<|.mk fun s=>
 @sMv 14 1 s<|.mk fun s=>
 @sMv 15 5 s<|.mk fun s=>
 @sOp (some 16) (xIx 1 (s.τ 14) (s.τ 15) s.H) s<|.mk fun s=>
 @sLd 17 1 16 false s<|.mk fun s=>
 @sOp (some 18) (xIx 9 (s.τ 13) (s.τ 17) s.H) s<|.mk fun s=>
 @sLd 19 9 18 true s<|.mk fun s=>
 @sOp none (xStore 9 (s.τ 2) (s.τ 19) s.H) s<|.mk fun s=>
 @sMv 10 5 s<|.mk fun s=>
 @sOp (some 11) (xBin .add false (s.τ 10) (.int .i64 1) s.H) s<|.mk fun s=>
 @sMv 5 11 s<|.mk fun s=>
 L0 s
def W53_l3 (Φ:EP) (L0:SP) (s:St):Prop:=
 @sMv 6 5 s<|.mk fun s=>
 @sMv 7 1 s<|.mk fun s=>
 @sOp (some 8) (xLen (s.τ 7) s.H) s<|.mk fun s=>
 @sOp (some 9) (xBin .lss false (s.τ 6) (s.τ 8) s.H) s<|.mk fun s=>
 @sIf (s.τ 9) ⟨W53_b2 Φ L0 s⟩ ⟨W53_k1 Φ s⟩
def W53 (Φ:EP) (s:St):Prop:=
 @sOp (some 2) (xBox 2 35 (s.τ 0) s.H) s<|.mk fun s=>
 @sOp (some 4) (xAlloc 4 35 [.int .i64 0,.int .i64 0,.int .i64 0,.str ⟨#[]⟩,.int .i64 0,.int .i64 0,.str ⟨#[]⟩,.nils,.nils] s.H) s<|.mk fun s=>
 @sOp (some 5) (xMov (.int .i64 0) s.H) s<|.mk fun s=>
 @sLoop s ⟨fun L0 s=>W53_l3 Φ L0 s⟩
theorem W53_rs (τ:Nat → AV) (H:Heap):resV Tryz.prog τ H [.cell 4 35] = rdV H 9 true (τ 4):=by kernel_rfl
theorem W53_eq (Φ:EP) (s:St):awp Tryz.prog (Tryz.f53.body.getD .skip) Φ s = W53 Φ s:=by kernel_rfl
theorem W53_S {args:List AV} {r:AV} (hl:args.length ≤ 21) (h:∀ vs,W53 (retK Tryz.prog [.cell 4 35] r) ⟨Am.look (argT 0 args),hls [] vs,noG⟩):Am.Spec Tryz.prog 53 args r:=.of_W (W:=W53) Tryz.func53 (by kernel_rfl) (by kernel_rfl) (by kernel_rfl) Tryz.ntmps53 W53_eq (by kernel_rfl) hl h
-- 54 "penance/penanceref8.one"
def W54_b1 (Φ:EP) (s:St):Prop:=
 @sMv 18 1 s<|.mk fun s=>
 @sOp (some 19) (xNil (s.τ 18) s.H) s<|.mk fun s=>
 @sFl 20 12 19 s<|.mk fun s=>
 @sLd 21 1 20 false s<|.mk fun s=>
 @sMv 9 21 s<|.mk fun s=>
 @sMv 22 1 s<|.mk fun s=>
 @sOp (some 23) (xNil (s.τ 22) s.H) s<|.mk fun s=>
 @sFl 24 12 23 s<|.mk fun s=>
 @sLd 25 1 24 false s<|.mk fun s=>
 @sOp (some 26) (xBin .add false (s.τ 25) (.int .i64 1) s.H) s<|.mk fun s=>
 @sOp (some 27) (xNil (s.τ 22) s.H) s<|.mk fun s=>
 @sFl 28 12 27 s<|.mk fun s=>
 @sOp none (xStore 1 (s.τ 28) (s.τ 26) s.H) s<|.mk fun s=>
 @sMv 29 9 s<|.mk fun s=>
 @sFl 30 1 6 s<|.mk fun s=>
 @sLd 31 1 30 false s<|.mk fun s=>
 @sFl 32 3 6 s<|.mk fun s=>
 @sLd 33 1 32 false s<|.mk fun s=>
 @sOp (some 34) (xBuild [.int .i64 0,.int .i64 0,.int .i64 0,.str ⟨#[]⟩,.int .i64 0,.int .i64 0,.str ⟨#[]⟩,.nils,.nils] [(0,1,(.int .i64 14)),(1,1,(s.τ 29)),(2,1,(s.τ 31)),(3,1,(s.τ 33))] s.H) s<|.mk fun s=>
 @sFl 35 3 6 s<|.mk fun s=>
 @sLd 36 1 35 false s<|.mk fun s=>
 @sMv 37 9 s<|.mk fun s=>
 @sOp (some 38) (xBuild [.str ⟨#[]⟩,.int .i64 0,.int .i64 0] [(0,1,(s.τ 36)),(1,1,(s.τ 37))] s.H) s<|.mk fun s=>
 @sOp (some 39) (xBuild [.int .i64 0,.int .i64 0,.int .i64 0,.str ⟨#[]⟩,.int .i64 0,.int .i64 0,.str ⟨#[]⟩,.nils,.nils,.str ⟨#[]⟩,.int .i64 0,.int .i64 0,.bool false,.int .i64 0] [(0,9,(s.τ 34)),(9,3,(s.τ 38)),(12,1,(.bool true))] s.H) s<|.mk fun s=>
 @sOp none (xStore 14 (s.τ 8) (s.τ 39) s.H) s<|.mk fun s=>
 Φ .ret s
def W54_k2 (Φ:EP) (s:St):Prop:=
 @sMv 62 11 s<|.mk fun s=>
 @sOp (some 63) (xBuild [.int .i64 0,.int .i64 0,.int .i64 0,.str ⟨#[]⟩,.int .i64 0,.int .i64 0,.str ⟨#[]⟩,.nils,.nils,.str ⟨#[]⟩,.int .i64 0,.int .i64 0,.bool false,.int .i64 0] [(13,1,(s.τ 62))] s.H) s<|.mk fun s=>
 @sOp none (xStore 14 (s.τ 8) (s.τ 63) s.H) s<|.mk fun s=>
 Φ .ret s
def W54_b3 (Φ:EP) (s:St):Prop:=
 @sMv 54 1 s<|.mk fun s=>
 @sOp (some 55) (xNil (s.τ 54) s.H) s<|.mk fun s=>
 @sFl 56 9 55 s<|.mk fun s=>
 @sLd 57 1 56 false s<|.mk fun s=>
 @sFl 58 1 6 s<|.mk fun s=>
 @sLd 59 1 58 false s<|.mk fun s=>
 @sMv 60 10 s<|.mk fun s=>
 @sOp (some 61) (xIx 1 (s.τ 57) (s.τ 59) s.H) s<|.mk fun s=>
 @sOp none (xStore 1 (s.τ 61) (s.τ 60) s.H) s<|.mk fun s=>
 W54_k2 Φ s
def W54_b5 (Φ:EP) (s:St):Prop:=
 @sFl 43 4 6 s<|.mk fun s=>
 @sLd 44 4 43 true s<|.mk fun s=>
 @sMv 45 1 s<|.mk fun s=>
 @sOp (some 46) (xNil (s.τ 45) s.H) s<|.mk fun s=>
 @sFl 47 9 46 s<|.mk fun s=>
 @sLd 48 1 47 false s<|.mk fun s=>
 @sCall0 Tryz.prog (.func 89 []) [(s.τ 44),(s.τ 48)] (some 49) s<|.mk fun s=>
 @sMv 42 49 s<|.mk fun s=>
 @sOp (some 50) (xExt (s.τ 42) 0 s.H) s<|.mk fun s=>
 @sOp (some 51) (xExt (s.τ 42) 1 s.H) s<|.mk fun s=>
 @sMv 10 50 s<|.mk fun s=>
 @sMv 11 51 s<|.mk fun s=>
 @sMv 52 11 s<|.mk fun s=>
 @sOp (some 53) (xBin .eql false (s.τ 52) (.int .i64 0) s.H) s<|.mk fun s=>
 @sIf (s.τ 53) ⟨W54_b3 Φ s⟩ ⟨W54_k2 Φ s⟩
def W54_b6 (Φ:EP) (s:St):Prop:=
 @sFl 78 8 6 s<|.mk fun s=>
 @sLd 79 1 78 false s<|.mk fun s=>
 @sOp (some 80) (xIx 9 (s.τ 79) (.int .i64 0) s.H) s<|.mk fun s=>
 @sLd 81 9 80 true s<|.mk fun s=>
 @sMv 82 13 s<|.mk fun s=>
 @sOp (some 83) (xBuild [.int .i64 0,.int .i64 0,.int .i64 0,.str ⟨#[]⟩,.int .i64 0,.int .i64 0,.str ⟨#[]⟩,.nils,.nils,.str ⟨#[]⟩,.int .i64 0,.int .i64 0,.bool false,.int .i64 0] [(0,9,(s.τ 81)),(13,1,(s.τ 82))] s.H) s<|.mk fun s=>
 @sOp none (xStore 14 (s.τ 8) (s.τ 83) s.H) s<|.mk fun s=>
 Φ .ret s
def W54_b7 (Φ:EP) (s:St):Prop:=
 @sFl 84 8 6 s<|.mk fun s=>
 @sLd 85 1 84 false s<|.mk fun s=>
 @sOp (some 86) (xIx 9 (s.τ 85) (.int .i64 1) s.H) s<|.mk fun s=>
 @sLd 87 9 86 true s<|.mk fun s=>
 @sMv 88 13 s<|.mk fun s=>
 @sOp (some 89) (xBuild [.int .i64 0,.int .i64 0,.int .i64 0,.str ⟨#[]⟩,.int .i64 0,.int .i64 0,.str ⟨#[]⟩,.nils,.nils,.str ⟨#[]⟩,.int .i64 0,.int .i64 0,.bool false,.int .i64 0] [(0,9,(s.τ 87)),(13,1,(s.τ 88))] s.H) s<|.mk fun s=>
 @sOp none (xStore 14 (s.τ 8) (s.τ 89) s.H) s<|.mk fun s=>
 Φ .ret s
def W54_b9 (Φ:EP) (s:St):Prop:=
 @sFl 67 4 6 s<|.mk fun s=>
 @sLd 68 4 67 true s<|.mk fun s=>
 @sMv 69 1 s<|.mk fun s=>
 @sOp (some 70) (xNil (s.τ 69) s.H) s<|.mk fun s=>
 @sFl 71 9 70 s<|.mk fun s=>
 @sLd 72 1 71 false s<|.mk fun s=>
 @sCall0 Tryz.prog (.func 89 []) [(s.τ 68),(s.τ 72)] (some 73) s<|.mk fun s=>
 @sMv 66 73 s<|.mk fun s=>
 @sOp (some 74) (xExt (s.τ 66) 0 s.H) s<|.mk fun s=>
 @sOp (some 75) (xExt (s.τ 66) 1 s.H) s<|.mk fun s=>
 @sMv 12 74 s<|.mk fun s=>
 @sMv 13 75 s<|.mk fun s=>
 @sMv 76 12 s<|.mk fun s=>
 @sOp (some 77) (xBin .neq false (s.τ 76) (.int .i64 0) s.H) s<|.mk fun s=>
 @sIf (s.τ 77) ⟨W54_b6 Φ s⟩ ⟨W54_b7 Φ s⟩
def W54_b10 (Φ:EP) (s:St):Prop:=
 @sFl 92 8 6 s<|.mk fun s=>
 @sLd 93 1 92 false s<|.mk fun s=>
 @sMv 94 3 s<|.mk fun s=>
 @sOp (some 95) (xIx 9 (s.τ 93) (s.τ 94) s.H) s<|.mk fun s=>
 @sLd 96 9 95 true s<|.mk fun s=>
 @sOp (some 97) (xBuild [.int .i64 0,.int .i64 0,.int .i64 0,.str ⟨#[]⟩,.int .i64 0,.int .i64 0,.str ⟨#[]⟩,.nils,.nils,.str ⟨#[]⟩,.int .i64 0,.int .i64 0,.bool false,.int .i64 0] [(0,9,(s.τ 96))] s.H) s<|.mk fun s=>
 @sOp none (xStore 14 (s.τ 8) (s.τ 97) s.H) s<|.mk fun s=>
 Φ .ret s
def W54_b11 (Φ:EP) (s:St):Prop:=
 @sFl 100 2 4 s<|.mk fun s=>
 @sLd 101 1 100 false s<|.mk fun s=>
 @sFl 102 1 6 s<|.mk fun s=>
 @sLd 103 1 102 false s<|.mk fun s=>
 @sOp (some 104) (xIx 9 (s.τ 101) (s.τ 103) s.H) s<|.mk fun s=>
 @sLd 105 9 104 true s<|.mk fun s=>
 @sOp (some 106) (xBuild [.int .i64 0,.int .i64 0,.int .i64 0,.str ⟨#[]⟩,.int .i64 0,.int .i64 0,.str ⟨#[]⟩,.nils,.nils,.str ⟨#[]⟩,.int .i64 0,.int .i64 0,.bool false,.int .i64 0] [(0,9,(s.τ 105))] s.H) s<|.mk fun s=>
 @sOp none (xStore 14 (s.τ 8) (s.τ 106) s.H) s<|.mk fun s=>
 Φ .ret s
def W54_b12 (Φ:EP) (s:St):Prop:=
 @sOp (some 109) (xBuild [.int .i64 0,.int .i64 0,.int .i64 0,.str ⟨#[]⟩,.int .i64 0,.int .i64 0,.str ⟨#[]⟩,.nils,.nils,.str ⟨#[]⟩,.int .i64 0,.int .i64 0,.bool false,.int .i64 0] [] s.H) s<|.mk fun s=>
 @sOp none (xStore 14 (s.τ 8) (s.τ 109) s.H) s<|.mk fun s=>
 Φ .ret s
def W54_b14 (Φ:EP) (s:St):Prop:=
 @sMv 110 1 s<|.mk fun s=>
 @sLd 111 9 6 true s<|.mk fun s=>
 @sCall Tryz.prog (.func 90 []) [(s.τ 110),(s.τ 111)] (some 112) s<|.mk fun s=>
 @sOp (some 113) (xBuild [.int .i64 0,.int .i64 0,.int .i64 0,.str ⟨#[]⟩,.int .i64 0,.int .i64 0,.str ⟨#[]⟩,.nils,.nils,.str ⟨#[]⟩,.int .i64 0,.int .i64 0,.bool false,.int .i64 0] [(0,9,(s.τ 112))] s.H) s<|.mk fun s=>
 @sOp none (xStore 14 (s.τ 8) (s.τ 113) s.H) s<|.mk fun s=>
 Φ .ret s
def W54_b15 (Φ:EP) (s:St):Prop:=
 @sOp (some 108) (xBin .eql false (s.τ 15) (.int .i64 8) s.H) s<|.mk fun s=>
 @sMv 107 108 s<|.mk fun s=>
 @sIf (s.τ 107) ⟨W54_b12 Φ s⟩ ⟨W54_b14 Φ s⟩
def W54_b16 (Φ:EP) (s:St):Prop:=
 @sOp (some 99) (xBin .eql false (s.τ 15) (.int .i64 13) s.H) s<|.mk fun s=>
 @sMv 98 99 s<|.mk fun s=>
 @sIf (s.τ 98) ⟨W54_b11 Φ s⟩ ⟨W54_b15 Φ s⟩
def W54_b17 (Φ:EP) (s:St):Prop:=
 @sOp (some 91) (xBin .eql false (s.τ 15) (.int .i64 10) s.H) s<|.mk fun s=>
 @sMv 90 91 s<|.mk fun s=>
 @sIf (s.τ 90) ⟨W54_b10 Φ s⟩ ⟨W54_b16 Φ s⟩
def W54_b18 (Φ:EP) (s:St):Prop:=
 @sOp (some 65) (xBin .eql false (s.τ 15) (.int .i64 9) s.H) s<|.mk fun s=>
 @sMv 64 65 s<|.mk fun s=>
 @sIf (s.τ 64) ⟨W54_b9 Φ s⟩ ⟨W54_b17 Φ s⟩
def W54_b19 (Φ:EP) (s:St):Prop:=
 @sOp (some 41) (xBin .eql false (s.τ 15) (.int .i64 2) s.H) s<|.mk fun s=>
 @sMv 40 41 s<|.mk fun s=>
 @sIf (s.τ 40) ⟨W54_b5 Φ s⟩ ⟨W54_b18 Φ s⟩
def W54 (Φ:EP) (s:St):Prop:=
 @sOp (some 4) (xBox 4 29 (s.τ 0) s.H) s<|.mk fun s=>
 @sOp (some 6) (xBox 6 35 (s.τ 2) s.H) s<|.mk fun s=>
 @sOp (some 8) (xAlloc 8 107 [.int .i64 0,.int .i64 0,.int .i64 0,.str ⟨#[]⟩,.int .i64 0,.int .i64 0,.str ⟨#[]⟩,.nils,.nils,.str ⟨#[]⟩,.int .i64 0,.int .i64 0,.bool false,.int .i64 0] s.H) s<|.mk fun s=>
 @sFl 14 0 6 s<|.mk fun s=>
 @sLd 15 1 14 false s<|.mk fun s=>
 @sOp (some 17) (xBin .eql false (s.τ 15) (.int .i64 1) s.H) s<|.mk fun s=>
 @sMv 16 17 s<|.mk fun s=>
 @sIf (s.τ 16) ⟨W54_b1 Φ s⟩ ⟨W54_b19 Φ s⟩
theorem W54_rs (τ:Nat → AV) (H:Heap):resV Tryz.prog τ H [.cell 8 107] = rdV H 14 true (τ 8):=by kernel_rfl
theorem W54_eq (Φ:EP) (s:St):awp Tryz.prog (Tryz.f54.body.getD .skip) Φ s = W54 Φ s:=by kernel_rfl
theorem W54_S {args:List AV} {r:AV} (hl:args.length ≤ 114) (h:∀ vs,W54 (retK Tryz.prog [.cell 8 107] r) ⟨Am.look (argT 0 args),hls [] vs,noG⟩):Am.Spec Tryz.prog 54 args r:=.of_W (W:=W54) Tryz.func54 (by kernel_rfl) (by kernel_rfl) (by kernel_rfl) Tryz.ntmps54 W54_eq (by kernel_rfl) hl h
-- 55 "penance/penanceref8.out"
def W55_k1 (Φ:EP) (s:St):Prop:=
 @sMv 25 5 s<|.mk fun s=>
 @sMv 4 25 s<|.mk fun s=>
 Φ .ret s
def W55_k2 (Φ:EP) (L0:SP) (s:St):Prop:=
 @sFl 17 8 2 s<|.mk fun s=>
 @sLd 18 1 17 false s<|.mk fun s=>
 @sMv 19 1 s<|.mk fun s=>
 @sMv 20 6 s<|.mk fun s=>
 @sOp (some 21) (xIx 1 (s.τ 19) (s.τ 20) s.H) s<|.mk fun s=>
 @sLd 22 1 21 false s<|.mk fun s=>
 @sOp (some 23) (xIx 9 (s.τ 18) (s.τ 22) s.H) s<|.mk fun s=>
 @sLd 24 9 23 true s<|.mk fun s=>
 @sOp none (xStore 9 (s.τ 2) (s.τ 24) s.H) s<|.mk fun s=>
 @sMv 11 6 s<|.mk fun s=>
 @sOp (some 12) (xBin .add false (s.τ 11) (.int .i64 1) s.H) s<|.mk fun s=>
 @sMv 6 12 s<|.mk fun s=>
 L0 s
def W55_b3 (Φ:EP) (L0:SP) (s:St):Prop:=
 @sMv 16 6 s<|.mk fun s=>
 @sMv 5 16 s<|.mk fun s=>
 W55_k2 Φ L0 s
def W55_b4 (Φ:EP) (L0:SP) (s:St):Prop:=
 @sFl 13 0 2 s<|.mk fun s=>
 @sLd 14 1 13 false s<|.mk fun s=>
 @sOp (some 15) (xBin .eql false (s.τ 14) (.int .i64 7) s.H) s<|.mk fun s=>
 @sIf (s.τ 15) ⟨W55_b3 Φ L0 s⟩ ⟨W55_k2 Φ L0 s⟩
def W55_l5 (Φ:EP) (L0:SP) (s:St):Prop:=
 @sMv 7 6 s<|.mk fun s=>
 @sMv 8 1 s<|.mk fun s=>
 @sOp (some 9) (xLen (s.τ 8) s.H) s<|.mk fun s=>
 @sOp (some 10) (xBin .lss false (s.τ 7) (s.τ 9) s.H) s<|.mk fun s=>
 @sIf (s.τ 10) ⟨W55_b4 Φ L0 s⟩ ⟨W55_k1 Φ s⟩
def W55 (Φ:EP) (s:St):Prop:=
 @sOp (some 2) (xBox 2 35 (s.τ 0) s.H) s<|.mk fun s=>
 @sOp (some 4) (xMov (.int .i64 0) s.H) s<|.mk fun s=>
 @sOp (some 5) (xMov (.int .i64 0) s.H) s<|.mk fun s=>
 @sOp (some 6) (xMov (.int .i64 0) s.H) s<|.mk fun s=>
 @sLoop s ⟨fun L0 s=>W55_l5 Φ L0 s⟩
theorem W55_rs (τ:Nat → AV) (H:Heap):resV Tryz.prog τ H [.tmp 4] = some (τ 4):=by kernel_rfl
theorem W55_eq (Φ:EP) (s:St):awp Tryz.prog (Tryz.f55.body.getD .skip) Φ s = W55 Φ s:=by kernel_rfl
theorem W55_S {args:List AV} {r:AV} (hl:args.length ≤ 26) (h:∀ vs,W55 (retK Tryz.prog [.tmp 4] r) ⟨Am.look (argT 0 args),hls [] vs,noG⟩):Am.Spec Tryz.prog 55 args r:=.of_W (W:=W55) Tryz.func55 (by kernel_rfl) (by kernel_rfl) (by kernel_rfl) Tryz.ntmps55 W55_eq (by kernel_rfl) hl h
-- 56 "penance/penanceref8.put"
def W56_b1 (Φ:EP) (s:St):Prop:=
 @sLd 11 9 5 true s<|.mk fun s=>
 @sOp none (xStore 9 (s.τ 6) (s.τ 11) s.H) s<|.mk fun s=>
 Φ .ret s
def W56_b3 (Φ:EP) (s:St):Prop:=
 @sLd 12 9 3 true s<|.mk fun s=>
 @sOp (some 7) (xAlloc 7 35 [.int .i64 0,.int .i64 0,.int .i64 0,.str ⟨#[]⟩,.int .i64 0,.int .i64 0,.str ⟨#[]⟩,.nils,.nils] s.H) s<|.mk fun s=>
 @sOp none (xStore 9 (s.τ 7) (s.τ 12) s.H) s<|.mk fun s=>
 @sOp (some 13) (xRow 13 35 9 0 [.int .i64 0,.int .i64 0,.int .i64 0,.str ⟨#[]⟩,.int .i64 0,.int .i64 0,.str ⟨#[]⟩,.nils,.nils] [] s.H) s<|.mk fun s=>
 @sFl 14 8 3 s<|.mk fun s=>
 @sLd 15 1 14 false s<|.mk fun s=>
 @sOp (some 16) (xApp Tryz.prog 35 9 120 (some 16) (s.τ 13) (s.τ 15) s.H) s<|.mk fun s=>
 @sFl 17 8 7 s<|.mk fun s=>
 @sOp none (xStore 1 (s.τ 17) (s.τ 16) s.H) s<|.mk fun s=>
 @sFl 18 8 7 s<|.mk fun u1=>
 @sLd 19 1 18 false u1<|.mk fun u2=>
 @sMv 20 1 u2<|.mk fun u3=>
 @sOp (some 21) (xIx 1 (u3.τ 20) (.int .i64 0) u3.H) u3<|.mk fun u4=>
 @sLd 22 1 21 false u4<|.mk fun u5=>
 @sFl 23 8 3 u5<|.mk fun u6=>
 @sLd 24 1 23 false u6<|.mk fun u7=>
 @sMv 25 1 u7<|.mk fun u8=>
 @sOp (some 26) (xIx 1 (u8.τ 25) (.int .i64 0) u8.H) u8<|.mk fun u9=>
 @sLd 27 1 26 false u9<|.mk fun u10=>
 @sOp (some 28) (xIx 9 (u10.τ 24) (u10.τ 27) u10.H) u10<|.mk fun u11=>
 @sLd 29 9 28 true u11<|.mk fun u12=>
 @sMv 30 1 u12<|.mk fun u13=>
 @sOp (some 31) (xSlc 1 (u13.τ 30) (some (.int .i64 1)) none u13.H) u13<|.mk fun u14=>
 @sLd 32 9 5 true u14<|.mk fun u15=>
 @sChk (compat (occ (s.τ 7),[]) (cfp 33 56 [(u15.τ 29),(u15.τ 31),(u15.τ 32)])) <| .mk <|
 @sChk (compat (occ (u1.τ 18),[]) (cfp 33 56 [(u15.τ 29),(u15.τ 31),(u15.τ 32)])) <| .mk <|
 @sChk (compat (occ (u3.τ 20),[]) (cfp 33 56 [(u15.τ 29),(u15.τ 31),(u15.τ 32)])) <| .mk <|
 @sChk (compat (occ (u4.τ 21),[]) (cfp 33 56 [(u15.τ 29),(u15.τ 31),(u15.τ 32)])) <| .mk <|
 @sCall0 Tryz.prog (.func 56 []) [(u15.τ 29),(u15.τ 31),(u15.τ 32)] (some 33) u15<|.mk fun u16=>
 @sOp (some 34) (xIx 9 (u16.τ 19) (u16.τ 22) u16.H) u16<|.mk fun u17=>
 @sOp none (xStore 9 (u17.τ 34) (u17.τ 33) u17.H) u17<|.mk fun s=>
 @sLd 35 9 7 true s<|.mk fun s=>
 @sOp none (xStore 9 (s.τ 6) (s.τ 35) s.H) s<|.mk fun s=>
 Φ .ret s
def W56 (Φ:EP) (s:St):Prop:=
 @sOp (some 3) (xBox 3 35 (s.τ 0) s.H) s<|.mk fun s=>
 @sOp (some 5) (xBox 5 35 (s.τ 2) s.H) s<|.mk fun s=>
 @sOp (some 6) (xAlloc 6 35 [.int .i64 0,.int .i64 0,.int .i64 0,.str ⟨#[]⟩,.int .i64 0,.int .i64 0,.str ⟨#[]⟩,.nils,.nils] s.H) s<|.mk fun s=>
 @sMv 8 1 s<|.mk fun s=>
 @sOp (some 9) (xLen (s.τ 8) s.H) s<|.mk fun s=>
 @sOp (some 10) (xBin .eql false (s.τ 9) (.int .i64 0) s.H) s<|.mk fun s=>
 @sIf (s.τ 10) ⟨W56_b1 Φ s⟩ ⟨W56_b3 Φ s⟩
theorem W56_rs (τ:Nat → AV) (H:Heap):resV Tryz.prog τ H [.cell 6 35] = rdV H 9 true (τ 6):=by kernel_rfl
theorem W56_eq (Φ:EP) (s:St):awp Tryz.prog (Tryz.f56.body.getD .skip) Φ s = W56 Φ s:=by kernel_rfl
theorem W56_S {args:List AV} {r:AV} (hl:args.length ≤ 36) (h:∀ vs,W56 (retK Tryz.prog [.cell 6 35] r) ⟨Am.look (argT 0 args),hls [] vs,noG⟩):Am.Spec Tryz.prog 56 args r:=.of_W (W:=W56) Tryz.func56 (by kernel_rfl) (by kernel_rfl) (by kernel_rfl) Tryz.ntmps56 W56_eq (by kernel_rfl) hl h
-- 57 "penance/penanceref5.Size"
def W57_k1 (Φ:EP) (s:St):Prop:=
 @sMv 20 3 s<|.mk fun s=>
 @sMv 2 20 s<|.mk fun s=>
 Φ .ret s
def W57_b3 (Φ:EP) (L0:SP) (s:St):Prop:=
 @sMv 12 3 s<|.mk fun s=>
 @sFl 13 8 1 s<|.mk fun s=>
 @sLd 14 1 13 false s<|.mk fun s=>
 @sMv 15 4 s<|.mk fun s=>
 @sOp (some 16) (xIx 9 (s.τ 14) (s.τ 15) s.H) s<|.mk fun s=>
 @sLd 17 9 16 true s<|.mk fun s=>
 @sCall Tryz.prog (.func 57 []) [(s.τ 17)] (some 18) s<|.mk fun s=>
 @sOp (some 19) (xBin .add false (s.τ 12) (s.τ 18) s.H) s<|.mk fun s=>
 @sMv 3 19 s<|.mk fun s=>
 @sMv 10 4 s<|.mk fun s=>
 @sOp (some 11) (xBin .add false (s.τ 10) (.int .i64 1) s.H) s<|.mk fun s=>
 @sMv 4 11 s<|.mk fun s=>
 L0 s
def W57_l4 (Φ:EP) (L0:SP) (s:St):Prop:=
 @sMv 5 4 s<|.mk fun s=>
 @sFl 6 8 1 s<|.mk fun s=>
 @sLd 7 1 6 false s<|.mk fun s=>
 @sOp (some 8) (xLen (s.τ 7) s.H) s<|.mk fun s=>
 @sOp (some 9) (xBin .lss false (s.τ 5) (s.τ 8) s.H) s<|.mk fun s=>
 @sIf (s.τ 9) ⟨W57_b3 Φ L0 s⟩ ⟨W57_k1 Φ s⟩
def W57 (Φ:EP) (s:St):Prop:=
 @sOp (some 1) (xBox 1 35 (s.τ 0) s.H) s<|.mk fun s=>
 @sOp (some 2) (xMov (.int .i64 0) s.H) s<|.mk fun s=>
 @sOp (some 3) (xMov (.int .i64 1) s.H) s<|.mk fun s=>
 @sOp (some 4) (xMov (.int .i64 0) s.H) s<|.mk fun s=>
 @sLoop s ⟨fun L0 s=>W57_l4 Φ L0 s⟩
theorem W57_rs (τ:Nat → AV) (H:Heap):resV Tryz.prog τ H [.tmp 2] = some (τ 2):=by kernel_rfl
theorem W57_eq (Φ:EP) (s:St):awp Tryz.prog (Tryz.f57.body.getD .skip) Φ s = W57 Φ s:=by kernel_rfl
theorem W57_S {args:List AV} {r:AV} (hl:args.length ≤ 21) (h:∀ vs,W57 (retK Tryz.prog [.tmp 2] r) ⟨Am.look (argT 0 args),hls [] vs,noG⟩):Am.Spec Tryz.prog 57 args r:=.of_W (W:=W57) Tryz.func57 (by kernel_rfl) (by kernel_rfl) (by kernel_rfl) Tryz.ntmps57 W57_eq (by kernel_rfl) hl h
end Go.Proofs.YtnngddgaobhkiaaGreat
set_option linter.unusedVariables false
set_option maxRecDepth 100000
namespace Go.Proofs.YtnngddgaobhkiaaGreat
open Go Go.Am
-- 58 "penance/penanceref6.Size"
def W58_k1 (Φ:EP) (s:St):Prop:=
 @sMv 31 3 s<|.mk fun s=>
 @sMv 2 31 s<|.mk fun s=>
 Φ .ret s
def W58_k2 (Φ:EP) (L0:SP) (s:St):Prop:=
 @sMv 10 4 s<|.mk fun s=>
 @sOp (some 11) (xBin .add false (s.τ 10) (.int .i64 1) s.H) s<|.mk fun s=>
 @sMv 4 11 s<|.mk fun s=>
 L0 s
def W58_b4 (Φ:EP) (L0:SP) (L1:SP) (s:St):Prop:=
 @sMv 21 3 s<|.mk fun s=>
 @sMv 22 0 s<|.mk fun s=>
 @sMv 23 4 s<|.mk fun s=>
 @sOp (some 24) (xIx 1 (s.τ 22) (s.τ 23) s.H) s<|.mk fun s=>
 @sLd 25 1 24 false s<|.mk fun s=>
 @sMv 26 5 s<|.mk fun s=>
 @sOp (some 27) (xIx 9 (s.τ 25) (s.τ 26) s.H) s<|.mk fun s=>
 @sLd 28 9 27 true s<|.mk fun s=>
 @sCall Tryz.prog (.func 57 []) [(s.τ 28)] (some 29) s<|.mk fun s=>
 @sOp (some 30) (xBin .add false (s.τ 21) (s.τ 29) s.H) s<|.mk fun s=>
 @sMv 3 30 s<|.mk fun s=>
 @sMv 19 5 s<|.mk fun s=>
 @sOp (some 20) (xBin .add false (s.τ 19) (.int .i64 1) s.H) s<|.mk fun s=>
 @sMv 5 20 s<|.mk fun s=>
 L1 s
def W58_l5 (Φ:EP) (L0:SP) (L1:SP) (s:St):Prop:=
 @sMv 12 5 s<|.mk fun s=>
 @sMv 13 0 s<|.mk fun s=>
 @sMv 14 4 s<|.mk fun s=>
 @sOp (some 15) (xIx 1 (s.τ 13) (s.τ 14) s.H) s<|.mk fun s=>
 @sLd 16 1 15 false s<|.mk fun s=>
 @sOp (some 17) (xLen (s.τ 16) s.H) s<|.mk fun s=>
 @sOp (some 18) (xBin .lss false (s.τ 12) (s.τ 17) s.H) s<|.mk fun s=>
 @sIf (s.τ 18) ⟨W58_b4 Φ L0 L1 s⟩ ⟨W58_k2 Φ L0 s⟩
def W58_b6 (Φ:EP) (L0:SP) (s:St):Prop:=
 @sOp (some 5) (xMov (.int .i64 0) s.H) s<|.mk fun s=>
 @sLoop s ⟨fun L1 s=>W58_l5 Φ L0 L1 s⟩
def W58_l7 (Φ:EP) (L0:SP) (s:St):Prop:=
 @sMv 6 4 s<|.mk fun s=>
 @sMv 7 0 s<|.mk fun s=>
 @sOp (some 8) (xLen (s.τ 7) s.H) s<|.mk fun s=>
 @sOp (some 9) (xBin .lss false (s.τ 6) (s.τ 8) s.H) s<|.mk fun s=>
 @sIf (s.τ 9) ⟨W58_b6 Φ L0 s⟩ ⟨W58_k1 Φ s⟩
def W58 (Φ:EP) (s:St):Prop:=
 @sOp (some 2) (xMov (.int .i64 0) s.H) s<|.mk fun s=>
 @sOp (some 3) (xMov (.int .i64 0) s.H) s<|.mk fun s=>
 @sOp (some 4) (xMov (.int .i64 0) s.H) s<|.mk fun s=>
 @sLoop s ⟨fun L0 s=>W58_l7 Φ L0 s⟩
theorem W58_rs (τ:Nat → AV) (H:Heap):resV Tryz.prog τ H [.tmp 2] = some (τ 2):=by kernel_rfl
theorem W58_eq (Φ:EP) (s:St):awp Tryz.prog (Tryz.f58.body.getD .skip) Φ s = W58 Φ s:=by kernel_rfl
theorem W58_S {args:List AV} {r:AV} (hl:args.length ≤ 32) (h:∀ vs,W58 (retK Tryz.prog [.tmp 2] r) ⟨Am.look (argT 0 args),hls [] vs,noG⟩):Am.Spec Tryz.prog 58 args r:=.of_W (W:=W58) Tryz.func58 (by kernel_rfl) (by kernel_rfl) (by kernel_rfl) Tryz.ntmps58 W58_eq (by kernel_rfl) hl h
-- 62 "penance/penanceref7.enabled"
def W62_b1 (Φ:EP) (s:St):Prop:=
 @sLd 51 3 7 true s<|.mk fun s=>
 @sOp (some 52) (xLit 3 1 [.int .i64 0,.nils,.int .i64 0] [(0,(s.τ 51))] s.H) s<|.mk fun s=>
 @sMv 6 52 s<|.mk fun s=>
 Φ .ret s
def W62_k2 (Φ:EP) (s:St):Prop:=
 @sMv 74 9 s<|.mk fun s=>
 @sMv 6 74 s<|.mk fun s=>
 Φ .ret s
def W62_b4 (Φ:EP) (L0:SP) (s:St):Prop:=
 @sMv 59 9 s<|.mk fun u1=>
 @sFl 60 8 3 u1<|.mk fun u2=>
 @sLd 61 1 60 false u2<|.mk fun u3=>
 @sMv 62 10 u3<|.mk fun u4=>
 @sOp (some 63) (xIx 9 (u4.τ 61) (u4.τ 62) u4.H) u4<|.mk fun u5=>
 @sLd 64 9 63 true u5<|.mk fun u6=>
 @sChk (compat (occ (u1.τ 3),[]) ([65] ++ occL [],[65] ++ occL [])) <| .mk <|
 @sChk (compat (occ (u2.τ 60),[]) ([65] ++ occL [],[65] ++ occL [])) <| .mk <|
 @sChk (compat (occ (u4.τ 61),[]) ([65] ++ occL [],[65] ++ occL [])) <| .mk <|
 @sChk (compat (occ (u5.τ 63),[]) ([65] ++ occL [],[65] ++ occL [])) <| .mk <|
 @sOp (some 65) (xRow 65 3 1 0 [.int .i64 0] [] u6.H) u6<|.mk fun u7=>
 @sMv 66 1 u7<|.mk fun u8=>
 @sChk (compat (occ (u1.τ 3),[]) ([67] ++ (occ (u8.τ 65) ++ occ (u8.τ 66)),[67] ++ occ (u8.τ 65))) <| .mk <|
 @sChk (compat (occ (u2.τ 60),[]) ([67] ++ (occ (u8.τ 65) ++ occ (u8.τ 66)),[67] ++ occ (u8.τ 65))) <| .mk <|
 @sChk (compat (occ (u4.τ 61),[]) ([67] ++ (occ (u8.τ 65) ++ occ (u8.τ 66)),[67] ++ occ (u8.τ 65))) <| .mk <|
 @sChk (compat (occ (u5.τ 63),[]) ([67] ++ (occ (u8.τ 65) ++ occ (u8.τ 66)),[67] ++ occ (u8.τ 65))) <| .mk <|
 @sOp (some 67) (xApp Tryz.prog 3 1 8 (some 67) (u8.τ 65) (u8.τ 66) u8.H) u8<|.mk fun u9=>
 @sMv 68 10 u9<|.mk fun u10=>
 @sChk (compat (occ (u1.τ 3),[]) ([69] ++ occL [(u10.τ 68)],[69] ++ occL [(u10.τ 68)])) <| .mk <|
 @sChk (compat (occ (u2.τ 60),[]) ([69] ++ occL [(u10.τ 68)],[69] ++ occL [(u10.τ 68)])) <| .mk <|
 @sChk (compat (occ (u4.τ 61),[]) ([69] ++ occL [(u10.τ 68)],[69] ++ occL [(u10.τ 68)])) <| .mk <|
 @sChk (compat (occ (u5.τ 63),[]) ([69] ++ occL [(u10.τ 68)],[69] ++ occL [(u10.τ 68)])) <| .mk <|
 @sChk (compat ([65] ++ occL [],[65] ++ occL []) ([69] ++ occL [(u10.τ 68)],[69] ++ occL [(u10.τ 68)])) <| .mk <|
 @sChk (compat ([67] ++ (occ (u8.τ 65) ++ occ (u8.τ 66)),[67] ++ occ (u8.τ 65)) ([69] ++ occL [(u10.τ 68)],[69] ++ occL [(u10.τ 68)])) <| .mk <|
 @sOp (some 69) (xLit 1 1 [.int .i64 0] [(0,(u10.τ 68))] u10.H) u10<|.mk fun u11=>
 @sChk (compat (occ (u1.τ 3),[]) ([70] ++ (occ (u11.τ 67) ++ occ (u11.τ 69)),[70] ++ occ (u11.τ 67))) <| .mk <|
 @sChk (compat (occ (u2.τ 60),[]) ([70] ++ (occ (u11.τ 67) ++ occ (u11.τ 69)),[70] ++ occ (u11.τ 67))) <| .mk <|
 @sChk (compat (occ (u4.τ 61),[]) ([70] ++ (occ (u11.τ 67) ++ occ (u11.τ 69)),[70] ++ occ (u11.τ 67))) <| .mk <|
 @sChk (compat (occ (u5.τ 63),[]) ([70] ++ (occ (u11.τ 67) ++ occ (u11.τ 69)),[70] ++ occ (u11.τ 67))) <| .mk <|
 @sOp (some 70) (xApp Tryz.prog 3 1 8 (some 70) (u11.τ 67) (u11.τ 69) u11.H) u11<|.mk fun u12=>
 @sMv 71 2 u12<|.mk fun u13=>
 @sCall0 Tryz.prog (.func 62 []) [(u13.τ 64),(u13.τ 70),(u13.τ 71)] (some 72) u13<|.mk fun u14=>
 @sOp (some 73) (xApp Tryz.prog 60 3 40 (some 73) (u14.τ 59) (u14.τ 72) u14.H) u14<|.mk fun u15=>
 @sMv 9 73 u15<|.mk fun s=>
 @sMv 57 10 s<|.mk fun s=>
 @sOp (some 58) (xBin .add false (s.τ 57) (.int .i64 1) s.H) s<|.mk fun s=>
 @sMv 10 58 s<|.mk fun s=>
 L0 s
def W62_l6 (Φ:EP) (L0:SP) (s:St):Prop:=
 @sMv 53 10 s<|.mk fun s=>
 @sLd 54 9 3 true s<|.mk fun s=>
 @sCall Tryz.prog (.func 63 []) [(s.τ 54)] (some 55) s<|.mk fun s=>
 @sOp (some 56) (xBin .lss false (s.τ 53) (s.τ 55) s.H) s<|.mk fun s=>
 @sIf (s.τ 56) ⟨W62_b4 Φ L0 s⟩ ⟨W62_k2 Φ s⟩
def W62_b7 (Φ:EP) (s:St):Prop:=
 @sOp (some 9) (xMov (.nils) s.H) s<|.mk fun s=>
 @sOp (some 10) (xMov (.int .i64 0) s.H) s<|.mk fun s=>
 @sLoop s ⟨fun L0 s=>W62_l6 Φ L0 s⟩
def W62_k9 (Φ:EP) (s:St):Prop:=
 @sLd 48 9 3 true s<|.mk fun s=>
 @sCall Tryz.prog (.func 63 []) [(s.τ 48)] (some 49) s<|.mk fun s=>
 @sOp (some 50) (xBin .eql false (s.τ 49) (.int .i64 0) s.H) s<|.mk fun s=>
 @sIf (s.τ 50) ⟨W62_b1 Φ s⟩ ⟨W62_b7 Φ s⟩
def W62_b10 (Φ:EP) (s:St):Prop:=
 @sOp (some 6) (xMov (.nils) s.H) s<|.mk fun s=>
 Φ .ret s
def W62_b11 (Φ:EP) (s:St):Prop:=
 @sFl 24 0 3 s<|.mk fun u1=>
 @sLd 25 1 24 false u1<|.mk fun u2=>
 @sChk (compat (occ (s.τ 3),[]) ([26] ++ occL [],[26] ++ occL [])) <| .mk <|
 @sChk (compat (occ (u1.τ 24),[]) ([26] ++ occL [],[26] ++ occL [])) <| .mk <|
 @sOp (some 26) (xRow 26 3 1 0 [.int .i64 0] [] u2.H) u2<|.mk fun u3=>
 @sMv 27 1 u3<|.mk fun u4=>
 @sChk (compat (occ (s.τ 3),[]) ([28] ++ (occ (u4.τ 26) ++ occ (u4.τ 27)),[28] ++ occ (u4.τ 26))) <| .mk <|
 @sChk (compat (occ (u1.τ 24),[]) ([28] ++ (occ (u4.τ 26) ++ occ (u4.τ 27)),[28] ++ occ (u4.τ 26))) <| .mk <|
 @sOp (some 28) (xApp Tryz.prog 3 1 8 (some 28) (u4.τ 26) (u4.τ 27) u4.H) u4<|.mk fun u5=>
 @sOp (some 29) (xBuild [.int .i64 0,.nils,.int .i64 0] [(0,1,(u5.τ 25)),(1,1,(u5.τ 28)),(2,1,(.int .i64 1))] u5.H) u5<|.mk fun u6=>
 @sChk (compat (occ (s.τ 3),[]) ([8],[8])) <| .mk <|
 @sChk (compat (occ (u1.τ 24),[]) ([8],[8])) <| .mk <|
 @sChk (compat ([26] ++ occL [],[26] ++ occL []) ([8],[8])) <| .mk <|
 @sChk (compat ([28] ++ (occ (u4.τ 26) ++ occ (u4.τ 27)),[28] ++ occ (u4.τ 26)) ([8],[8])) <| .mk <|
 @sOp (some 8) (xAlloc 8 60 [.int .i64 0,.nils,.int .i64 0] u6.H) u6<|.mk fun u7=>
 @sOp none (xStore 3 (u7.τ 8) (u7.τ 29) u7.H) u7<|.mk fun s=>
 @sLd 30 3 7 true s<|.mk fun s=>
 @sLd 31 3 8 true s<|.mk fun s=>
 @sOp (some 32) (xLit 3 2 [.int .i64 0,.nils,.int .i64 0] [(0,(s.τ 30)),(1,(s.τ 31))] s.H) s<|.mk fun s=>
 @sMv 6 32 s<|.mk fun s=>
 Φ .ret s
def W62_b12 (Φ:EP) (s:St):Prop:=
 @sOp (some 6) (xMov (.nils) s.H) s<|.mk fun s=>
 Φ .ret s
def W62_b13 (Φ:EP) (s:St):Prop:=
 @sLd 37 3 7 true s<|.mk fun s=>
 @sOp (some 38) (xLit 3 1 [.int .i64 0,.nils,.int .i64 0] [(0,(s.τ 37))] s.H) s<|.mk fun s=>
 @sMv 6 38 s<|.mk fun s=>
 Φ .ret s
def W62_b14 (Φ:EP) (s:St):Prop:=
 @sMv 35 2 s<|.mk fun s=>
 @sOp (some 36) (xNot (s.τ 35) s.H) s<|.mk fun s=>
 @sIf (s.τ 36) ⟨W62_b12 Φ s⟩ ⟨W62_b13 Φ s⟩
def W62_b16 (Φ:EP) (s:St):Prop:=
 @sFl 41 8 3 s<|.mk fun s=>
 @sLd 42 1 41 false s<|.mk fun s=>
 @sOp (some 43) (xIx 9 (s.τ 42) (.int .i64 0) s.H) s<|.mk fun s=>
 @sLd 44 9 43 true s<|.mk fun s=>
 @sCall Tryz.prog (.func 26 []) [(s.τ 44)] (some 45) s<|.mk fun s=>
 @sOp (some 46) (xLen (s.τ 45) s.H) s<|.mk fun s=>
 @sOp (some 47) (xBin .eql false (s.τ 46) (.int .i64 0) s.H) s<|.mk fun s=>
 @sMv 2 47 s<|.mk fun s=>
 W62_k9 Φ s
def W62_b17 (Φ:EP) (s:St):Prop:=
 @sOp (some 40) (xBin .eql false (s.τ 18) (.int .i64 7) s.H) s<|.mk fun s=>
 @sMv 39 40 s<|.mk fun s=>
 @sIf (s.τ 39) ⟨W62_b16 Φ s⟩ ⟨W62_k9 Φ s⟩
def W62_b18 (Φ:EP) (s:St):Prop:=
 @sOp (some 34) (xBin .eql false (s.τ 18) (.int .i64 8) s.H) s<|.mk fun s=>
 @sMv 33 34 s<|.mk fun s=>
 @sIf (s.τ 33) ⟨W62_b14 Φ s⟩ ⟨W62_b17 Φ s⟩
def W62_b19 (Φ:EP) (s:St):Prop:=
 @sOp (some 23) (xBin .eql false (s.τ 18) (.int .i64 10) s.H) s<|.mk fun s=>
 @sMv 22 23 s<|.mk fun s=>
 @sIf (s.τ 22) ⟨W62_b11 Φ s⟩ ⟨W62_b18 Φ s⟩
def W62_k20 (Φ:EP) (s:St):Prop:=
 @sIf (s.τ 19) ⟨W62_b10 Φ s⟩ ⟨W62_b19 Φ s⟩
def W62_b21 (Φ:EP) (s:St):Prop:=
 @sOp (some 21) (xBin .eql false (s.τ 18) (.int .i64 14) s.H) s<|.mk fun s=>
 @sMv 19 21 s<|.mk fun s=>
 W62_k20 Φ s
def W62 (Φ:EP) (s:St):Prop:=
 @sOp (some 3) (xBox 3 35 (s.τ 0) s.H) s<|.mk fun s=>
 @sOp (some 6) (xMov (.nils) s.H) s<|.mk fun s=>
 @sFl 11 0 3 s<|.mk fun u1=>
 @sLd 12 1 11 false u1<|.mk fun u2=>
 @sChk (compat (occ (s.τ 3),[]) ([13] ++ occL [],[13] ++ occL [])) <| .mk <|
 @sChk (compat (occ (u1.τ 11),[]) ([13] ++ occL [],[13] ++ occL [])) <| .mk <|
 @sOp (some 13) (xRow 13 3 1 0 [.int .i64 0] [] u2.H) u2<|.mk fun u3=>
 @sMv 14 1 u3<|.mk fun u4=>
 @sChk (compat (occ (s.τ 3),[]) ([15] ++ (occ (u4.τ 13) ++ occ (u4.τ 14)),[15] ++ occ (u4.τ 13))) <| .mk <|
 @sChk (compat (occ (u1.τ 11),[]) ([15] ++ (occ (u4.τ 13) ++ occ (u4.τ 14)),[15] ++ occ (u4.τ 13))) <| .mk <|
 @sOp (some 15) (xApp Tryz.prog 3 1 8 (some 15) (u4.τ 13) (u4.τ 14) u4.H) u4<|.mk fun u5=>
 @sOp (some 16) (xBuild [.int .i64 0,.nils,.int .i64 0] [(0,1,(u5.τ 12)),(1,1,(u5.τ 15))] u5.H) u5<|.mk fun u6=>
 @sChk (compat (occ (s.τ 3),[]) ([7],[7])) <| .mk <|
 @sChk (compat (occ (u1.τ 11),[]) ([7],[7])) <| .mk <|
 @sChk (compat ([13] ++ occL [],[13] ++ occL []) ([7],[7])) <| .mk <|
 @sChk (compat ([15] ++ (occ (u4.τ 13) ++ occ (u4.τ 14)),[15] ++ occ (u4.τ 13)) ([7],[7])) <| .mk <|
 @sOp (some 7) (xAlloc 7 60 [.int .i64 0,.nils,.int .i64 0] u6.H) u6<|.mk fun u7=>
 @sOp none (xStore 3 (u7.τ 7) (u7.τ 16) u7.H) u7<|.mk fun s=>
 @sFl 17 0 3 s<|.mk fun s=>
 @sLd 18 1 17 false s<|.mk fun s=>
 @sOp (some 20) (xBin .eql false (s.τ 18) (.int .i64 0) s.H) s<|.mk fun s=>
 @sMv 19 20 s<|.mk fun s=>
 @sIf (s.τ 19) ⟨W62_k20 Φ s⟩ ⟨W62_b21 Φ s⟩
theorem W62_rs (τ:Nat → AV) (H:Heap):resV Tryz.prog τ H [.tmp 6] = some (τ 6):=by kernel_rfl
theorem W62_eq (Φ:EP) (s:St):awp Tryz.prog (Tryz.f62.body.getD .skip) Φ s = W62 Φ s:=by kernel_rfl
theorem W62_S {args:List AV} {r:AV} (hl:args.length ≤ 75) (h:∀ vs,W62 (retK Tryz.prog [.tmp 6] r) ⟨Am.look (argT 0 args),hls [] vs,noG⟩):Am.Spec Tryz.prog 62 args r:=.of_W (W:=W62) Tryz.func62 (by kernel_rfl) (by kernel_rfl) (by kernel_rfl) Tryz.ntmps62 W62_eq (by kernel_rfl) hl h
-- 63 "penance/penanceref5.Active"
def W63_b1 (Φ:EP) (s:St):Prop:=
 @sOp (some 2) (xMov (.int .i64 1) s.H) s<|.mk fun s=>
 Φ .ret s
def W63_b2 (Φ:EP) (s:St):Prop:=
 @sOp (some 2) (xMov (.int .i64 2) s.H) s<|.mk fun s=>
 Φ .ret s
def W63_b3 (Φ:EP) (s:St):Prop:=
 @sOp (some 2) (xMov (.int .i64 0) s.H) s<|.mk fun s=>
 Φ .ret s
def W63_b4 (Φ:EP) (s:St):Prop:=
 @sOp (some 9) (xBin .eql false (s.τ 4) (.int .i64 11) s.H) s<|.mk fun s=>
 @sMv 8 9 s<|.mk fun s=>
 @sIf (s.τ 8) ⟨W63_b2 Φ s⟩ ⟨W63_b3 Φ s⟩
def W63_k5 (Φ:EP) (s:St):Prop:=
 @sIf (s.τ 5) ⟨W63_b1 Φ s⟩ ⟨W63_b4 Φ s⟩
def W63_b6 (Φ:EP) (s:St):Prop:=
 @sOp (some 7) (xBin .eql false (s.τ 4) (.int .i64 7) s.H) s<|.mk fun s=>
 @sMv 5 7 s<|.mk fun s=>
 W63_k5 Φ s
def W63 (Φ:EP) (s:St):Prop:=
 @sOp (some 1) (xBox 1 35 (s.τ 0) s.H) s<|.mk fun s=>
 @sOp (some 2) (xMov (.int .i64 0) s.H) s<|.mk fun s=>
 @sFl 3 0 1 s<|.mk fun s=>
 @sLd 4 1 3 false s<|.mk fun s=>
 @sOp (some 6) (xBin .eql false (s.τ 4) (.int .i64 12) s.H) s<|.mk fun s=>
 @sMv 5 6 s<|.mk fun s=>
 @sIf (s.τ 5) ⟨W63_k5 Φ s⟩ ⟨W63_b6 Φ s⟩
theorem W63_rs (τ:Nat → AV) (H:Heap):resV Tryz.prog τ H [.tmp 2] = some (τ 2):=by kernel_rfl
theorem W63_eq (Φ:EP) (s:St):awp Tryz.prog (Tryz.f63.body.getD .skip) Φ s = W63 Φ s:=by kernel_rfl
theorem W63_S {args:List AV} {r:AV} (hl:args.length ≤ 10) (h:∀ vs,W63 (retK Tryz.prog [.tmp 2] r) ⟨Am.look (argT 0 args),hls [] vs,noG⟩):Am.Spec Tryz.prog 63 args r:=.of_W (W:=W63) Tryz.func63 (by kernel_rfl) (by kernel_rfl) (by kernel_rfl) Tryz.ntmps63 W63_eq (by kernel_rfl) hl h
end Go.Proofs.YtnngddgaobhkiaaGreat
