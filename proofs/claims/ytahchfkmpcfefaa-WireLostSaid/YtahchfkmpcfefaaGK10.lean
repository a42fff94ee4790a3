import Derived.Test.YtahchfkmpcfefaaGA7
import Derived.Test.YtahchfkmpcfefaaGP8
import Derived.Test.YtahchfkmpcfefaaGW9
import Derived.Shelf.SlIterI.Nil
import Derived.Shelf.SortM.Plain
import Derived.Shelf.SortM.SortNone
import Derived.Ground.GgzProg
import Derived.Ground.SlgmProg
import Derived.Shelf.RegionOpenPlain
import Derived.WalkKit
import Derived.Deep.LoopGhost
import Derived.Deep.RegionLaw
import Derived.Lib.Walk
import Derived.Lib.SliceRun
set_option linter.unusedVariables false
set_option linter.unusedSimpArgs false
namespace Go.Proofs
open Go.RowKit Go.Maps Go.Sort Go.Shelf
shelf_lay_g SlLaysZI.n7 Ggz 7 at Try 36 as Try.keysA
shelf_lay_g SlLaysZI.n6 Ggz 6 at Try 35 as Try.sortedA
shelf_lay_g SlLaysM.n5 Slgm 5 at Try 53 as Try.sortA
theorem Try.sortsA (m : Nat) : AnyZI.SortsIn Try.prog Try.sortedA_ren Fence.wide m :=
  ⟨fun blk off cap ss W hH hblk hsz => callsIn_wide.2 (AnyM.slices_Sort_int Try.sortA blk off cap ss W hH hblk hsz),
   fun p cap W => callsIn_wide.2 (AnyM.slices_Sort_int_none Try.sortA p cap W)⟩
theorem Try.sorted {H:Type} (bm b nn:Nat) (D0:DataW H) (R:Value → Option (DataW H × List MemPlace)) (w:World) (hm:w.cell? ⟨bm,0,none⟩ = some (.map (some b))) (hbm:bm < w.heap.size) (hown:w.ownsMap Try.prog 3 R b nn D0) (hmax:Maps.size D0 ≤ maxLen) (hbytes:Maps.size D0 * 8 ≤ 140737488355328) :
  Calls Try.prog 35 #[.func (.func 54) #[] #[.pointer (some ⟨bm,0,none⟩)]] w fun e w'=>∃ (v:Value) (ss:List Int),e = .returned v ∧ ss.Perm (intKeys D0) ∧
   w'.ownsRow w.heap.size 3 1 v ss.length ((ss.mergeSort (fun x y=>decide (x ≤ y))).map encZ) ∧ (v = .slice none 0 0 ↔ ss = []) ∧ Below w.heap.size w w':=by
 refine (callsIn_wide (n:=5)).1 ?_
 have hseq:SeqGives Fence.wide 2 Try.prog 54 #[.pointer (some ⟨bm,0,none⟩)] encZ (fun ss=>ss.Perm (intKeys D0)) (Maps.size D0) w:=
  AnyZI.keys_gives (ρ:=Try.keysA_ren) { Try.keysA with } Fence.wide _ trivial rfl (by omega) bm b nn D0 w hbm hm hown
 exact AnyZI.sorted_in Try.sortedA Fence.wide 5 trivial trivial trivial trivial rfl (by omega) (Try.sortsA _) (enters_of Try.func53 (by kernel_rfl) rfl) 54 #[.pointer (some ⟨bm,0,none⟩)] trivial (enters_of Try.func54 (by kernel_rfl) rfl) _ _ hmax hbytes _ hseq
end Go.Proofs
namespace Go.Proofs.Ytahchfkmpcfefaa
open Go Go.Am Go.RowKit
def mpI (l:List (Int × AV)):List (AV × AV):=l.map fun p=>(.int .i64 p.1,p.2)
def srtI (l:List Int):List Int:=l.mergeSort fun x y=>decide (x ≤ y)
theorem mpIs_keys:∀ {l:List (Int × AV)} {en:List MapEntry},MpIs (mpI l) en → en.map (·.key) = l.map fun p=>Value.int .i64 p.1
 | [],[],_=>rfl
 | p :: l,e :: en,h=>by
  obtain ⟨h1,h2,h3⟩:=h
  have h1:e.key = .int .i64 p.1:=h1
  simp only [List.map_cons,h1,mpIs_keys h3]
 | [],_ :: _,h=>h.elim
 | _ :: _,[],h=>h.elim
theorem Fit_of {l:List (Int × AV)} {en:Array MapEntry} {clock:Nat} (hs:MapKept.Stamped en clock) (hm:MpIs (mpI l) en.toList) (hl:l.length ≤ maxLen) (hw:∀ p ∈ l,(Lit.int .i64 p.1).wf = true) :
  WideElems.Fit (H:=Nat) Try.prog 3 (fun _=>some (.nil,[])) en clock:=by
 have hk:=mpIs_keys hm
 have hlen:en.size = l.length:=by have:=congrArg List.length hk; simpa using this
 refine ⟨by omega,hs,fun x hx=>?_⟩
 have h1:x.key ∈ en.toList.map (·.key):=List.mem_map_of_mem hx
 rw [hk] at h1
 obtain ⟨p,hp,e⟩:=List.mem_map.1 h1
 exact ⟨_,WideElems.rd_mk (key:=x.key) (val:=x.val) (born:=x.born) (by rw [← e]; exact Maps.keyOf_int_mk Try.underlying3 (hw p hp)) rfl⟩
noncomputable def rgI (x:MapEntry):Lit × DataW Nat:=WideElems.rg (H:=Nat) Try.prog 3 (fun _=>some (.nil,[])) x
def kyI (x:MapEntry):Int:=match x.key with | .int _ a=>a | _=>0
theorem rgI_key (x:MapEntry) (a:Int) (h:x.key = .int .i64 a) (hw:(Lit.int .i64 a).wf = true):_root_.Go.intOf (rgI x).1 = kyI x:=by
 have:rgI x = (.int .i64 a,.nil):=WideElems.rg_of (WideElems.rd_mk (R:=fun _=>some (.nil,[])) (yv:=(.nil,[])) (key:=x.key) (val:=x.val) (born:=x.born) (by rw [h]; exact Maps.keyOf_int_mk Try.underlying3 hw) rfl)
 rw [this,kyI,h]; rfl
theorem kyI_map {l:List (Int × AV)}:∀ {en:List MapEntry},en.map (·.key) = l.map (fun p=>Value.int .i64 p.1) → en.map kyI = l.map (·.1):=fun {en} hk=>by
 have:=congrArg (List.map fun v:Value=>match v with | .int _ a=>a | _=>0) hk
 rw [List.map_map,List.map_map] at this
 exact this
theorem keys_perm {l:List (Int × AV)} {en:Array MapEntry} (hm:MpIs (mpI l) en.toList) (hw:∀ p ∈ l,(Lit.int .i64 p.1).wf = true) :
  (intKeys (H:=Nat) (.map ((en.toList.map rgI).foldr DataW.insert []))).Perm (l.map (·.1)):=by
 have hk:=mpIs_keys hm
 have h1:(en.toList.map rgI).map (fun p=>_root_.Go.intOf p.1) = l.map (·.1):=by
  rw [List.map_map,← kyI_map hk]
  apply List.map_congr_left
  intro x hx
  simp only [Function.comp]
  have h1:x.key ∈ en.toList.map (·.key):=List.mem_map_of_mem hx
  rw [hk] at h1
  obtain ⟨p,hp,e⟩:=List.mem_map.1 h1
  have h2:=rgI_key x p.1 e.symm (hw p hp)
  generalize rgI x = y at h2
  exact h2
 rw [← h1]
 generalize en.toList.map rgI = q
 exact (WideShapes.sorted_perm q).map fun p=>_root_.Go.intOf p.1
theorem hs_srt (l:List (Int × AV)) (hl:l.length ≤ 1000000) (hw:∀ p ∈ l,(Lit.int .i64 p.1).wf = true) (kb vb km vm:Nat) (hne:kb ≠ km) :
  Am.HSpecL Try.prog 35 [.func 54 [.ref kb vb (.p 0)]] [(kb,.box vb 55 [.ref km vm .o]),(km,.obj vm (.mp .i (mpI l)))] fun r l'=>r = .sl ((srtI (l.map (·.1))).map fun x=>[.int .i64 x]) ∧ l' = [(kb,.box vb 55 [.ref km vm .o]),(km,.obj vm (.mp .i (mpI l)))]:=fun vs0=>by
 refine ⟨enters_of Try.func35 (by kernel_rfl) rfl,fun C us hH hC hR=>?_⟩
 obtain ⟨hlen,hR⟩:=hR
 obtain ⟨u,rfl⟩:=List.length_eq_one_iff.1 hlen
 have hu:=hR 0 _ rfl
 have hu:R C (.func 54 [.ref kb vb (.p 0)]) u:=hu
 cases hu with
 | func f cs vs hl1 h1=>
 obtain ⟨u,rfl⟩:=List.length_eq_one_iff.1 hl1
 have hu:=h1 0 _ rfl
 have hu:R C (.ref kb vb (.p 0)) u:=hu
 have hkb:C.H kb = some (.box vb 55 [.ref km vm .o]):=by rw [hH]; exact hls_some (by simp [lookB])
 have hkm:C.H km = some (.obj vm (.mp .i (mpI l))):=by rw [hH]; exact hls_some (by simp [lookB,hne])
 have hb:=hC.heap kb _ hkb
 have hm:=hC.heap km _ hkm
 cases hu with
 | ref _ _ _ blk _ hb1 hv1 ho1 hr1=>
 rw [hkb] at hb1
 cases hb1
 have hr1:=hr1 rfl
 cases ob:C.own kb with
 | none=>rw [ob] at hb; exact hb.elim
 | some gb=>
 cases om:C.own km with
 | none=>rw [om] at hm; exact hm.elim
 | some gm=>
 rw [ob] at hb hr1
 rw [om] at hm
 have hr1:u = .pointer (some ⟨gb,0,none⟩):=hr1
 subst hr1
 obtain ⟨cs,b1,b2,b3⟩:=hb
 obtain ⟨o,m1,en,clock,rfl,m2,m3,m4⟩:=hm
 obtain ⟨u,c1,c2,c3⟩:=b3 0 _ rfl
 cases c2 with
 | ref _ _ _ blk _ hb1 hv1 ho1 hr1=>
 rw [hkm] at hb1
 cases hb1
 have hr1:=hr1 rfl
 rw [om] at hr1
 have hr1:u = .map (some gm):=hr1
 subst hr1
 have hgb:=(hC.hown kb _ gb hkb rfl ob).1
 have hcell:C.w.cell? ⟨gb,0,none⟩ = some (.map (some gm)):=(cell_of_row C.w gb 0 cs _ _ b1).trans c1
 have hF:=Fit_of m2 m4 (by have:maxLen = 9223372036854775807:=rfl; omega) hw
 have hsz:en.size = l.length:=by have:=congrArg List.length (mpIs_keys m4); simpa using this
 have hown:C.w.ownsMap Try.prog 3 (fun _=>some (.nil,[])) gm en.size (.map ((en.toList.map rgI).foldr DataW.insert [])):=⟨en,clock,m1,hF,Nat.le_refl _,rfl⟩
 have hperm:=keys_perm m4 hw
 generalize hD:(DataW.map ((en.toList.map rgI).foldr DataW.insert [])) = D0 at *
 have hs:Maps.size D0 = l.length:=by
  rw [← hD]
  show (List.foldr DataW.insert [] _).length = _
  rw [(WideShapes.sorted_perm _).length_eq,List.length_map,Array.length_toList,hsz]
 have hc:=Try.sorted gb gm en.size D0 _ C.w hcell hgb hown (by rw [hs]; have:maxLen = 9223372036854775807:=rfl; omega) (by rw [hs]; omega)
 refine ((callsIn_wide (n:=0)).2 hc).mono ?_
 rintro e w' ⟨v,ss,rfl,hss,hrow,hnil,hbel⟩
 have hsrt:ss.mergeSort (fun x y=>decide (x ≤ y)) = srtI (l.map (·.1)):=mergeSort_of_perm_i (hss.trans hperm)
 have hle:C.le ⟨C.H,C.own,fun b=>C.S b ∨ (C.w.heap.size ≤ b ∧ b < w'.heap.size),w',C.l⟩:=by
  refine ⟨fun b hb=>⟨.inl hb,hbel.block b (hC.hS b hb)⟩,fun k blk hk=>⟨blk,hk,Nat.le_refl _,fun _ r u hu=>?_⟩,rfl⟩
  have:∀ g,C.own k = some g → blk.live = true → w'.heap[g]? = C.w.heap[g]?:=fun g hg hl=>hbel.block g (hC.hown k blk g hk hl hg).1
  revert hu
  show RefVal C.w (C.own k) blk r u → RefVal w' (C.own k) blk r u
  cases ho:C.own k with
  | none=>cases blk <;> cases r <;> exact id
  | some g=>
   cases blk with
   | row v t sz rows=>
    cases r with
    | o=>rintro ⟨cap,q1,q2⟩; exact ⟨cap,q1,fun cs t fr hg=>q2 cs t fr ((this g ho rfl).symm.trans hg)⟩
    | _=>exact id
   | _=>cases r <;> exact id
 refine ⟨v,_,⟨C.H,C.own,fun b=>C.S b ∨ (C.w.heap.size ≤ b ∧ b < w'.heap.size),w',C.l⟩,rfl,rfl,⟨fun b hb=>?_,fun k blk g hk hl hg=>?_,hC.inj,fun k blk hk=>?_⟩,⟨hle,.of_below hbel _,fun b hb=>?_,fun k blk g hk hl hg=>.inl ⟨k,blk,hk,hl,hg⟩⟩,?_,_,vs0,hH,rfl,rfl⟩
 ·rcases hb with hb | hb
  ·exact Nat.lt_of_lt_of_le (hC.hS b hb) hbel.size
  ·exact hb.2
 ·obtain ⟨g1,g2⟩:=hC.hown k blk g hk hl hg
  exact ⟨Nat.lt_of_lt_of_le g1 hbel.size,fun h=>h.elim g2 fun h=>by omega⟩
 ·exact (hC.heap k blk hk).mono hle fun g hg hl=>hbel.block g (hC.hown k blk g hk hl hg).1
 ·rcases hb with hb | hb
  ·exact .inl hb
  ·exact .inr (.inr hb.1)
 ·rw [hsrt] at hrow
  obtain ⟨r0,r1⟩:=hrow
  have hlen:(srtI (l.map (·.1))).length = ss.length:=by rw [← hsrt]; exact List.length_mergeSort _
  have hsl:ss.length = l.length:=by rw [(hss.trans hperm).length_eq,List.length_map]
  generalize srtI (l.map (·.1)) = K at *
  have hlr:(K.map fun x=>[AV.int .i64 x]).length = ss.length:=by rw [List.length_map,hlen]
  rcases r1 with ⟨rfl,h0⟩ | ⟨g,cap,cur,rfl,g1,g2,g3,g4,g5,g6⟩
  ·have:K = []:=List.eq_nil_of_length_eq_zero (by omega)
   subst this
   exact .sl [] none 0 0 0 0 (fun _ _=>.bool true) (fun h=>absurd rfl h) (by simp) (by simp) (by simp) (fun i hi=>absurd hi (by simp)) (fun _ _=>rfl) (fun i r h=>by simp at h)
  ·have hg:g < w'.heap.size:=(Array.getElem?_eq_some_iff.1 g2).1
   have hcur:∀ i,∀ h:i < K.length,cur[i]? = some (.int .i64 K[i]):=fun i h=>by
    have h1:(cur.toList.take (ss.length * 1))[i]? = some (.int .i64 K[i]):=by rw [g6,List.getElem?_map,List.getElem?_eq_getElem h]; rfl
    rw [List.getElem?_take,if_pos (by omega),Array.getElem?_toList] at h1
    exact h1
   rw [← hlr]
   refine .sl _ (some ⟨g,0,none⟩) cap g 0 1 (fun i _=>.int .i64 (K[i]?.getD 0)) (fun _=>⟨rfl,.inr ⟨g1,hg⟩⟩) (by omega) (by omega) (fun r hr=>?_) (fun i hi j hj=>?_) (fun _ _=>rfl) fun i r hr j a ha=>?_
   ·obtain ⟨x,-,rfl⟩:=List.mem_map.1 hr; rfl
   ·have hi:i < K.length:=by rw [List.length_map] at hi; exact hi
    obtain rfl:j = 0:=by omega
    show w'.cell? ⟨g,0 + i * 1 + 0,none⟩ = _
    rw [Nat.zero_add,Nat.mul_one,Nat.add_zero,cell_of_row w' g i cur _ _ g2,hcur i hi]; show _ = some (Value.int .i64 (K[i]?.getD 0)); rw [List.getElem?_eq_getElem hi]; rfl
   ·rw [List.getElem?_map] at hr
    obtain ⟨x,hx,rfl⟩:=Option.map_eq_some_iff.1 hr
    cases j with
    | zero=>cases ha; rw [hx]; exact .int .i64 x
    | succ j=>simp at ha
end Go.Proofs.Ytahchfkmpcfefaa
namespace Go.Proofs
open Go.RowKit Go.Lib
theorem setCells_at (g:Nat) (t:TypeId) (fr:Nat × Nat):∀ (vs:List Value) (o:Nat) (w:World) (cur:List Value),w.heap[g]? = some (.cells cur.toArray t fr) → o + vs.length ≤ cur.length →
  (w.setCells g o vs).heap[g]? = some (.cells (cur.take o ++ vs ++ cur.drop (o + vs.length)).toArray t fr) ∧ Am.Grows w (w.setCells g o vs) (· = g)
 | [],o,w,cur,h,_=>⟨by simpa [World.setCells] using h,.refl _ _⟩
 | v :: r,o,w,cur,h,hl=>by
  have h1:(w.setCell ⟨g,o,none⟩ v).heap[g]? = some (.cells (cur.set o v).toArray t fr):=by
   simp [World.setCell,Array.getElem?_modify,h]
  obtain ⟨h2,h3⟩:=setCells_at g t fr r (o + 1) _ (cur.set o v) h1 (by simp at hl ⊢; omega)
  refine ⟨?_,Am.Grows.trans (b:=w.setCell ⟨g,o,none⟩ v) (Y:=(· = g)) (Z:=(· = g)) ⟨rfl,rfl,rfl,by simp [World.setCell],fun b _ hb=>by simp [World.setCell,Array.getElem?_modify,Ne.symm hb]⟩ h3 fun _ h _=>h⟩
  show ((w.setCell ⟨g,o,none⟩ v).setCells g (o + 1) r).heap[g]? = _
  rw [h2]
  congr 3
  have hol:o < cur.length:=by simp at hl; omega
  have e:(cur.set o v).take (o + 1) = cur.take o ++ [v]:=by
   rw [List.take_add_one,List.take_set,List.set_eq_of_length_le (by rw [List.length_take]; omega),List.getElem?_set,if_pos rfl,if_pos hol]; rfl
  rw [e,List.drop_set,if_pos (by omega),List.length_cons,show o + 1 + r.length = o + (r.length + 1) by omega]
  simp
def zMsg:List Value:=[.bool false,.string ⟨#[]⟩,.int .i64 0,.int .i64 0]
theorem clear_one (w:World) (ty:TypeId) (b o c:Nat) (hc:∀ j,j < 4 → (w.cell? ⟨b,o + j,none⟩).isSome = true) (hf:∀ j,j < 4 → w.frozen? ⟨b,o + j,none⟩ = false) :
  (Builtin.clear_ #[31] ty #[.slice (some ⟨b,o,none⟩) 1 c]).run Try.prog w = .ok (.tuple #[]) (w.setCells b o zMsg):=by
 have hst:=run_storeCells_cells (P:=Try.prog) b o zMsg 0 w (by simpa [zMsg] using hc) (by simpa [zMsg] using hf) (by intro v hv; simp [zMsg] at hv; rcases hv with rfl | rfl | rfl | rfl <;> rfl)
 simp only [Nat.add_zero] at hst
 have hz:(Builtin.zeroCells (Value.agg zMsg.toArray).cells 1).toList = zMsg:=by
  simp [Builtin.zeroCells,zMsg,Value.cells]
  rfl
 have hv:∀ w,(zeroValue 42).run Try.prog w = .ok (.agg zMsg.toArray) w:=fun w=>Try.zeroValue42 w
 simp [Builtin.clear_,run_underlying Try.underlying31,hv,hz,hst]
set_option maxHeartbeats 4000000 in
set_option maxRecDepth 1000000 in
theorem delete_raw (g cap n i:Nat) (cur:Array Value) (t:TypeId) (w:World) (hg:w.heap[g]? = some (.cells cur t (0,0))) (hs:cur.size = cap * 4) (hn:n ≤ cap) (hm:cap ≤ maxLen) (hi:i < n) (j:Nat) (hj:j = i + 1) (h1:∀ u ∈ (cur.toList.drop (j * 4)).take ((n - j) * 4),u.oneCell' = true) :
  Calls Try.prog 42 #[.slice (some ⟨g,0,none⟩) n cap,.int .i64 i,.int .i64 j] w fun e w'=>e = .returned (.slice (some ⟨g,0,none⟩) (n - 1) cap) ∧
   w' = (w.drew.setCells g (0 + i * 4) ((cur.toList.drop (j * 4)).take ((n - j) * 4))).setCells g ((n - 1) * 4) zMsg:=by
 have hml:maxLen = 9223372036854775807:=rfl
 obtain ⟨news,hnews⟩:∃ news,news = (cur.toList.drop (j * 4)).take ((n - j) * 4):=⟨_,rfl⟩
 rw [← hnews] at h1 ⊢
 have hlen:news.length = (n - j) * 4:=by rw [hnews]; simp; omega
 have mixed:Try.prog.follows .mixedOrders = true:=by kernel_rfl
 have hjn:j ≤ n:=by omega
 obtain ⟨i0,hi0,hz0⟩:∃ i0,Try.prog.info? 42 = some i0 ∧ i0.size = 4:=⟨Try.t42,by kernel_rfl,by kernel_rfl⟩
 have hfz:∀ k,w.frozen? ⟨g,k,none⟩ = false:=fun k=>by simp [World.frozen?,hg]
 obtain ⟨A,hA,hsrc⟩:∃ A:Addr,(if cap = j then some (⟨g,0,none⟩:Addr) else some ⟨g,j * 4,none⟩) = some A ∧ Hid (∀ t u,news[t]? = some u → w.drew.cell? (A.add t) = some u):=by
  by_cases h:cap = j
  ·refine ⟨⟨g,0,none⟩,by simp [h],fun t u hu=>?_⟩
   have h0:news.length = 0:=by rw [hlen]; omega
   rw [List.length_eq_zero_iff.1 h0] at hu
   simp at hu
  ·refine ⟨⟨g,j * 4,none⟩,by simp [h],fun t u hu=>?_⟩
   have ht:=(List.getElem?_eq_some_iff.1 hu).1
   rw [hnews,List.getElem?_take,if_pos (by omega),List.getElem?_drop,Array.getElem?_toList] at hu
   rw [Addr.add_lit]
   exact (cell_of_row w g _ cur _ _ hg).trans hu
 have s1:Hid (news.length = (n - j) * 4):=hlen
 have s2:Hid (∀ u ∈ news,u.oneCell' = true):=h1
 have s3:Hid (∀ t,t < news.length → (w.drew.cell? ⟨g,0 + i * 4 + t,none⟩).isSome = true ∧ w.drew.frozen? ⟨g,0 + i * 4 + t,none⟩ = false):=fun t ht=>by
  rw [hlen] at ht
  refine ⟨?_,hfz _⟩
  show (w.cell? _).isSome = true
  rw [cell_of_row w g _ cur _ _ hg,Array.getElem?_eq_getElem (by omega)]
  rfl
 obtain ⟨W1,hW1⟩:∃ W1,W1 = w.drew.setCells g (0 + i * 4) news:=⟨_,rfl⟩
 have e1:n - (i + (n - j)) = 1:=by omega
 have e2:i + (n - j) = n - 1:=by omega
 have hcl:∀ ty,(Builtin.clear_ #[31] ty #[.slice (some ⟨g,(i + (n - j)) * 4,none⟩) (n - (i + (n - j))) (cap - (i + (n - j)))]).run Try.prog W1 = .ok (.tuple #[]) (W1.setCells g ((n - 1) * 4) zMsg):=fun ty=>by
  rw [e1,e2]
  have h9:=(setCells_at g t (0,0) news (0 + i * 4) w.drew cur.toList (by rw [Array.toArray_toList]; exact hg) (by have:cur.toList.length = cur.size:=Array.length_toList; omega)).1
  rw [← hW1] at h9
  refine clear_one W1 ty g ((n - 1) * 4) _ (fun k hk=>?_) (fun k hk=>by simp [World.frozen?,h9])
  have h10:cur.toList.length = cap * 4:=(Array.length_toList (xs:=cur)).trans hs
  rw [cell_of_row W1 g _ _ _ _ h9,Array.getElem?_eq_getElem (by rw [List.size_toArray,List.length_append,List.length_append,List.length_take,List.length_drop,hlen,h10]; omega)]
  rfl
 have hW:Hid (W1 = w.drew.setCells g (0 + i * 4) news):=hW1
 rw [← hW1]
 have hic:i ≤ cap:=by omega
 have hjc:j ≤ cap:=by omega
 have hin:i + (n - j) ≤ n:=by omega
 have hin2:i + (n - j) ≤ cap:=by omega
 have hne:¬ i = j:=by omega
 have hE2:Hid (i + (n - j) = n - 1):=e2
 have hnn:n - 1 = i + (n - j):=e2.symm
 clear hnews hlen hs hg hj e1 hnn e2 hW1
 go_enter Try.func42,Try.ntmps42
 go_wp2_with fail
 go_region_law_o (refine step_append_room rfl (.tmp 22) (.tmp 25) 31 rfl 42 i0 4 Try.underlying31 hi0 hz0 g 0 i cap (by simp [Act.eval,Act.put]) A (n - j) (cap - j) news (by simp [Act.eval,Act.put]) s1.out hsrc.out s2.out (by omega) s3.out ?_; rw [← hW.out])
 go_wp2
 go_ret
 exact ⟨by rw [← hE2.out]; rfl,rfl⟩
end Go.Proofs
namespace Go.Proofs.Ytahchfkmpcfefaa
open Go Go.Am Go.RowKit
theorem flatten_erase {sz:Nat}:∀ (rows:List (List AV)),(∀ r ∈ rows,r.length = sz) → ∀ i,i < rows.length → (rows.eraseIdx i).flatten = rows.flatten.take (i * sz) ++ rows.flatten.drop ((i + 1) * sz)
 | [],_,i,h=>by simp at h
 | r :: rows,hr,0,_=>by
  have:=hr r (by simp)
  simp [List.drop_append,this]
 | r :: rows,hr,i + 1,h=>by
  have h1:=hr r (by simp)
  have h2:=flatten_erase rows (fun r h=>hr r (by simp [h])) i (by simpa using h)
  have q1:sz ≤ (i + 1) * sz:=by rw [Nat.succ_mul]; omega
  have q2:sz ≤ (i + 1 + 1) * sz:=by rw [Nat.succ_mul (i + 1)]; omega
  have e1:(r ++ rows.flatten).take ((i + 1) * sz) = r ++ rows.flatten.take (i * sz):=by
   rw [List.take_append,List.take_of_length_le (l:=r) (by omega),h1,show (i + 1) * sz - sz = i * sz by rw [Nat.succ_mul]; omega]
  have e2:(r ++ rows.flatten).drop ((i + 1 + 1) * sz) = rows.flatten.drop ((i + 1) * sz):=by
   rw [List.drop_append,show r.drop ((i + 1 + 1) * sz) = [] from List.drop_eq_nil_of_le (by omega),h1,show (i + 1 + 1) * sz - sz = (i + 1) * sz by rw [Nat.succ_mul (i + 1)]; omega,List.nil_append]
  rw [List.eraseIdx_cons_succ,List.flatten_cons,List.flatten_cons,h2,e1,e2,List.append_assoc]
theorem hs_del (v0 i:Nat) (rows:List (List AV)) (hi:i < rows.length) :
  Am.HSpecL Try.prog 42 [.ref 0 v0 .o,.int .i64 i,.int .i64 (i + 1:Nat)] [(0,.row v0 42 4 rows)] fun r l'=>r = .ref 0 (v0 + 1) .o ∧ l' = [(0,.row (v0 + 1) 42 4 (rows.eraseIdx i))]:=fun vs0=>by
 refine ⟨enters_of Try.func42 (by kernel_rfl) rfl,fun C us hH hC hR=>?_⟩
 obtain ⟨hlen,hR⟩:=hR
 obtain ⟨u,u1,u2,rfl⟩:∃ u u1 u2,us = [u,u1,u2]:=by
  rcases us with _ | ⟨u,_ | ⟨u1,_ | ⟨u2,_ | ⟨u3,us⟩⟩⟩⟩ <;> simp at hlen
  exact ⟨_,_,_,rfl⟩
 have hu:R C (.ref 0 v0 .o) u:=hR 0 _ rfl
 have hu1:R C (.int .i64 i) u1:=hR 1 _ rfl
 have hu2:R C (.int .i64 (i + 1:Nat)) u2:=hR 2 _ rfl
 cases hu1
 cases hu2
 have hk:C.H 0 = some (.row v0 42 4 rows):=by rw [hH]; exact hls_some (by simp [lookB])
 have hb:=hC.heap 0 _ hk
 cases hu with
 | ref _ _ _ blk _ hb1 hv1 ho1 hr1=>
 rw [hk] at hb1
 cases hb1
 have hr1:=hr1 rfl
 cases ob:C.own 0 with
 | none=>rw [ob] at hb; rw [hb.1] at hi; simp at hi
 | some g=>
 rw [ob] at hb hr1
 obtain ⟨cs,cap,b1,b2,b3,b4,b5,b6,b7⟩:=hb
 obtain ⟨cap',rfl,hcap⟩:=hr1
 have hcc:cap' = cap:=by have:=hcap cs _ _ b1; rw [b2] at this; omega
 subst hcc
 obtain ⟨hgl,hgS⟩:=hC.hown 0 _ g hk rfl ob
 have hfl:rows.flatten.length = rows.length * 4:=flatten_length b6
 have hone:∀ u ∈ (cs.toList.drop ((i + 1) * 4)).take ((rows.length - (i + 1)) * 4),u.oneCell' = true:=fun u hu=>by
  obtain ⟨k,hk1,rfl⟩:=List.getElem_of_mem hu
  have hk2:=hk1
  rw [List.length_take] at hk2
  obtain ⟨x,x1,x2,x3⟩:=b7 ((i + 1) * 4 + k) rows.flatten[(i + 1) * 4 + k] (List.getElem?_eq_getElem (by omega))
  have:((cs.toList.drop ((i + 1) * 4)).take ((rows.length - (i + 1)) * 4))[k]? = some x:=by rw [List.getElem?_take,if_pos (by omega),List.getElem?_drop,Array.getElem?_toList,x1]
  rw [List.getElem?_eq_getElem hk1] at this
  cases this
  exact x2.one x3
 refine ((callsIn_wide (n:=0)).2 (delete_raw g cap' rows.length i cs _ C.w b1 b2 b3 b4 hi (i + 1) rfl hone)).mono ?_
 rintro e w' ⟨rfl,hw'⟩
 generalize hnews:(cs.toList.drop ((i + 1) * 4)).take ((rows.length - (i + 1)) * 4) = news at *
 have hcl:cs.toList.length = cap' * 4:=(Array.length_toList (xs:=cs)).trans b2
 have hnl:news.length = (rows.length - (i + 1)) * 4:=by rw [← hnews,List.length_take,List.length_drop,hcl]; omega
 obtain ⟨p1,p2⟩:=setCells_at g 42 (0,0) news (0 + i * 4) C.w.drew cs.toList (by rw [Array.toArray_toList]; exact b1) (by omega)
 have hl1:(cs.toList.take (0 + i * 4) ++ news ++ cs.toList.drop (0 + i * 4 + news.length)).length = cap' * 4:=by rw [List.length_append,List.length_append,List.length_take,List.length_drop]; omega
 obtain ⟨p3,p4⟩:=setCells_at g 42 (0,0) zMsg ((rows.length - 1) * 4) _ _ p1 (by rw [hl1]; have:zMsg.length = 4:=rfl; omega)
 rw [← hw'] at p3 p4
 have hgr:Grows C.w w' (· = g):=Grows.trans (Grows.trans (b:=C.w.drew) (Z:=(· = g)) (Y:=(· = g)) ⟨rfl,rfl,rfl,Nat.le_refl _,fun _ _ _=>rfl⟩ p2 fun _ h _=>h) p4 fun _ h _=>h
 obtain ⟨cs2,hcs2⟩:∃ cs2,cs2 = (cs.toList.take (0 + i * 4) ++ news ++ cs.toList.drop (0 + i * 4 + news.length)).take ((rows.length - 1) * 4) ++ zMsg ++ (cs.toList.take (0 + i * 4) ++ news ++ cs.toList.drop (0 + i * 4 + news.length)).drop ((rows.length - 1) * 4 + zMsg.length):=⟨_,rfl⟩
 rw [← hcs2] at p3
 have hl2:cs2.length = cap' * 4:=by
  have:zMsg.length = 4:=rfl
  rw [hcs2,List.length_append,List.length_append,List.length_take,List.length_drop,hl1]; omega
 have hrl:(rows.eraseIdx i).length = rows.length - 1:=List.length_eraseIdx_of_lt hi
 obtain ⟨C',hC'⟩:∃ C',C' = (⟨upd C.H 0 (some (.row (v0 + 1) 42 4 (rows.eraseIdx i))),C.own,C.S,w',C.l⟩:Ctx):=⟨_,rfl⟩
 have H0:C'.H 0 = some (.row (v0 + 1) 42 4 (rows.eraseIdx i)):=by rw [hC']; exact upd_same C.H 0 (some (.row (v0 + 1) 42 4 (rows.eraseIdx i)))
 have H1:∀ k,k ≠ 0 → C'.H k = C.H k:=fun k hk=>by rw [hC']; exact upd_other _ _ _ _ hk
 have Hw:C'.w = w':=by rw [hC']
 have HS:C'.S = C.S:=by rw [hC']
 have Ho:C'.own = C.own:=by rw [hC']
 have blk:∀ b,b < C.w.heap.size → b ≠ g → w'.heap[b]? = C.w.heap[b]?:=fun b hb hne=>hgr.block b hb hne
 have oth:∀ k b g',k ≠ 0 → C.H k = some b → b.live = true → C.own k = some g' → g' ≠ g:=fun k b g' hne hb hl hg e=>by
  subst e; exact hne (hC.inj k 0 b _ g' hb hk hl rfl hg ob)
 have hle:C.le C':=by
  refine ⟨fun b hb=>⟨by rw [HS]; exact hb,by rw [Hw]; exact blk b (hC.hS b hb) fun e=>hgS (e ▸ hb)⟩,fun k b hb=>?_,by rw [hC']⟩
  by_cases e:k = 0
  ·subst e
   rw [hk] at hb
   cases hb
   exact ⟨_,H0,Nat.le_succ _,fun e=>absurd e (Nat.succ_ne_self _)⟩
  ·refine ⟨b,(H1 k e).trans hb,Nat.le_refl _,fun _ r u hu=>?_⟩
   rw [Ho,Hw]
   cases ho:C.own k with
   | none=>rw [ho] at hu; cases b <;> cases r <;> exact hu
   | some g'=>
    rw [ho] at hu
    cases b with
    | row v t sz rows'=>
     cases r with
     | o=>
      obtain ⟨cap,q1,q2⟩:=hu
      exact ⟨cap,q1,fun cs t' fr hg=>q2 cs t' fr ((blk g' (hC.hown k _ g' hb rfl ho).1 (oth k _ g' e hb rfl ho)).symm.trans hg)⟩
     | _=>exact hu
    | _=>cases r <;> exact hu
 refine ⟨_,.ref 0 (v0 + 1) .o,C',rfl,Hw,⟨fun b hb=>?_,fun k b g' hb hl hg=>?_,fun k k' b b' g' hb hb' hl hl' hg hg'=>?_,fun k b hb=>?_⟩,⟨hle,?_,fun b hb=>.inl (by rw [← HS]; exact hb),fun k b g' hb hl hg=>.inl ?_⟩,?_,[(0,.row (v0 + 1) 42 4 (rows.eraseIdx i))],vs0,?_,rfl,rfl⟩
 ·rw [HS] at hb; rw [Hw]; exact Nat.lt_of_lt_of_le (hC.hS b hb) hgr.size
 ·rw [Ho] at hg
  rw [HS,Hw]
  by_cases e:k = 0
  ·subst e; rw [ob] at hg; cases hg; exact ⟨Nat.lt_of_lt_of_le hgl hgr.size,hgS⟩
  ·rw [H1 k e] at hb
   obtain ⟨q1,q2⟩:=hC.hown k b g' hb hl hg
   exact ⟨Nat.lt_of_lt_of_le q1 hgr.size,q2⟩
 ·rw [Ho] at hg hg'
  have old:∀ k b,C'.H k = some b → b.live = true → ∃ b0,C.H k = some b0 ∧ b0.live = true:=fun k b hb hl=>by
   by_cases e:k = 0
   ·subst e; exact ⟨_,hk,rfl⟩
   ·rw [H1 k e] at hb; exact ⟨b,hb,hl⟩
  obtain ⟨b0,q1,q2⟩:=old k b hb hl
  obtain ⟨b1,q3,q4⟩:=old k' b' hb' hl'
  exact hC.inj k k' b0 b1 g' q1 q3 q2 q4 hg hg'
 ·rw [Ho]
  by_cases e:k = 0
  ·subst e
   rw [H0] at hb
   cases hb
   rw [ob]
   refine ⟨cs2.toArray,cap',by rw [Hw]; exact p3,by rw [List.size_toArray]; exact hl2,by omega,b4,by decide,fun r hr=>b6 r (List.mem_of_mem_eraseIdx hr),?_⟩
   rw [flatten_erase rows b6 i hi]
   intro k a ha
   have key:∀ m x,rows.flatten[m]? = some x → cs2[k]? = cs[m]? → ∃ v,cs2.toArray[k]? = some v ∧ R C' x v ∧ x.cell = true:=fun m x hx h=>by
    obtain ⟨v,q1,q2,q3⟩:=b7 m x hx
    exact ⟨v,by rw [List.getElem?_toArray,h,q1],q2.mono hle,q3⟩
   have hzl:zMsg.length = 4:=rfl
   have g1:(cs.toList.take (0 + i * 4)).length = i * 4:=by rw [List.length_take]; omega
   by_cases hlt:k < i * 4
   ·rw [List.getElem?_append_left (by rw [List.length_take]; omega),List.getElem?_take,if_pos hlt] at ha
    refine key k a ha ?_
    rw [hcs2,List.append_assoc,List.getElem?_append_left (by rw [List.length_take,hl1]; omega),List.getElem?_take,if_pos (by omega),List.append_assoc,List.getElem?_append_left (by omega),List.getElem?_take,if_pos (by omega),Array.getElem?_toList]
   ·rw [List.getElem?_append_right (by rw [List.length_take]; omega),List.length_take,List.getElem?_drop] at ha
    have hk3:=(List.getElem?_eq_some_iff.1 ha).1
    refine key _ a ha ?_
    rw [hcs2,List.append_assoc,List.getElem?_append_left (by rw [List.length_take,hl1]; omega),List.getElem?_take,if_pos (by omega),List.append_assoc,List.getElem?_append_right (by omega),g1,List.getElem?_append_left (by omega),← hnews,List.getElem?_take,if_pos (by omega),List.getElem?_drop,Array.getElem?_toList]
    congr 1
    omega
  ·rw [H1 k e] at hb
   refine (hC.heap k b hb).mono hle fun g' hg hl=>?_
   rw [Hw]
   exact blk g' (hC.hown k b g' hb hl hg).1 (oth k b g' e hb hl hg)
 ·rw [Hw]
  exact ⟨hgr.os,hgr.tape,hgr.output,hgr.size,fun b hb hn=>hgr.block b hb fun e=>hn (e ▸ ⟨0,_,hk,rfl,ob⟩)⟩
 ·rw [Ho] at hg
  by_cases e:k = 0
  ·subst e; exact ⟨0,_,hk,rfl,hg⟩
  ·rw [H1 k e] at hb; exact ⟨k,b,hb,hl,hg⟩
 ·refine .ref 0 (v0 + 1) .o _ _ H0 (Nat.le_refl _) rfl fun _=>?_
  rw [Ho,ob,Hw]
  refine ⟨cap',by rw [hrl],fun cs' t' fr hg=>?_⟩
  rw [p3] at hg
  cases hg
  rw [List.size_toArray]; exact hl2
 ·rw [hC']; show upd C.H 0 _ = _; rw [hH,upd_hls]; rfl
end Go.Proofs.Ytahchfkmpcfefaa
