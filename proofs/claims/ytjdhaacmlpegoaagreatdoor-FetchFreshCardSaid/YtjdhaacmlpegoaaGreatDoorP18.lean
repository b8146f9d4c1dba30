/- Part 18 of what the proof needs: SPA SP SQ. -/
import Derived.Test.YtjdhaacmlpegoaaGreatDoorP02
import Derived.Lib.Hide
import Derived.Test.YtjdhaacmlpegoaaGreatDoorP09
import Derived.Test.YtjdhaacmlpegoaaGreatDoorP14
import Derived.BigQuiet
import Derived.Test.YtjdhaacmlpegoaaGreatDoorP17
import Derived.Deep.QuietTactic
import Derived.Deep.RegionHeld3
import Derived.Test.YtjdhaacmlpegoaaGreatDoorP01
import Derived.Deep.LoopGhost
set_option maxRecDepth 20000
set_option maxHeartbeats 16000000
namespace Go.Proofs.YtjdhaacmlpegoaaGreatDoor
open Go.RowKit
set_option linter.unusedSimpArgs false
set_option linter.unusedVariables false
def cmpI (p q:Int):Int:=if p<q then -1 else if q<p then 1 else 0
def orI (p q:Int):Int:=if p=0 then q else p
theorem isnan_any (p:Int)(w:World):Calls Tryz.prog 137 #[.int .i64 p] w fun e w'=>e = .returned (.bool false)/\w=w':=by
 go_enter Tryz.func137,Tryz.ntmps137
 go_wp2_with fail
 go_ret
 exact ⟨rfl,rfl⟩
theorem compare_any (p q:Int)(R:Int)(hR:cmpI p q=R)(w:World):Calls Tryz.prog 89 #[.int .i64 p,.int .i64 q] w fun e w'=>e = .returned (.int .i64 R)/\w=w':=by
 have CN:=Lib.hid (fun p w=>isnan_any p w)
 unfold cmpI at hR
 by_cases h1:p<q
 ·rw [if_pos h1] at hR
  have HR:=Lib.hid hR
  clear hR
  go_enter Tryz.func89,Tryz.ntmps89
  go_wp2_with (go_at_call 137;with_reducible refine (CN.out _ _).mono ?_;rintro x w1 ⟨rfl,rfl⟩)
  go_ret
  exact ⟨ret_int HR.out,rfl⟩
 ·rw [if_neg h1] at hR
  by_cases h2:q<p
  ·rw [if_pos h2] at hR
   have HR:=Lib.hid hR
   clear hR
   go_enter Tryz.func89,Tryz.ntmps89
   go_wp2_with (go_at_call 137;with_reducible refine (CN.out _ _).mono ?_;rintro x w1 ⟨rfl,rfl⟩)
   go_ret
   exact ⟨ret_int HR.out,rfl⟩
  ·rw [if_neg h2] at hR
   have HR:=Lib.hid hR
   clear hR
   go_enter Tryz.func89,Tryz.ntmps89
   go_wp2_with (go_at_call 137;with_reducible refine (CN.out _ _).mono ?_;rintro x w1 ⟨rfl,rfl⟩)
   go_ret
   exact ⟨ret_int HR.out,rfl⟩
theorem or_any (p q:Int)(b:Nat)(w:World)(h0:w.cell? ⟨b,0,none⟩=some (.int .i64 p))(h1:w.cell? ⟨b,1,none⟩=some (.int .i64 q))(R:Int)(hR:orI p q=R):
 Calls Tryz.prog 88 #[.slice (some ⟨b,0,none⟩) 2 2] w fun e w'=>e = .returned (.int .i64 R)/\w=w':=by
 unfold orI at hR
 by_cases hp:p=0
 ·subst hp
  rw [if_pos rfl] at hR
  by_cases hq:q=0
  ·subst hq hR
   go_enter Tryz.func88,Tryz.ntmps88
   go_wp2_with fail
   refine wp_loop_rounds 3 ?_
   rw [rounds_succ]
   go_wp2_with fail
   rw [rounds_succ]
   go_wp2_with fail
   rw [rounds_succ]
   go_wp2_with fail
   go_ret
   exact ⟨rfl,rfl⟩
  ·have hq1:((q:Int) != 0)=true:=bne_iff_ne.2 hq
   subst hR
   clear hq
   go_enter Tryz.func88,Tryz.ntmps88
   go_wp2_with fail
   refine wp_loop_rounds 2 ?_
   rw [rounds_succ]
   go_wp2_with fail
   rw [rounds_succ]
   go_wp2_with fail
   go_ret
   exact ⟨rfl,rfl⟩
 ·rw [if_neg hp] at hR
  have hp1:((p:Int) != 0)=true:=bne_iff_ne.2 hp
  subst hR
  clear hp
  go_enter Tryz.func88,Tryz.ntmps88
  go_wp2_with fail
  refine wp_loop_rounds 1 ?_
  rw [rounds_succ]
  go_wp2_with fail
  go_ret
  exact ⟨rfl,rfl⟩
end Go.Proofs.YtjdhaacmlpegoaaGreatDoor
namespace Go.Proofs.YtjdhaacmlpegoaaGreatDoor
open Go.RowKit Go.Sort
set_option linter.unusedSimpArgs false
set_option linter.unusedVariables false
def cmpC (x y:Ck):Int:=orI (cmpI y.p.size x.p.size) (cmpI x.cr y.cr)
def ltC (x y:Ck):Bool:=decide (cmpC x y<0)
theorem ltC_iff (x y:Ck):ltC x y=true ↔ y.p.size<x.p.size\/(y.p.size=x.p.size/\x.cr<y.cr):=by
 unfold ltC cmpC orI cmpI
 rw [decide_eq_true_eq]
 by_cases h1:(y.p.size:Int)<x.p.size
 ·rw [if_pos h1,if_neg (by decide)]
  exact ⟨fun _=>.inl (by omega),fun _=>by decide⟩
 ·by_cases h2:(x.p.size:Int)<y.p.size
  ·rw [if_neg h1,if_pos h2,if_neg (by decide)]
   exact ⟨fun h=>absurd h (by decide),fun h=>by omega⟩
  ·rw [if_neg h1,if_neg h2,if_pos rfl]
   by_cases h3:x.cr<y.cr
   ·rw [if_pos h3];exact ⟨fun _=>.inr ⟨by omega,h3⟩,fun _=>by decide⟩
   ·rw [if_neg h3]
    by_cases h4:y.cr<x.cr
    ·rw [if_pos h4];exact ⟨fun h=>absurd h (by decide),fun h=>by omega⟩
    ·rw [if_neg h4];exact ⟨fun h=>absurd h (by decide),fun h=>by omega⟩
theorem ltC_not (x y:Ck):ltC x y=false ↔ ¬ (y.p.size<x.p.size\/(y.p.size=x.p.size/\x.cr<y.cr)):=by
 rw [<-ltC_iff,Bool.not_eq_true]
theorem swoC:SWO ltC where
 irrefl x:=by rw [ltC_not];omega
 trans x y z h1 h2:=by rw [ltC_iff] at *;omega
 ntrans x y z h1 h2:=by rw [ltC_not] at *;omega
instance ckInhabited:Inhabited Ck:=⟨ck0⟩
theorem brq {B:Nat}{w0 w1:World}(hb:Below B w0 w1):∀ b o,b<B->w1.cell? ⟨b,o,none⟩=w0.cell? ⟨b,o,none⟩:=fun b o h=>hb.cell (p:=⟨b,o,none⟩) h
def Q4 (X Y:Nat)(x y:Ck)(W w':World):Prop:=w'.cell? ⟨Y,3,none⟩=some (.string y.p)/\w'.cell? ⟨X,3,none⟩=some (.string x.p)/\w'.cell? ⟨X,8,none⟩=some (.int .i64 x.cr)/\w'.cell? ⟨Y,8,none⟩=some (.int .i64 y.cr)/\Below W.heap.size W w'
theorem q4_mk {X Y:Nat}{x y:Ck}{W w':World}(hX:AtL W X (ckL x))(hY:AtL W Y (ckL y))(hb:Below W.heap.size W w'):Q4 X Y x y W w':=
 ⟨(brq hb _ _ hY.lt).trans (hY.c 3 rfl),(brq hb _ _ hX.lt).trans (hX.c 3 rfl),(brq hb _ _ hX.lt).trans (hX.c 8 rfl),(brq hb _ _ hY.lt).trans (hY.c 8 rfl),hb⟩
theorem cmp_is (x y:Ck)(R:Int)(hR:cmpC x y=R)(W:World):
 Calls Tryz.prog 87 #[ckA x,ckA y] W fun e W'=>e = .returned (.int .i64 R)/\Below W.heap.size W W':=by
 obtain ⟨R1,h1⟩:∃ R1,cmpI y.p.size x.p.size=R1:=⟨_,rfl⟩
 obtain ⟨R2,h2⟩:∃ R2,cmpI x.cr y.cr=R2:=⟨_,rfl⟩
 have hO:orI R1 R2=R:=by rw [<-h1,<-h2];exact hR
 have C1:=Lib.hid (fun w=>compare_any y.p.size x.p.size R1 h1 w)
 have C2:=Lib.hid (fun w=>compare_any x.cr y.cr R2 h2 w)
 have CO:=Lib.hid (fun b w h0 h1=>or_any R1 R2 b w h0 h1 R hO)
 have hb0:Below W.heap.size W ((W.alloc (.cells (ckL x).toArray 88)).alloc (.cells (ckL y).toArray 88)):=((Below.refl _ W).alloc lr _).alloc (by simp) _
 have X0:=(AtL.new W (ckL x) 88).alloc (.cells (ckL y).toArray 88)
 have Y0:=AtL.new (W.alloc (.cells (ckL x).toArray 88)) (ckL y) 88
 rw [show (W.alloc (.cells (ckL x).toArray 88)).heap.size=W.heap.size+1 by simp] at Y0
 clear hR h1 h2 hO
 go_enter Tryz.func87,Tryz.ntmps87
 go_wp2_with fail
 obtain ⟨w1,hw1⟩:∃ w1:World,(W.alloc (.cells (ckL x).toArray 88)).alloc (.cells (ckL y).toArray 88)=w1:=⟨_,rfl⟩
 obtain ⟨Y,hY⟩:∃ Y,W.heap.size+1=Y:=⟨_,rfl⟩
 obtain ⟨X,hX⟩:∃ X,W.heap.size=X:=⟨_,rfl⟩
 rw [hw1] at hb0 X0 Y0
 rw [hY] at Y0
 rw [hX] at X0
 rw [hw1,hY,hX]
 have HX:=Lib.hid hX
 clear hw1 hY hX
 have S1:=q4_mk X0 Y0 (Below.refl _ w1)
 go_region_held3 (fun w'=>w'.cell? ⟨Y,3,none⟩=some (.string y.p)/\w'.cell? ⟨X,3,none⟩=some (.string x.p)/\w'.cell? ⟨X,8,none⟩=some (.int .i64 x.cr)/\w'.cell? ⟨Y,8,none⟩=some (.int .i64 y.cr)/\Below w1.heap.size w1 w') (first | exact q4_mk X0 Y0 (Below.refl _ w1).drew | exact q4_mk X0 Y0 ((Below.refl _ w1).drew.alloc lr _) | exact q4_mk X0 Y0 (((Below.refl _ w1).drew.alloc lr _).drew) | go_keep)
  (first
    | (go_at_call 89;first | (with_reducible refine (C1.out _).mono ?_;rintro x w2 ⟨rfl,rfl⟩) | (with_reducible refine (C2.out _).mono ?_;rintro x w2 ⟨rfl,rfl⟩))
    | (go_at_call 88;with_reducible refine (CO.out _ _ (by simp) (by simp)).mono ?_;rintro x w3 ⟨rfl,rfl⟩))
 go_wp2_with fail
 go_ret
 exact ⟨rfl,hb0.trans (((Below.refl _ w1).alloc lr _).drew.mono hb0.size)⟩
def RowC (W:World)(B g n cap:Nat)(d:Array Ck):Prop:=d.size=n/\W.ownsRow B 88 9 (.slice (some ⟨g,0,none⟩) n cap) n (cellsK ckL d.toList)
theorem RowC.size {W:World}{B g n cap:Nat}{d:Array Ck}(h:RowC W B g n cap d):d.size=n:=h.1
theorem RowC.lt {W:World}{B g n cap:Nat}{d:Array Ck}(h:RowC W B g n cap d):g<W.heap.size:=by
 rcases h.2.2 with ⟨h2,_⟩ | ⟨g',cap',cur,hv,hg,hh,hc,hm,hs,ht⟩
 ·cases h2
 ·injection hv with e1 e2 e3
  injection e1 with e1
  injection e1 with e1
  subst e1
  exact (Array.getElem?_eq_some_iff.1 hh).1
theorem RowC.c {W:World}{B g n cap:Nat}{d:Array Ck}(h:RowC W B g n cap d)(i:Nat)(hi:i<n)(j:Nat){u:Value}(hu:(ckL d[i]!)[j]? = some u):W.cell? ⟨g,i * 9+j,none⟩=some u:=by
 obtain ⟨h1,h2⟩:=h
 have hi2:i<d.toList.length:=by rw [Array.length_toList];omega
 obtain ⟨a,cap',hv,hc,hm,ha⟩:=own_reads h2
 injection hv with e1 e2 e3
 rcases ha with ⟨rfl,h3⟩ | ⟨g',rfl,hg,hgw,hcell⟩
 ·omega
 ·injection e1 with e1
  injection e1 with e1
  subst e1
  refine hcell _ _ (cellsK_get ckL_len d.toList i hi2 j u ?_)
  rw [Array.getElem_toList]
  rw [getElem!_pos d i (by omega)] at hu
  exact hu
theorem RowC.f {W:World}{B g n cap:Nat}{d:Array Ck}(h:RowC W B g n cap d)(j:Nat):W.frozen? ⟨g,j,none⟩=false:=own_free h.2 j
theorem RowC.next {W W':World}{B g n cap:Nat}{d:Array Ck}(h:RowC W B g n cap d)(hb:Below W.heap.size W W'):RowC W' B g n cap d:=⟨h.1,own_below h.2 hb lr⟩
theorem RowC.put {W:World}{B g n cap:Nat}{d:Array Ck}(h:RowC W B g n cap d)(i:Nat)(hi:i<n)(c:Ck):RowC (put9 W g (i * 9) c) B g n cap (d.setIfInBounds i c):=by
 obtain ⟨h1,h2⟩:=h
 subst h1
 have h3:W.ownsRow B 88 9 (.slice (some ⟨g,0,none⟩) d.toList.length cap) d.toList.length (cellsK ckL d.toList):=h2
 have h4:=own_put9 h3 i (by rw [Array.length_toList];exact hi) c
 refine ⟨by simp,?_⟩
 rw [Array.toList_setIfInBounds]
 exact h4
theorem RowC.swap {W:World}{B g n cap:Nat}{d:Array Ck}(h:RowC W B g n cap d)(i j:Nat)(hi:i<n)(hj:j<n):RowC (put9 (put9 W g (i * 9) d[j]!) g (j * 9) d[i]!) B g n cap (swp d i j):=(h.put i hi d[j]!).put j hj d[i]!
theorem BelowBut.put9 {B b:Nat}{W w:World}(h:BelowBut B b W w)(o:Nat)(c:Ck):BelowBut B b W (put9 w b o c):=
 ((((((((h.setCell ⟨b,o,none⟩ (Or.inl rfl) _).setCell ⟨b,o+1,none⟩ (Or.inl rfl) _).setCell ⟨b,o+2,none⟩ (Or.inl rfl) _).setCell ⟨b,o+3,none⟩ (Or.inl rfl) _).setCell ⟨b,o+4,none⟩ (Or.inl rfl) _).setCell ⟨b,o+5,none⟩ (Or.inl rfl) _).setCell ⟨b,o+6,none⟩ (Or.inl rfl) _).setCell ⟨b,o+7,none⟩ (Or.inl rfl) _).setCell ⟨b,o+8,none⟩ (Or.inl rfl) _
def S18 (g o t:Nat)(x y:Ck)(W w':World):Prop:=w'.cell? ⟨g,o * 9,none⟩=some (.string x.n)/\w'.cell? ⟨g,o * 9+1,none⟩=some (.string x.v)/\w'.cell? ⟨g,o * 9+2,none⟩=some (.string x.d)/\w'.cell? ⟨g,o * 9+3,none⟩=some (.string x.p)/\w'.cell? ⟨g,o * 9+4,none⟩=some (.bool x.ho)/\w'.cell? ⟨g,o * 9+5,none⟩=some (.bool x.se)/\w'.cell? ⟨g,o * 9+6,none⟩=some (.bool x.hi)/\w'.cell? ⟨g,o * 9+7,none⟩=some (.int .i64 x.ex)/\w'.cell? ⟨g,o * 9+8,none⟩=some (.int .i64 x.cr)/\w'.cell? ⟨g,t * 9,none⟩=some (.string y.n)/\w'.cell? ⟨g,t * 9+1,none⟩=some (.string y.v)/\w'.cell? ⟨g,t * 9+2,none⟩=some (.string y.d)/\w'.cell? ⟨g,t * 9+3,none⟩=some (.string y.p)/\w'.cell? ⟨g,t * 9+4,none⟩=some (.bool y.ho)/\w'.cell? ⟨g,t * 9+5,none⟩=some (.bool y.se)/\w'.cell? ⟨g,t * 9+6,none⟩=some (.bool y.hi)/\w'.cell? ⟨g,t * 9+7,none⟩=some (.int .i64 y.ex)/\w'.cell? ⟨g,t * 9+8,none⟩=some (.int .i64 y.cr)/\Below W.heap.size W w'
theorem s18_mk {g o t:Nat}{x y:Ck}{W w':World}(hg:g<W.heap.size)(hx:∀ q u,(ckL x)[q]? = some u->W.cell? ⟨g,o * 9+q,none⟩=some u)(hy:∀ q u,(ckL y)[q]? = some u->W.cell? ⟨g,t * 9+q,none⟩=some u)(hb:Below W.heap.size W w'):S18 g o t x y W w':=by
 have kx:=fun q u hu=>(brq hb g (o * 9+q) hg).trans (hx q u hu)
 have ky:=fun q u hu=>(brq hb g (t * 9+q) hg).trans (hy q u hu)
 exact ⟨kx 0 _ rfl,kx 1 _ rfl,kx 2 _ rfl,kx 3 _ rfl,kx 4 _ rfl,kx 5 _ rfl,kx 6 _ rfl,kx 7 _ rfl,kx 8 _ rfl,ky 0 _ rfl,ky 1 _ rfl,ky 2 _ rfl,ky 3 _ rfl,ky 4 _ rfl,ky 5 _ rfl,ky 6 _ rfl,ky 7 _ rfl,ky 8 _ rfl,hb⟩
theorem ins_any (B g n cap a b:Nat)(d:Array Ck)(W:World)(h:RowC W B g n cap d)(hab:a<=b)(hb:b<=n)(hn:n<=1000):
 Calls Tryz.prog 201 #[.slice (some ⟨g,0,none⟩) n cap,.int .i64 a,.int .i64 b,.func (.func 87) #[] #[]] W fun e W'=>e = .returned (.tuple #[])/\RowC W' B g n cap (insertionSort ltC d a b)/\BelowBut W.heap.size g W W':=by
 have CM:=Lib.hid (fun (x y:Ck) (R:Int) (hR:cmpC x y=R) (W:World)=>cmp_is x y R hR W)
 have hg:=h.lt
 have HR0:=Lib.hid h
 clear h
 go_enter Tryz.func201,Tryz.ntmps201
 go_wp2_with fail
 go_loopw [8] (fun vi wr=>∃ (i:Nat) (dk:Array Ck),vi = .int .i64 i/\a<i/\i<=b+1/\RowC wr B g n cap dk/\BelowBut W.heap.size g W wr/\insOuter ltC a b i dk=insOuter ltC a b (a+1) d) (fun vi _=>b+1 - (intOf vi).toNat)
 case atStart=>exact ⟨a+1,d,by go_num,by omega,by omega,HR0.out,BelowBut.refl _ _ _,rfl⟩
 case round=>
  obtain ⟨i,dk,rfl,hai,hib,hrk,hbk,hO⟩:=hrel
  have HO:=Lib.hid hO
  clear hO
  by_cases hlt:i<b
  ·have hlz:(i:Int)<(b:Int):=by omega
   go_wp2_with fail
   go_loopw [9] (fun vj wr2=>∃ (j:Nat) (dj:Array Ck),vj = .int .i64 j/\a<=j/\j<=i/\RowC wr2 B g n cap dj/\BelowBut W.heap.size g W wr2/\insInner ltC a j dj=insInner ltC a i dk) (fun vj _=>(intOf vj).toNat)
   case atStart=>exact ⟨i,dk,rfl,by omega,lr,hrk,hbk,rfl⟩
   case round=>
    obtain ⟨j,dj,rfl,haj,hji,hrj,hbj,hI⟩:=hrel
    have HI:=Lib.hid hI
    clear hI
    have out:(j<=a\/ltC dj[j]! dj[j - 1]! = false)->insOuter ltC a b (i+1) dj=insOuter ltC a b (a+1) d:=fun hs=>by
     rw [<-HO.out,insOuter_go _ _ _ _ _ hlt,<-HI.out,insInner_stop _ _ _ _ hs]
    have OUT:=Lib.hid out
    clear out
    by_cases hja:a<j
    ·have hjz:(a:Int)<(j:Int):=by omega
     obtain ⟨k,hk⟩:∃ k,j - 1=k:=⟨_,rfl⟩
     have hjn:j<n:=by omega
     have hkn:k<n:=by omega
     have hkj:k<j:=by omega
     obtain ⟨x,hx⟩:∃ x,dj[j]! = x:=⟨_,rfl⟩
     obtain ⟨y,hy⟩:∃ y,dj[k]! = y:=⟨_,rfl⟩
     have cx:∀ q u,(ckL x)[q]? = some u->wr.cell? ⟨g,j * 9+q,none⟩=some u:=fun q u hu=>hrj.c j hjn q (by rw [hx];exact hu)
     have cy:∀ q u,(ckL y)[q]? = some u->wr.cell? ⟨g,k * 9+q,none⟩=some u:=fun q u hu=>hrj.c k hkn q (by rw [hy];exact hu)
     have hgr:=hrj.lt
     obtain ⟨R,hRR⟩:∃ R,cmpC x y=R:=⟨_,rfl⟩
     have hL:ltC dj[j]! dj[j - 1]! = decide (R<0):=by rw [hk,hx,hy,<-hRR];rfl
     have CMR:=Lib.hid (fun W=>CM.out x y R hRR W)
     have HL:=Lib.hid hL
     have CX:=Lib.hid cx
     have CY:=Lib.hid cy
     have hjlz:(j:Int)<(n:Int):=by omega
     have hklz:(k:Int)<(n:Int):=by omega
     have hak:a<=k:=by omega
     have hs1:(j:Int) - 1=(k:Int):=by omega
     have hw1:IntKind.i64.wrap ((j:Int) - 1)=(k:Int):=by rw [IntWalk.i64_in _ (by omega)];omega
     have hw2:IntKind.i64.wrap (k:Int)=(k:Int):=by rw [IntWalk.i64_in _ (by omega)]
     have x0:=cx 0 _ rfl
     have x1:=cx 1 _ rfl
     have x2:=cx 2 _ rfl
     have x3:=cx 3 _ rfl
     have x4:=cx 4 _ rfl
     have x5:=cx 5 _ rfl
     have x6:=cx 6 _ rfl
     have x7:=cx 7 _ rfl
     have x8:=cx 8 _ rfl
     have y0:=cy 0 _ rfl
     have y1:=cy 1 _ rfl
     have y2:=cy 2 _ rfl
     have y3:=cy 3 _ rfl
     have y4:=cy 4 _ rfl
     have y5:=cy 5 _ rfl
     have y6:=cy 6 _ rfl
     have y7:=cy 7 _ rfl
     have y8:=cy 8 _ rfl
     simp only [Nat.add_zero] at x0 y0
     have HX:=Lib.hid hx
     have HY:=Lib.hid hy
     have HK:=Lib.hid hk
     clear hx hy hk hL hRR cx cy
     by_cases hneg:R<0
     ·go_wp2_with fail
      go_region_held3 (fun w'=>w'.cell? ⟨g,j * 9,none⟩=some (.string x.n)/\w'.cell? ⟨g,j * 9+1,none⟩=some (.string x.v)/\w'.cell? ⟨g,j * 9+2,none⟩=some (.string x.d)/\w'.cell? ⟨g,j * 9+3,none⟩=some (.string x.p)/\w'.cell? ⟨g,j * 9+4,none⟩=some (.bool x.ho)/\w'.cell? ⟨g,j * 9+5,none⟩=some (.bool x.se)/\w'.cell? ⟨g,j * 9+6,none⟩=some (.bool x.hi)/\w'.cell? ⟨g,j * 9+7,none⟩=some (.int .i64 x.ex)/\w'.cell? ⟨g,j * 9+8,none⟩=some (.int .i64 x.cr)/\w'.cell? ⟨g,k * 9,none⟩=some (.string y.n)/\w'.cell? ⟨g,k * 9+1,none⟩=some (.string y.v)/\w'.cell? ⟨g,k * 9+2,none⟩=some (.string y.d)/\w'.cell? ⟨g,k * 9+3,none⟩=some (.string y.p)/\w'.cell? ⟨g,k * 9+4,none⟩=some (.bool y.ho)/\w'.cell? ⟨g,k * 9+5,none⟩=some (.bool y.se)/\w'.cell? ⟨g,k * 9+6,none⟩=some (.bool y.hi)/\w'.cell? ⟨g,k * 9+7,none⟩=some (.int .i64 y.ex)/\w'.cell? ⟨g,k * 9+8,none⟩=some (.int .i64 y.cr)/\Below wr.heap.size wr w') (first | exact s18_mk hgr CX.out CY.out (Below.refl _ wr).drew | exact s18_mk hgr CX.out CY.out ((Below.refl _ wr).drew.trans hb1) | go_keep)
       (first | (go_at_call 87;go_loud (with_reducible refine (CMR.out _).mono ?_);rintro e w1 ⟨rfl,hb1⟩))
      have hB1:=(Below.refl _ wr).drew.trans hb1
      have hr1:=hrj.next hB1
      have hbb1:=hbj.below hB1 hbj.size
      clear x0 x1 x2 x3 x4 x5 x6 x7 x8 y0 y1 y2 y3 y4 y5 y6 y7 y8
      have cx:∀ q u,(ckL x)[q]? = some u->w1.cell? ⟨g,j * 9+q,none⟩=some u:=fun q u hu=>(brq hB1 _ _ hgr).trans (CX.out q u hu)
      have cy:∀ q u,(ckL y)[q]? = some u->w1.cell? ⟨g,k * 9+q,none⟩=some u:=fun q u hu=>(brq hB1 _ _ hgr).trans (CY.out q u hu)
      have x0:=cx 0 _ rfl
      have x1:=cx 1 _ rfl
      have x2:=cx 2 _ rfl
      have x3:=cx 3 _ rfl
      have x4:=cx 4 _ rfl
      have x5:=cx 5 _ rfl
      have x6:=cx 6 _ rfl
      have x7:=cx 7 _ rfl
      have x8:=cx 8 _ rfl
      have y0:=cy 0 _ rfl
      have y1:=cy 1 _ rfl
      have y2:=cy 2 _ rfl
      have y3:=cy 3 _ rfl
      have y4:=cy 4 _ rfl
      have y5:=cy 5 _ rfl
      have y6:=cy 6 _ rfl
      have y7:=cy 7 _ rfl
      have y8:=cy 8 _ rfl
      simp only [Nat.add_zero] at x0 y0
      have fx0:=hr1.f (j * 9)
      have fx1:=hr1.f (j * 9+1)
      have fx2:=hr1.f (j * 9+2)
      have fx3:=hr1.f (j * 9+3)
      have fx4:=hr1.f (j * 9+4)
      have fx5:=hr1.f (j * 9+5)
      have fx6:=hr1.f (j * 9+6)
      have fx7:=hr1.f (j * 9+7)
      have fx8:=hr1.f (j * 9+8)
      have fy0:=hr1.f (k * 9)
      have fy1:=hr1.f (k * 9+1)
      have fy2:=hr1.f (k * 9+2)
      have fy3:=hr1.f (k * 9+3)
      have fy4:=hr1.f (k * 9+4)
      have fy5:=hr1.f (k * 9+5)
      have fy6:=hr1.f (k * 9+6)
      have fy7:=hr1.f (k * 9+7)
      have fy8:=hr1.f (k * 9+8)
      clear cx cy
      have hsw:=hr1.swap j k hjn hkn
      rw [HX.out,HY.out] at hsw
      have hbs:=(hbb1.put9 (j * 9) y).put9 (k * 9) x
      have HSW:=Lib.hid hsw
      have HBS:=Lib.hid hbs
      clear hsw hbs
      go_wp2_with fail
      go_region
      all_goals
       clear hw1 hw2
       go_wp2_with fail
       go_roundw
       case rel=>exact ⟨k,swp dj j k,by first | rfl | (congr 1;omega),hak,by omega,HSW.out.next (Below.refl _ _).drew,HBS.out.below (Below.refl _ _).drew HBS.out.size,by rw [<-HI.out,insInner_go ltC a j dj hja (by rw [HL.out];exact decide_eq_true hneg),HK.out]⟩
       case measure=>simp [intOf];omega
     ·have hneg':decide (R<0)=false:=decide_eq_false hneg
      go_wp2_with fail
      go_region_held3 (fun w'=>w'.cell? ⟨g,j * 9,none⟩=some (.string x.n)/\w'.cell? ⟨g,j * 9+1,none⟩=some (.string x.v)/\w'.cell? ⟨g,j * 9+2,none⟩=some (.string x.d)/\w'.cell? ⟨g,j * 9+3,none⟩=some (.string x.p)/\w'.cell? ⟨g,j * 9+4,none⟩=some (.bool x.ho)/\w'.cell? ⟨g,j * 9+5,none⟩=some (.bool x.se)/\w'.cell? ⟨g,j * 9+6,none⟩=some (.bool x.hi)/\w'.cell? ⟨g,j * 9+7,none⟩=some (.int .i64 x.ex)/\w'.cell? ⟨g,j * 9+8,none⟩=some (.int .i64 x.cr)/\w'.cell? ⟨g,k * 9,none⟩=some (.string y.n)/\w'.cell? ⟨g,k * 9+1,none⟩=some (.string y.v)/\w'.cell? ⟨g,k * 9+2,none⟩=some (.string y.d)/\w'.cell? ⟨g,k * 9+3,none⟩=some (.string y.p)/\w'.cell? ⟨g,k * 9+4,none⟩=some (.bool y.ho)/\w'.cell? ⟨g,k * 9+5,none⟩=some (.bool y.se)/\w'.cell? ⟨g,k * 9+6,none⟩=some (.bool y.hi)/\w'.cell? ⟨g,k * 9+7,none⟩=some (.int .i64 y.ex)/\w'.cell? ⟨g,k * 9+8,none⟩=some (.int .i64 y.cr)/\Below wr.heap.size wr w') (first | exact s18_mk hgr CX.out CY.out (Below.refl _ wr).drew | exact s18_mk hgr CX.out CY.out ((Below.refl _ wr).drew.trans hb1) | go_keep)
       (first | (go_at_call 87;go_loud (with_reducible refine (CMR.out _).mono ?_);rintro e w1 ⟨rfl,hb1⟩))
      have hB1:=(Below.refl _ wr).drew.trans hb1
      clear hw1 hw2
      go_wp2_with fail
      go_roundw
      case rel=>exact ⟨i+1,dj,by go_num,by omega,by omega,hrj.next hB1,hbj.below hB1 hbj.size,OUT.out (Or.inr (by rw [HL.out];exact hneg'))⟩
      case measure=>simp [intOf];omega
    ·have hd:decide ((a:Int)<(j:Int))=false:=decide_eq_false (by omega)
     go_wp2_with fail
     go_quiet (fail)
     go_wp2_with fail
     go_roundw
     case rel=>exact ⟨i+1,dj,by go_num,by omega,by omega,hrj.next (below_drewN (Below.refl _ wr) _),hbj.below (below_drewN (Below.refl _ wr) _) hbj.size,OUT.out (Or.inl (by omega))⟩
     case measure=>simp [intOf];omega
  ·have hd:decide ((i:Int)<(b:Int))=false:=decide_eq_false (by omega)
   go_wp2_with fail
   go_end0
   exact ⟨rfl,by unfold insertionSort;rw [<-HO.out,insOuter_stop _ _ _ _ _ hlt];exact hrk,hbk⟩
end Go.Proofs.YtjdhaacmlpegoaaGreatDoor
