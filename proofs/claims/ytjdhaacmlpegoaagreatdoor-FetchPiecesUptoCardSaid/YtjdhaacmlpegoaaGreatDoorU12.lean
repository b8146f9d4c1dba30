/- Part 12 of what the proof needs: SPA SP SQ SW SX SY SZ. -/
import Derived.Test.YtjdhaacmlpegoaaGreatDoorU11
set_option maxRecDepth 20000
set_option maxHeartbeats 16000000
set_option linter.unusedSimpArgs false
set_option linter.unusedVariables false
namespace Go.Proofs.YtjdhaacmlpegoaaGreatDoor
open Go.RowKit
def cmpI (p q:Int):Int:=if p<q then -1 else if q<p then 1 else 0
def orI (p q:Int):Int:=if p=0 then q else p
theorem isnan_any (p:Int)(w:World):Calls Tryz.prog 137 #[.int .i64 p] w fun e w'=>e = .returned (.bool false)/\w=w':=by go_enter Tryz.func137,Tryz.ntmps137;go_wp2_with fail;go_ret;exact ⟨rfl,rfl⟩
theorem compare_any (p q:Int)(R:Int)(hR:cmpI p q=R)(w:World):Calls Tryz.prog 89 #[.int .i64 p,.int .i64 q] w fun e w'=>e = .returned (.int .i64 R)/\w=w':=by
 have CN:=Kb (fun p w=>isnan_any p w);unfold cmpI at hR;by_cases h1:p<q
 ·rw [Kf h1] at hR;have HR:=Kb hR;clear hR;go_enter Tryz.func89,Tryz.ntmps89;go_wp2_with (with_reducible refine (CN.out _ _).mono ?_;rintro x w1 ⟨rfl,rfl⟩)
  go_ret;exact ⟨ret_int HR.out,rfl⟩
 ·rw [Ke h1] at hR;by_cases h2:q<p
  ·rw [Kf h2] at hR;have HR:=Kb hR;clear hR;go_enter Tryz.func89,Tryz.ntmps89;go_wp2_with (with_reducible refine (CN.out _ _).mono ?_;rintro x w1 ⟨rfl,rfl⟩)
   go_ret;exact ⟨ret_int HR.out,rfl⟩
  ·rw [Ke h2] at hR;have HR:=Kb hR;clear hR;go_enter Tryz.func89,Tryz.ntmps89;go_wp2_with (with_reducible refine (CN.out _ _).mono ?_;rintro x w1 ⟨rfl,rfl⟩)
   go_ret;exact ⟨ret_int HR.out,rfl⟩
theorem or_any (p q:Int)(b:Nat)(w:World)(h0:w.cell? ⟨b,0,none⟩=some (.int .i64 p))(h1:w.cell? ⟨b,1,none⟩=some (.int .i64 q))(R:Int)(hR:orI p q=R):
 Calls Tryz.prog 88 #[.slice (some ⟨b,0,none⟩) 2 2] w fun e w'=>e = .returned (.int .i64 R)/\w=w':=by
 unfold orI at hR;by_cases hp:p=0
 ·subst hp;rw [Kf rfl] at hR;by_cases hq:q=0
  ·subst hq hR;go_enter Tryz.func88,Tryz.ntmps88;go_wp2_with fail;refine wp_loop_rounds 3 ?_;rw [rounds_succ];go_wp2_with fail;rw [rounds_succ];go_wp2_with fail;rw [rounds_succ];go_wp2_with fail;go_ret;exact ⟨rfl,rfl⟩
  ·have hq1:((q:Int) != 0)=true:=bne_iff_ne.2 hq;subst hR;clear hq;go_enter Tryz.func88,Tryz.ntmps88;go_wp2_with fail;refine wp_loop_rounds 2 ?_;rw [rounds_succ];go_wp2_with fail;rw [rounds_succ];go_wp2_with fail;go_ret;exact ⟨rfl,rfl⟩
 ·rw [Ke hp] at hR;have hp1:((p:Int) != 0)=true:=bne_iff_ne.2 hp;subst hR;clear hp;go_enter Tryz.func88,Tryz.ntmps88;go_wp2_with fail;refine wp_loop_rounds 1 ?_;rw [rounds_succ];go_wp2_with fail;go_ret;exact ⟨rfl,rfl⟩
end Go.Proofs.YtjdhaacmlpegoaaGreatDoor
namespace Go.Proofs.YtjdhaacmlpegoaaGreatDoor
open Go.RowKit Go.Sort
def cmpC (x y:Ck):Int:=orI (cmpI y.p.size x.p.size) (cmpI x.cr y.cr)
def ltC (x y:Ck):Bool:=decide (cmpC x y<0)
theorem ltC_iff (x y:Ck):ltC x y=true ↔ y.p.size<x.p.size\/(y.p.size=x.p.size/\x.cr<y.cr):=by
 unfold ltC cmpC orI cmpI;rw [Jb];by_cases h1:(y.p.size:Int)<x.p.size
 ·rw [Kf h1,Ke (by decide)];exact ⟨fun _=>.inl (by omega),fun _=>by decide⟩
 ·by_cases h2:(x.p.size:Int)<y.p.size
  ·rw [Ke h1,Kf h2,Ke (by decide)];exact ⟨fun h=>absurd h (by decide),fun h=>by omega⟩
  ·rw [Ke h1,Ke h2,Kf rfl];by_cases h3:x.cr<y.cr
   ·rw [Kf h3];exact ⟨fun _=>.inr ⟨by omega,h3⟩,fun _=>by decide⟩
   ·rw [Ke h3];by_cases h4:y.cr<x.cr
    ·rw [Kf h4];exact ⟨fun h=>absurd h (by decide),fun h=>by omega⟩
    ·rw [Ke h4];exact ⟨fun h=>absurd h (by decide),fun h=>by omega⟩
theorem ltC_not (x y:Ck):ltC x y=false ↔ ¬ (y.p.size<x.p.size\/(y.p.size=x.p.size/\x.cr<y.cr)):=by rw [<-ltC_iff,Bool.not_eq_true]
theorem swoC:SWO ltC where
 irrefl x:=by rw [ltC_not];omega
 trans x y z h1 h2:=by rw [ltC_iff] at *;omega
 ntrans x y z h1 h2:=by rw [ltC_not] at *;omega
instance ckInhabited:Inhabited Ck:=⟨ck0⟩
theorem brq {B:Nat}{w0 w1:World}(hb:Below B w0 w1):∀ b o,b<B->w1.cell? ⟨b,o,none⟩=w0.cell? ⟨b,o,none⟩:=fun b o h=>hb.cell (p:=⟨b,o,none⟩) h
def Q4 (X Y:Nat)(x y:Ck)(W w':World):Prop:=w'.cell? ⟨Y,3,none⟩=some (.string y.p)/\w'.cell? ⟨X,3,none⟩=some (.string x.p)/\w'.cell? ⟨X,8,none⟩=some (.int .i64 x.cr)/\w'.cell? ⟨Y,8,none⟩=some (.int .i64 y.cr)/\Below W.heap.size W w'
theorem q4_mk {X Y:Nat}{x y:Ck}{W w':World}(hX:AtL W X (ckL x))(hY:AtL W Y (ckL y))(hb:Below W.heap.size W w'):Q4 X Y x y W w':=
 ⟨(brq hb _ _ hY.lt).trans (hY.c 3 rfl),(brq hb _ _ hX.lt).trans (hX.c 3 rfl),(brq hb _ _ hX.lt).trans (hX.c 8 rfl),(brq hb _ _ hY.lt).trans (hY.c 8 rfl),hb⟩
theorem cmp_is (x y:Ck)(R:Int)(hR:cmpC x y=R)(W:World):
 Calls Tryz.prog 87 #[ckA x,ckA y] W fun e W'=>e = .returned (.int .i64 R)/\Below W.heap.size W W':=by
 obtain ⟨R1,h1⟩:=Ka (cmpI y.p.size x.p.size);obtain ⟨R2,h2⟩:=Ka (cmpI x.cr y.cr);have hO:orI R1 R2=R:=by rw [<-h1,<-h2];exact hR
 have C1:=Kb (fun w=>compare_any y.p.size x.p.size R1 h1 w);have C2:=Kb (fun w=>compare_any x.cr y.cr R2 h2 w);have CO:=Kb (fun b w h0 h1=>or_any R1 R2 b w h0 h1 R hO);have hb0:Below W.heap.size W ((W.alloc (.cells (ckL x).toArray 88)).alloc (.cells (ckL y).toArray 88)):=((Kc W).alloc lr _).alloc (by simp) _;have X0:=(AtL.new W (ckL x) 88).alloc (.cells (ckL y).toArray 88);have Y0:=AtL.new (W.alloc (.cells (ckL x).toArray 88)) (ckL y) 88;rw [show (W.alloc (.cells (ckL x).toArray 88)).heap.size=W.heap.size+1 by simp] at Y0;clear hR h1 h2 hO;go_enter Tryz.func87,Tryz.ntmps87;go_wp2_with fail;obtain ⟨w1,hw1⟩:∃ w1:World,(W.alloc (.cells (ckL x).toArray 88)).alloc (.cells (ckL y).toArray 88)=w1:=⟨_,rfl⟩
 obtain ⟨Y,hY⟩:=Ka (W.heap.size+1);obtain ⟨X,hX⟩:=Ka W.heap.size;rw [hw1] at hb0 X0 Y0;rw [hY] at Y0;rw [hX] at X0;rw [hw1,hY,hX];have HX:=Kb hX;clear hw1 hY hX;have S1:=q4_mk X0 Y0 (Kc w1)
 go_region_held3 (fun w'=>w'.cell? ⟨Y,3,none⟩=some (.string y.p)/\w'.cell? ⟨X,3,none⟩=some (.string x.p)/\w'.cell? ⟨X,8,none⟩=some (.int .i64 x.cr)/\w'.cell? ⟨Y,8,none⟩=some (.int .i64 y.cr)/\Below w1.heap.size w1 w') (first | exact q4_mk X0 Y0 (Kc w1).drew | exact q4_mk X0 Y0 ((Kc w1).drew.alloc lr _) | exact q4_mk X0 Y0 (((Kc w1).drew.alloc lr _).drew) | go_keep)
  (first
    | (go_at_call 89;first | (with_reducible refine (C1.out _).mono ?_;rintro x w2 ⟨rfl,rfl⟩) | (with_reducible refine (C2.out _).mono ?_;rintro x w2 ⟨rfl,rfl⟩))
    | (with_reducible refine (CO.out _ _ (by simp) (by simp)).mono ?_;rintro x w3 ⟨rfl,rfl⟩))
 go_wp2_with fail;go_ret;exact ⟨rfl,hb0.trans (((Kc w1).alloc lr _).drew.mono hb0.size)⟩
def RowC (W:World)(B g n cap:Nat)(d:Array Ck):Prop:=d.size=n/\W.ownsRow B 88 9 (.slice (some ⟨g,0,none⟩) n cap) n (cellsK ckL d.toList)
theorem RowC.size {W:World}{B g n cap:Nat}{d:Array Ck}(h:RowC W B g n cap d):d.size=n:=h.1
theorem RowC.lt {W:World}{B g n cap:Nat}{d:Array Ck}(h:RowC W B g n cap d):g<W.heap.size:=by
 rcases h.2.2 with ⟨h2,_⟩ | ⟨g',cap',cur,hv,hg,hh,hc,hm,hs,ht⟩
 ·cases h2
 ·injection hv with e1 e2 e3;injection e1 with e1;injection e1 with e1;subst e1;exact (Xq.1 hh).1
theorem RowC.c {W:World}{B g n cap:Nat}{d:Array Ck}(h:RowC W B g n cap d)(i:Nat)(hi:i<n)(j:Nat){u:Value}(hu:(ckL d[i]!)[j]? = some u):W.cell? ⟨g,i * 9+j,none⟩=some u:=by
 obtain ⟨h1,h2⟩:=h;have hi2:i<d.toList.length:=by rw [Array.length_toList];omega
 obtain ⟨a,cap',hv,hc,hm,ha⟩:=own_reads h2;injection hv with e1 e2 e3;rcases ha with ⟨rfl,h3⟩ | ⟨g',rfl,hg,hgw,hcell⟩
 ·omega
 ·injection e1 with e1;injection e1 with e1;subst e1;refine hcell _ _ (cellsK_get ckL_len d.toList i hi2 j u ?_);rw [Array.getElem_toList];rw [getElem!_pos d i (by omega)] at hu;exact hu
theorem RowC.f {W:World}{B g n cap:Nat}{d:Array Ck}(h:RowC W B g n cap d)(j:Nat):W.frozen? ⟨g,j,none⟩=false:=own_free h.2 j
theorem RowC.next {W W':World}{B g n cap:Nat}{d:Array Ck}(h:RowC W B g n cap d)(hb:Below W.heap.size W W'):RowC W' B g n cap d:=⟨h.1,own_below h.2 hb lr⟩
theorem RowC.put {W:World}{B g n cap:Nat}{d:Array Ck}(h:RowC W B g n cap d)(i:Nat)(hi:i<n)(c:Ck):RowC (put9 W g (i * 9) c) B g n cap (d.setIfInBounds i c):=by obtain ⟨h1,h2⟩:=h;subst h1;have h3:W.ownsRow B 88 9 (.slice (some ⟨g,0,none⟩) d.toList.length cap) d.toList.length (cellsK ckL d.toList):=h2;have h4:=own_put9 h3 i (by rw [Array.length_toList];exact hi) c;refine ⟨by simp,?_⟩;rw [Array.toList_setIfInBounds];exact h4
theorem RowC.swap {W:World}{B g n cap:Nat}{d:Array Ck}(h:RowC W B g n cap d)(i j:Nat)(hi:i<n)(hj:j<n):RowC (put9 (put9 W g (i * 9) d[j]!) g (j * 9) d[i]!) B g n cap (swp d i j):=(h.put i hi d[j]!).put j hj d[i]!
theorem BelowBut.put9 {B b:Nat}{W w:World}(h:BelowBut B b W w)(o:Nat)(c:Ck):BelowBut B b W (put9 w b o c):=
 ((((((((h.setCell ⟨b,o,none⟩ (Or.inl rfl) _).setCell ⟨b,o+1,none⟩ (Or.inl rfl) _).setCell ⟨b,o+2,none⟩ (Or.inl rfl) _).setCell ⟨b,o+3,none⟩ (Or.inl rfl) _).setCell ⟨b,o+4,none⟩ (Or.inl rfl) _).setCell ⟨b,o+5,none⟩ (Or.inl rfl) _).setCell ⟨b,o+6,none⟩ (Or.inl rfl) _).setCell ⟨b,o+7,none⟩ (Or.inl rfl) _).setCell ⟨b,o+8,none⟩ (Or.inl rfl) _
def S18 (g o t:Nat)(x y:Ck)(W w':World):Prop:=w'.cell? ⟨g,o * 9,none⟩=some (.string x.n)/\w'.cell? ⟨g,o * 9+1,none⟩=some (.string x.v)/\w'.cell? ⟨g,o * 9+2,none⟩=some (.string x.d)/\w'.cell? ⟨g,o * 9+3,none⟩=some (.string x.p)/\w'.cell? ⟨g,o * 9+4,none⟩=some (.bool x.ho)/\w'.cell? ⟨g,o * 9+5,none⟩=some (.bool x.se)/\w'.cell? ⟨g,o * 9+6,none⟩=some (.bool x.hi)/\w'.cell? ⟨g,o * 9+7,none⟩=some (.int .i64 x.ex)/\w'.cell? ⟨g,o * 9+8,none⟩=some (.int .i64 x.cr)/\w'.cell? ⟨g,t * 9,none⟩=some (.string y.n)/\w'.cell? ⟨g,t * 9+1,none⟩=some (.string y.v)/\w'.cell? ⟨g,t * 9+2,none⟩=some (.string y.d)/\w'.cell? ⟨g,t * 9+3,none⟩=some (.string y.p)/\w'.cell? ⟨g,t * 9+4,none⟩=some (.bool y.ho)/\w'.cell? ⟨g,t * 9+5,none⟩=some (.bool y.se)/\w'.cell? ⟨g,t * 9+6,none⟩=some (.bool y.hi)/\w'.cell? ⟨g,t * 9+7,none⟩=some (.int .i64 y.ex)/\w'.cell? ⟨g,t * 9+8,none⟩=some (.int .i64 y.cr)/\Below W.heap.size W w'
theorem s18_mk {g o t:Nat}{x y:Ck}{W w':World}(hg:g<W.heap.size)(hx:∀ q u,(ckL x)[q]? = some u->W.cell? ⟨g,o * 9+q,none⟩=some u)(hy:∀ q u,(ckL y)[q]? = some u->W.cell? ⟨g,t * 9+q,none⟩=some u)(hb:Below W.heap.size W w'):S18 g o t x y W w':=by have kx:=fun q u hu=>(brq hb g (o * 9+q) hg).trans (hx q u hu);have ky:=fun q u hu=>(brq hb g (t * 9+q) hg).trans (hy q u hu);exact ⟨kx 0 _ rfl,kx 1 _ rfl,kx 2 _ rfl,kx 3 _ rfl,kx 4 _ rfl,kx 5 _ rfl,kx 6 _ rfl,kx 7 _ rfl,kx 8 _ rfl,ky 0 _ rfl,ky 1 _ rfl,ky 2 _ rfl,ky 3 _ rfl,ky 4 _ rfl,ky 5 _ rfl,ky 6 _ rfl,ky 7 _ rfl,ky 8 _ rfl,hb⟩
theorem ins_any (B g n cap a b:Nat)(d:Array Ck)(W:World)(h:RowC W B g n cap d)(hab:a<=b)(hb:b<=n)(hn:n<=1000):
 Calls Tryz.prog 201 #[.slice (some ⟨g,0,none⟩) n cap,.int .i64 a,.int .i64 b,.func (.func 87) #[] #[]] W fun e W'=>e = .returned (.tuple #[])/\RowC W' B g n cap (insertionSort ltC d a b)/\BelowBut W.heap.size g W W':=by
 have CM:=Kb (fun (x y:Ck) (R:Int) (hR:cmpC x y=R) (W:World)=>cmp_is x y R hR W);have hg:=h.lt;have HR0:=Kb h;clear h;go_enter Tryz.func201,Tryz.ntmps201;go_wp2_with fail;go_loopw [8] (fun vi wr=>∃ (i:Nat) (dk:Array Ck),vi = .int .i64 i/\a<i/\i<=b+1/\RowC wr B g n cap dk/\BelowBut W.heap.size g W wr/\insOuter ltC a b i dk=insOuter ltC a b (a+1) d) (fun vi _=>b+1 - (intOf vi).toNat);case atStart=>exact ⟨a+1,d,by go_num,by omega,by omega,HR0.out,BelowBut.refl _ _ _,rfl⟩
 case round=>
  obtain ⟨i,dk,rfl,hai,hib,hrk,hbk,hO⟩:=hrel;have HO:=Kb hO;clear hO;by_cases hlt:i<b
  ·have hlz:(i:Int)<(b:Int):=by omega
   go_wp2_with fail;go_loopw [9] (fun vj wr2=>∃ (j:Nat) (dj:Array Ck),vj = .int .i64 j/\a<=j/\j<=i/\RowC wr2 B g n cap dj/\BelowBut W.heap.size g W wr2/\insInner ltC a j dj=insInner ltC a i dk) (fun vj _=>(intOf vj).toNat);case atStart=>exact ⟨i,dk,rfl,by omega,lr,hrk,hbk,rfl⟩
   case round=>
    obtain ⟨j,dj,rfl,haj,hji,hrj,hbj,hI⟩:=hrel;have HI:=Kb hI;clear hI;have out:(j<=a\/ltC dj[j]! dj[j - 1]! = false)->insOuter ltC a b (i+1) dj=insOuter ltC a b (a+1) d:=fun hs=>by rw [<-HO.out,insOuter_go _ _ _ _ _ hlt,<-HI.out,insInner_stop _ _ _ _ hs]
    have OUT:=Kb out;clear out;by_cases hja:a<j
    ·have hjz:(a:Int)<(j:Int):=by omega
     obtain ⟨k,hk⟩:=Ka (j - 1);have hjn:j<n:=by omega
     have hkn:k<n:=by omega
     have hkj:k<j:=by omega
     obtain ⟨x,hx⟩:∃ x,dj[j]! = x:=⟨_,rfl⟩
     obtain ⟨y,hy⟩:∃ y,dj[k]! = y:=⟨_,rfl⟩
     have cx:∀ q u,(ckL x)[q]? = some u->wr.cell? ⟨g,j * 9+q,none⟩=some u:=fun q u hu=>hrj.c j hjn q (by rw [hx];exact hu);have cy:∀ q u,(ckL y)[q]? = some u->wr.cell? ⟨g,k * 9+q,none⟩=some u:=fun q u hu=>hrj.c k hkn q (by rw [hy];exact hu);have hgr:=hrj.lt;obtain ⟨R,hRR⟩:=Ka (cmpC x y);have hL:ltC dj[j]! dj[j - 1]! = decide (R<0):=by rw [hk,hx,hy,<-hRR];rfl
     have CMR:=Kb (fun W=>CM.out x y R hRR W);have HL:=Kb hL;have CX:=Kb cx;have CY:=Kb cy;have hjlz:(j:Int)<(n:Int):=by omega
     have hklz:(k:Int)<(n:Int):=by omega
     have hak:a<=k:=by omega
     have hs1:(j:Int) - 1=(k:Int):=by omega
     have hw1:IntKind.i64.wrap ((j:Int) - 1)=(k:Int):=by rw [IntWalk.i64_in _ (by omega)];omega
     have hw2:IntKind.i64.wrap (k:Int)=(k:Int):=by rw [IntWalk.i64_in _ (by omega)]
     have x0:=cx 0 _ rfl;have x1:=cx 1 _ rfl;have x2:=cx 2 _ rfl;have x3:=cx 3 _ rfl;have x4:=cx 4 _ rfl;have x5:=cx 5 _ rfl;have x6:=cx 6 _ rfl;have x7:=cx 7 _ rfl;have x8:=cx 8 _ rfl;have y0:=cy 0 _ rfl;have y1:=cy 1 _ rfl;have y2:=cy 2 _ rfl;have y3:=cy 3 _ rfl;have y4:=cy 4 _ rfl;have y5:=cy 5 _ rfl;have y6:=cy 6 _ rfl;have y7:=cy 7 _ rfl;have y8:=cy 8 _ rfl;simp only [Ku] at x0 y0;have HX:=Kb hx;have HY:=Kb hy;have HK:=Kb hk;clear hx hy hk hL hRR cx cy;by_cases hneg:R<0
     ·go_wp2_with fail
      go_region_held3 (fun w'=>w'.cell? ⟨g,j * 9,none⟩=some (.string x.n)/\w'.cell? ⟨g,j * 9+1,none⟩=some (.string x.v)/\w'.cell? ⟨g,j * 9+2,none⟩=some (.string x.d)/\w'.cell? ⟨g,j * 9+3,none⟩=some (.string x.p)/\w'.cell? ⟨g,j * 9+4,none⟩=some (.bool x.ho)/\w'.cell? ⟨g,j * 9+5,none⟩=some (.bool x.se)/\w'.cell? ⟨g,j * 9+6,none⟩=some (.bool x.hi)/\w'.cell? ⟨g,j * 9+7,none⟩=some (.int .i64 x.ex)/\w'.cell? ⟨g,j * 9+8,none⟩=some (.int .i64 x.cr)/\w'.cell? ⟨g,k * 9,none⟩=some (.string y.n)/\w'.cell? ⟨g,k * 9+1,none⟩=some (.string y.v)/\w'.cell? ⟨g,k * 9+2,none⟩=some (.string y.d)/\w'.cell? ⟨g,k * 9+3,none⟩=some (.string y.p)/\w'.cell? ⟨g,k * 9+4,none⟩=some (.bool y.ho)/\w'.cell? ⟨g,k * 9+5,none⟩=some (.bool y.se)/\w'.cell? ⟨g,k * 9+6,none⟩=some (.bool y.hi)/\w'.cell? ⟨g,k * 9+7,none⟩=some (.int .i64 y.ex)/\w'.cell? ⟨g,k * 9+8,none⟩=some (.int .i64 y.cr)/\Below wr.heap.size wr w') (first | exact s18_mk hgr CX.out CY.out (Kc wr).drew | exact s18_mk hgr CX.out CY.out ((Kc wr).drew.trans hb1) | go_keep)
       (first | (go_at_call 87;go_loud (with_reducible refine (CMR.out _).mono ?_);rintro e w1 ⟨rfl,hb1⟩))
      have hB1:=(Kc wr).drew.trans hb1;have hr1:=hrj.next hB1;have hbb1:=hbj.below hB1 hbj.size;clear x0 x1 x2 x3 x4 x5 x6 x7 x8 y0 y1 y2 y3 y4 y5 y6 y7 y8;have cx:∀ q u,(ckL x)[q]? = some u->w1.cell? ⟨g,j * 9+q,none⟩=some u:=fun q u hu=>(brq hB1 _ _ hgr).trans (CX.out q u hu);have cy:∀ q u,(ckL y)[q]? = some u->w1.cell? ⟨g,k * 9+q,none⟩=some u:=fun q u hu=>(brq hB1 _ _ hgr).trans (CY.out q u hu);have x0:=cx 0 _ rfl;have x1:=cx 1 _ rfl;have x2:=cx 2 _ rfl;have x3:=cx 3 _ rfl;have x4:=cx 4 _ rfl;have x5:=cx 5 _ rfl;have x6:=cx 6 _ rfl;have x7:=cx 7 _ rfl;have x8:=cx 8 _ rfl;have y0:=cy 0 _ rfl;have y1:=cy 1 _ rfl;have y2:=cy 2 _ rfl;have y3:=cy 3 _ rfl;have y4:=cy 4 _ rfl;have y5:=cy 5 _ rfl;have y6:=cy 6 _ rfl;have y7:=cy 7 _ rfl;have y8:=cy 8 _ rfl;simp only [Ku] at x0 y0;have fx0:=hr1.f (j * 9);have fx1:=hr1.f (j * 9+1);have fx2:=hr1.f (j * 9+2);have fx3:=hr1.f (j * 9+3);have fx4:=hr1.f (j * 9+4);have fx5:=hr1.f (j * 9+5);have fx6:=hr1.f (j * 9+6);have fx7:=hr1.f (j * 9+7);have fx8:=hr1.f (j * 9+8);have fy0:=hr1.f (k * 9);have fy1:=hr1.f (k * 9+1);have fy2:=hr1.f (k * 9+2);have fy3:=hr1.f (k * 9+3);have fy4:=hr1.f (k * 9+4);have fy5:=hr1.f (k * 9+5);have fy6:=hr1.f (k * 9+6);have fy7:=hr1.f (k * 9+7);have fy8:=hr1.f (k * 9+8);clear cx cy;have hsw:=hr1.swap j k hjn hkn;rw [HX.out,HY.out] at hsw;have hbs:=(hbb1.put9 (j * 9) y).put9 (k * 9) x;have HSW:=Kb hsw;have HBS:=Kb hbs;clear hsw hbs;go_wp2_with fail;go_region
      all_goals
       clear hw1 hw2;go_wp2_with fail;go_roundw;case rel=>exact ⟨k,swp dj j k,by first | rfl | (congr 1;omega),hak,by omega,HSW.out.next (Kc _).drew,HBS.out.below (Kc _).drew HBS.out.size,by rw [<-HI.out,insInner_go ltC a j dj hja (by rw [HL.out];exact Kx hneg),HK.out]⟩
       case measure=>simp [intOf];omega
     ·have hneg':decide (R<0)=false:=Kj hneg;go_wp2_with fail
      go_region_held3 (fun w'=>w'.cell? ⟨g,j * 9,none⟩=some (.string x.n)/\w'.cell? ⟨g,j * 9+1,none⟩=some (.string x.v)/\w'.cell? ⟨g,j * 9+2,none⟩=some (.string x.d)/\w'.cell? ⟨g,j * 9+3,none⟩=some (.string x.p)/\w'.cell? ⟨g,j * 9+4,none⟩=some (.bool x.ho)/\w'.cell? ⟨g,j * 9+5,none⟩=some (.bool x.se)/\w'.cell? ⟨g,j * 9+6,none⟩=some (.bool x.hi)/\w'.cell? ⟨g,j * 9+7,none⟩=some (.int .i64 x.ex)/\w'.cell? ⟨g,j * 9+8,none⟩=some (.int .i64 x.cr)/\w'.cell? ⟨g,k * 9,none⟩=some (.string y.n)/\w'.cell? ⟨g,k * 9+1,none⟩=some (.string y.v)/\w'.cell? ⟨g,k * 9+2,none⟩=some (.string y.d)/\w'.cell? ⟨g,k * 9+3,none⟩=some (.string y.p)/\w'.cell? ⟨g,k * 9+4,none⟩=some (.bool y.ho)/\w'.cell? ⟨g,k * 9+5,none⟩=some (.bool y.se)/\w'.cell? ⟨g,k * 9+6,none⟩=some (.bool y.hi)/\w'.cell? ⟨g,k * 9+7,none⟩=some (.int .i64 y.ex)/\w'.cell? ⟨g,k * 9+8,none⟩=some (.int .i64 y.cr)/\Below wr.heap.size wr w') (first | exact s18_mk hgr CX.out CY.out (Kc wr).drew | exact s18_mk hgr CX.out CY.out ((Kc wr).drew.trans hb1) | go_keep)
       (first | (go_at_call 87;go_loud (with_reducible refine (CMR.out _).mono ?_);rintro e w1 ⟨rfl,hb1⟩))
      have hB1:=(Kc wr).drew.trans hb1;clear hw1 hw2;go_wp2_with fail;go_roundw;case rel=>exact ⟨i+1,dj,by go_num,by omega,by omega,hrj.next hB1,hbj.below hB1 hbj.size,OUT.out (Or.inr (by rw [HL.out];exact hneg'))⟩
      case measure=>simp [intOf];omega
    ·have hd:decide ((a:Int)<(j:Int))=false:=Kj (by omega);go_wp2_with fail;go_quiet (fail);go_wp2_with fail;go_roundw;case rel=>exact ⟨i+1,dj,by go_num,by omega,by omega,hrj.next (below_drewN (Kc wr) _),hbj.below (below_drewN (Kc wr) _) hbj.size,OUT.out (Or.inl (by omega))⟩
     case measure=>simp [intOf];omega
  ·have hd:decide ((i:Int)<(b:Int))=false:=Kj (by omega);go_wp2_with fail;go_end0;exact ⟨rfl,by unfold insertionSort;rw [<-HO.out,insOuter_stop _ _ _ _ _ hlt];exact hrk,hbk⟩
theorem BelowBut.stepb {n n' g:Nat}{W w w':World}(h:BelowBut n g W w)(k:BelowBut n' g w w')(hn:n<=n'):BelowBut n g W w':=⟨k.os.trans h.os,k.tape.trans h.tape,k.output.trans h.output,Kg h.size k.size,fun x hx hb=>(k.block x (by omega) hb).trans (h.block x hx hb)⟩
theorem swr_any (B g n cap a b m:Nat)(X p M q Y:List Ck)(W:World)(h:RowC W B g n cap (X ++ p ++ M ++ q ++ Y).toArray)(hp:p.length=m)(hq:q.length=m)(ha:a=X.length)(hb:b=X.length+m+M.length)(hn:n<=1000):
 Calls Tryz.prog 263 #[.slice (some ⟨g,0,none⟩) n cap,.int .i64 a,.int .i64 b,.int .i64 m,.func (.func 87) #[] #[]] W fun e W'=>e = .returned (.tuple #[])/\RowC W' B g n cap (X ++ q ++ M ++ p ++ Y).toArray/\BelowBut W.heap.size g W W':=by
 have hsz:X.length+m+M.length+m+Y.length=n:=by have:=h.size;simp at this;omega
 have han:a+m<=n:=by omega
 have hbn:b+m<=n:=by omega
 have hamb:a+m<=b:=by omega
 have hg:=h.lt;rw [<-srA_zero X p M q Y] at h;have HS:=Kb (fun i (hi:i<m)=>srA_step X p M q Y m i a b hp hq hi ha hb);have HE:=Kb (srA_end X p M q Y m hp hq);have HR0:=Kb h;clear h hsz hp hq ha hb;go_enter Tryz.func263,Tryz.ntmps263;go_wp2_with fail;go_loopw [10] (fun vi wr=>∃ i:Nat,vi = .int .i64 i/\i<=m/\RowC wr B g n cap (srA X p M q Y i)/\BelowBut W.heap.size g W wr) (fun vi _=>m - (intOf vi).toNat);case atStart=>exact ⟨0,rfl,Kh _,HR0.out,BelowBut.refl _ _ _⟩
 case round=>
  obtain ⟨i,rfl,him,hrk,hbk⟩:=hrel;by_cases hlt:i<m
  ·have hiz:(i:Int)<(m:Int):=by omega
   obtain ⟨s,hs⟩:=Ka (a+i);obtain ⟨t,ht⟩:=Ka (b+i);have hsn:s<n:=by omega
   have htn:t<n:=by omega
   have hslt:s<t:=by omega
   have hsw:=hrk.swap s t hsn htn;have hst:=HS.out i hlt;rw [hs,ht] at hst;rw [hst] at hsw;obtain ⟨x,hx⟩:∃ x,(srA X p M q Y i)[s]! = x:=⟨_,rfl⟩
   obtain ⟨y,hy⟩:∃ y,(srA X p M q Y i)[t]! = y:=⟨_,rfl⟩
   rw [hx,hy] at hsw;have cx:∀ r u,(ckL x)[r]? = some u->wr.cell? ⟨g,s * 9+r,none⟩=some u:=fun r u hu=>hrk.c s hsn r (by rw [hx];exact hu);have cy:∀ r u,(ckL y)[r]? = some u->wr.cell? ⟨g,t * 9+r,none⟩=some u:=fun r u hu=>hrk.c t htn r (by rw [hy];exact hu);have fx:∀ r,wr.frozen? ⟨g,s * 9+r,none⟩=false:=fun r=>hrk.f _;have fy:∀ r,wr.frozen? ⟨g,t * 9+r,none⟩=false:=fun r=>hrk.f _;clear hx hy hst;have x0:=cx 0 _ rfl;have x1:=cx 1 _ rfl;have x2:=cx 2 _ rfl;have x3:=cx 3 _ rfl;have x4:=cx 4 _ rfl;have x5:=cx 5 _ rfl;have x6:=cx 6 _ rfl;have x7:=cx 7 _ rfl;have x8:=cx 8 _ rfl;have y0:=cy 0 _ rfl;have y1:=cy 1 _ rfl;have y2:=cy 2 _ rfl;have y3:=cy 3 _ rfl;have y4:=cy 4 _ rfl;have y5:=cy 5 _ rfl;have y6:=cy 6 _ rfl;have y7:=cy 7 _ rfl;have y8:=cy 8 _ rfl;simp only [Ku] at x0 y0;have fx0:=fx 0;have fx1:=fx 1;have fx2:=fx 2;have fx3:=fx 3;have fx4:=fx 4;have fx5:=fx 5;have fx6:=fx 6;have fx7:=fx 7;have fx8:=fx 8;have fy0:=fy 0;have fy1:=fy 1;have fy2:=fy 2;have fy3:=fy 3;have fy4:=fy 4;have fy5:=fy 5;have fy6:=fy 6;have fy7:=fy 7;have fy8:=fy 8;simp only [Ku] at fx0 fy0;have hbs:=(hbk.put9 (s * 9) y).put9 (t * 9) x;have hsz':(s:Int)<(n:Int):=by omega
   have htz:(t:Int)<(n:Int):=by omega
   have hs1:(a:Int)+(i:Int)=(s:Int):=by omega
   have ht1:(b:Int)+(i:Int)=(t:Int):=by omega
   have hws:IntKind.i64.wrap ((a:Int)+i)=s:=by rw [IntWalk.i64_in _ (by omega)];omega
   have hwt:IntKind.i64.wrap ((b:Int)+i)=t:=by rw [IntWalk.i64_in _ (by omega)];omega
   have hws2:IntKind.i64.wrap (s:Int)=s:=IntWalk.i64_in _ (by omega);have hwt2:IntKind.i64.wrap (t:Int)=t:=IntWalk.i64_in _ (by omega);have HW:=Kb hsw;have HB:=Kb hbs;clear hsw hbs hs ht cx cy fx fy;go_wp2_with fail;go_region
   all_goals
    clear hws hwt hws2 hwt2 hs1 ht1;go_wp2_with fail;go_roundw;case rel=>exact ⟨i+1,by go_num,by omega,HW.out.next (Kc _).drew,HB.out.below (Kc _).drew HB.out.size⟩
    case measure=>simp [intOf];omega
  ·have hd:decide ((i:Int)<(m:Int))=false:=Kj (by omega);obtain rfl:i=m:=by omega
   go_wp2_with fail;go_end0;exact ⟨rfl,by rw [<-HE.out];exact hrk,hbk⟩
theorem rot_any (B g n cap a m b:Nat)(X u v Y:List Ck)(W:World)(h:RowC W B g n cap (X ++ u ++ v ++ Y).toArray)(ha:a=X.length)(hm:m=a+u.length)(hb:b=m+v.length)(h1:a<m)(h2:m<b)(hn:n<=1000):
 Calls Tryz.prog 247 #[.slice (some ⟨g,0,none⟩) n cap,.int .i64 a,.int .i64 m,.int .i64 b,.func (.func 87) #[] #[]] W fun e W'=>e = .returned (.tuple #[])/\RowC W' B g n cap (X ++ v ++ u ++ Y).toArray/\BelowBut W.heap.size g W W':=by
 have hsz:b+Y.length=n:=by have:=h.size;simp at this;omega
 have CS:=Kb (fun (a b m:Nat) (X p M q Y:List Ck) (W:World) (h:RowC W B g n cap (X ++ p ++ M ++ q ++ Y).toArray) (hp:p.length=m) (hq:q.length=m) (ha:a=X.length) (hb:b=X.length+m+M.length)=>swr_any B g n cap a b m X p M q Y W h hp hq ha hb hn);have HR0:=Kb h;have HI:=Kb (rot_start X u v Y a m b ha hm hb h1 h2);obtain ⟨G,hG⟩:=Ka ((X ++ v ++ u ++ Y).toArray);rw [hG] at HI;rw [hG];have hbn:b<=n:=by omega
 clear h hsz ha hm hb hG;go_enter Tryz.func247,Tryz.ntmps247;go_wp2_with fail;go_loopw [10,11] (fun vi vj wr=>∃ (i j:Nat) (dk:Array Ck),vi = .int .i64 i/\vj = .int .i64 j/\i<=m/\m+j<=n/\0<i/\0<j/\RotI G m i j dk/\RowC wr B g n cap dk/\BelowBut W.heap.size g W wr) (fun vi vj _=>(intOf vi).toNat+(intOf vj).toNat);case atStart=>exact ⟨m - a,b - m,_,by congr 1;omega,by congr 1;omega,by omega,by omega,by omega,by omega,HI.out,HR0.out,BelowBut.refl _ _ _⟩
 case round=>
  obtain ⟨i,j,dk,rfl,rfl,him,hjn,hi0,hj0,hI,hrk,hbk⟩:=hrel;have HI:=Kb hI;clear hI;rcases Nat.lt_trichotomy i j with hij | hij | hij
  ·obtain ⟨X,p,M,q,Y,hdk,hp,hq,hX,hM,hN⟩:=rot_lt HI.out hij;subst hdk;have CR:=CS.out (m - i) (m+j - i) i X p M q Y wr hrk hp hq hX hM;obtain ⟨s,hs⟩:=Ka (m - i);obtain ⟨t,ht⟩:=Ka (m+j - i);obtain ⟨r,hr⟩:=Ka (j - i);rw [hs,ht] at CR;rw [hr] at hN;have hr0:0<r:=by omega
   have hrn:m+r<=n:=by omega
   have hrj:i+r<i+j:=by omega
   have hij1:((i:Int) != (j:Int))=true:=bne_iff_ne.2 (by omega);have hij2:decide ((j:Int)<(i:Int))=false:=Kj (by omega);have hs1:(m:Int) - (i:Int)=(s:Int):=by omega
   have ht1:(m:Int)+(j:Int) - (i:Int)=(t:Int):=by omega
   have hr1:(j:Int) - (i:Int)=(r:Int):=by omega
   have HCR:=Kb CR;have HN:=Kb hN;clear CR hN hs ht hr hp hq hX hM HI;go_wp2_with (with_reducible refine HCR.out.mono ?_;rintro e w2 ⟨rfl,hr2,hb2⟩)
   go_roundw;case rel=>exact ⟨i,r,_,rfl,by first | rfl | (congr 1;omega),him,hrn,hi0,hr0,HN.out,hr2,hbk.stepb hb2 hbk.size⟩
   case measure=>simp [intOf];omega
  ·obtain ⟨X,p,M,q,Y,hdk,hp,hq,hX,hM,hN⟩:=rot_eq HI.out hij;subst hdk hij;have CR:=CS.out (m - i) m i X p M q Y wr hrk hp hq hX hM;obtain ⟨s,hs⟩:=Ka (m - i);rw [hs,hN] at CR;have hs1:(m:Int) - (i:Int)=(s:Int):=by omega
   have HCR:=Kb CR;clear CR hN hs hp hq hX hM HI;go_wp2_with (with_reducible refine HCR.out.mono ?_;rintro e w2 ⟨rfl,hr2,hb2⟩)
   go_end0;exact ⟨rfl,hr2,hbk.stepb hb2 hbk.size⟩
  ·obtain ⟨X,p,M,q,Y,hdk,hp,hq,hX,hM,hN⟩:=rot_gt HI.out hij;subst hdk;have CR:=CS.out (m - i) m j X p M q Y wr hrk hp hq hX hM;obtain ⟨s,hs⟩:=Ka (m - i);obtain ⟨r,hr⟩:=Ka (i - j);rw [hs] at CR;rw [hr] at hN;have hr0:0<r:=by omega
   have hrn:r<=m:=by omega
   have hrj:r+j<i+j:=by omega
   have hij1:((i:Int) != (j:Int))=true:=bne_iff_ne.2 (by omega);have hij2:decide ((j:Int)<(i:Int))=true:=Kx (by omega);have hs1:(m:Int) - (i:Int)=(s:Int):=by omega
   have hr1:(i:Int) - (j:Int)=(r:Int):=by omega
   have HCR:=Kb CR;have HN:=Kb hN;clear CR hN hs hr hp hq hX hM HI;go_wp2_with (with_reducible refine HCR.out.mono ?_;rintro e w2 ⟨rfl,hr2,hb2⟩)
   go_roundw;case rel=>exact ⟨r,j,_,by first | rfl | (congr 1;omega),rfl,hrn,hjn,hr0,hj0,HN.out,hr2,hbk.stepb hb2 hbk.size⟩
   case measure=>simp [intOf];omega
theorem half_lt {i j h:Nat}(hij:i<j)(hh:(i+j) / 2=h):i<=h/\h<j:=by omega
theorem N24{p:Prop}(h:p:=by
 go_wp2_with fail
 go_region_held3 (fun w'=>w'.cell? ⟨g,h * 9,none⟩=some (.string x.n)/\w'.cell? ⟨g,h * 9+1,none⟩=some (.string x.v)/\w'.cell? ⟨g,h * 9+2,none⟩=some (.string x.d)/\w'.cell? ⟨g,h * 9+3,none⟩=some (.string x.p)/\w'.cell? ⟨g,h * 9+4,none⟩=some (.bool x.ho)/\w'.cell? ⟨g,h * 9+5,none⟩=some (.bool x.se)/\w'.cell? ⟨g,h * 9+6,none⟩=some (.bool x.hi)/\w'.cell? ⟨g,h * 9+7,none⟩=some (.int .i64 x.ex)/\w'.cell? ⟨g,h * 9+8,none⟩=some (.int .i64 x.cr)/\w'.cell? ⟨g,a * 9,none⟩=some (.string y.n)/\w'.cell? ⟨g,a * 9+1,none⟩=some (.string y.v)/\w'.cell? ⟨g,a * 9+2,none⟩=some (.string y.d)/\w'.cell? ⟨g,a * 9+3,none⟩=some (.string y.p)/\w'.cell? ⟨g,a * 9+4,none⟩=some (.bool y.ho)/\w'.cell? ⟨g,a * 9+5,none⟩=some (.bool y.se)/\w'.cell? ⟨g,a * 9+6,none⟩=some (.bool y.hi)/\w'.cell? ⟨g,a * 9+7,none⟩=some (.int .i64 y.ex)/\w'.cell? ⟨g,a * 9+8,none⟩=some (.int .i64 y.cr)/\Below wr.heap.size wr w') (first | exact s18_mk hgr CX.out CY.out (Kc wr).drew | exact s18_mk hgr CX.out CY.out ((Kc wr).drew.trans hb1) | go_keep)
  (first | (with_reducible refine (CMR.out _).mono ?_;rintro e w1 ⟨rfl,hb1⟩))
 have hB1:=(Kc wr).drew.trans hb1;go_wp2_with fail;go_roundw
 first
  |case rel=>exact ⟨h+1,j,by go_num,rfl,hmh,by omega,hjb,hrk.next hB1,hbk.below hB1 hbk.size,.inr (by rw [Nat.add_sub_cancel,HL.out];exact Kx hneg),HJ.out⟩
   case measure=>simp [intOf];omega
  |case rel=>exact ⟨i,h,rfl,by first | rfl | go_num,hmi,hih,hhb,hrk.next hB1,hbk.below hB1 hbk.size,HI.out,.inr (by rw [HL.out];exact Kj (by omega))⟩
   case measure=>simp [intOf];omega
 ):p:=h
theorem N35{p:Prop}(h:p:=by
 have hw2:IntKind.i64.wrap (t:Int)=(t:Int):=IntWalk.i64_in _ (by omega);have x0:=cx 0 _ rfl;have x1:=cx 1 _ rfl;have x2:=cx 2 _ rfl;have x3:=cx 3 _ rfl;have x4:=cx 4 _ rfl;have x5:=cx 5 _ rfl;have x6:=cx 6 _ rfl;have x7:=cx 7 _ rfl;have x8:=cx 8 _ rfl;have y0:=cy 0 _ rfl;have y1:=cy 1 _ rfl;have y2:=cy 2 _ rfl;have y3:=cy 3 _ rfl;have y4:=cy 4 _ rfl;have y5:=cy 5 _ rfl;have y6:=cy 6 _ rfl;have y7:=cy 7 _ rfl;have y8:=cy 8 _ rfl;simp only [Ku] at x0 y0;have fx0:=fx 0;have fx1:=fx 1;have fx2:=fx 2;have fx3:=fx 3;have fx4:=fx 4;have fx5:=fx 5;have fx6:=fx 6;have fx7:=fx 7;have fx8:=fx 8;have fy0:=fy 0;have fy1:=fy 1;have fy2:=fy 2;have fy3:=fy 3;have fy4:=fy 4;have fy5:=fy 5;have fy6:=fy 6;have fy7:=fy 7;have fy8:=fy 8;simp only [Ku] at fx0 fy0
 first
  |clear hsw hbs hwa hx hy ht cx cy fx fy;go_wp2_with fail;go_region
   all_goals
    clear hw1 hw2;go_wp2_with fail;go_roundw;case rel=>exact ⟨t,by first | rfl | (congr 1;omega),hat,htr,HSW.out.next (Kc _).drew,HBS.out.below (Kc _).drew HBS.out.size⟩
    case measure=>simp [intOf];omega
  |clear hsw hbs hwa hx hy ht cx cy fx fy hkt1 q1 q2 q3;go_wp2_with fail;go_region
   all_goals
    clear hw1 hw2;go_wp2_with fail;go_roundw;case rel=>exact ⟨t,by first | rfl | (congr 1;omega),hit,htm,HSW.out.next (Kc _).drew,HBS.out.below (Kc _).drew HBS.out.size⟩
    case measure=>simp [intOf];omega
 ):p:=h
theorem sym_one (B g n cap a m b:Nat)(X:List Ck)(x0:Ck)(v Y:List Ck)(W:World)(h:RowC W B g n cap (X ++ [x0] ++ v ++ Y).toArray)(ha:a=X.length)(hm:m=X.length+1)(hb:b=m+v.length)(hv:Srt ltC v)(hn:n<=1000):
 Calls Tryz.prog 202 #[.slice (some ⟨g,0,none⟩) n cap,.int .i64 a,.int .i64 m,.int .i64 b,.func (.func 87) #[] #[]] W fun e W'=>e = .returned (.tuple #[])/\RowC W' B g n cap (X ++ mg ltC [x0] v ++ Y).toArray/\BelowBut W.heap.size g W W':=by
 have CM:=Kb (fun (x y:Ck) (R:Int) (hR:cmpC x y=R) (W:World)=>cmp_is x y R hR W);have hsz:b+Y.length=n:=by have:=h.size;simp at this;omega
 have hbn:b<=n:=by omega
 have ham:a<m:=by omega
 have hmb:m<=b:=by omega
 have hma1:((m:Int) - (a:Int) == 1)=true:=Ju.2 (by omega);have HS:=Kb (fun (i:Nat) h0 h0' h1 h2=>sym_first ltC swoC X v Y x0 m b i hm hb hv h0 h0' h1 h2);have HWR:=Kb (fun k (hk:k<v.length)=>wand_right X x0 v Y k a ha hk);have hw0:(X ++ [x0] ++ v ++ Y).toArray=wandA X x0 v Y 0:=by simp [wandA]
 have HW0:=Kb hw0;have hdx:(X ++ [x0] ++ v ++ Y).toArray[a]! = x0:=by rw [ha,show X ++ [x0] ++ v ++ Y=X ++ x0 :: (v ++ Y) by simp];exact arr_at X x0 _
 have HVL:=Kb (show b=a+1+v.length by omega);obtain ⟨d,hd⟩:=Ka ((X ++ [x0] ++ v ++ Y).toArray);rw [hd] at h hdx hw0;have HD:=Kb hd;have hg:=h.lt;have HR0:=Kb h;have HDX:=Kb hdx;have HMA:=Kb (show m=a+1 by omega);clear h hsz ha hm hb hd hw0 hdx;go_enter Tryz.func202,Tryz.ntmps202;go_wp2_with fail;go_loopw [10,11] (fun vi vj wr=>∃ i j:Nat,vi = .int .i64 i/\vj = .int .i64 j/\m<=i/\i<=j/\j<=b/\RowC wr B g n cap d/\BelowBut W.heap.size g W wr/\(i=m\/ltC d[i - 1]! x0=true)/\(j=b\/ltC d[j]! x0=false)) (fun vi vj _=>(intOf vj).toNat - (intOf vi).toNat);case atStart=>exact ⟨m,b,rfl,rfl,lr,hmb,lr,HR0.out,BelowBut.refl _ _ _,.inl rfl,.inl rfl⟩
 case round=>
  obtain ⟨i,j,rfl,rfl,hmi,hij,hjb,hrk,hbk,hI,hJ⟩:=hrel;have HI:=Kb hI;have HJ:=Kb hJ;clear hI hJ;by_cases hlt:i<j
  ·have hlz:(i:Int)<(j:Int):=by omega
   obtain ⟨h,hh⟩:=Ka ((i+j) / 2);obtain ⟨hih,hhj⟩:=half_lt hlt hh;have hhn:h<n:=by omega
   have han:a<n:=by omega
   have hmh:m<=h+1:=by omega
   have hmh2:m<=h:=by omega
   have hhb:h<=b:=by omega
   obtain ⟨x,hx⟩:∃ x,d[h]! = x:=⟨_,rfl⟩
   obtain ⟨y,hy⟩:∃ y,d[a]! = y:=⟨_,rfl⟩
   have cx:∀ q u,(ckL x)[q]? = some u->wr.cell? ⟨g,h * 9+q,none⟩=some u:=fun q u hu=>hrk.c h hhn q (by rw [hx];exact hu);have cy:∀ q u,(ckL y)[q]? = some u->wr.cell? ⟨g,a * 9+q,none⟩=some u:=fun q u hu=>hrk.c a han q (by rw [hy];exact hu);have hgr:=hrk.lt;obtain ⟨R,hRR⟩:=Ka (cmpC x y);have hL:ltC d[h]! x0=decide (R<0):=by rw [<-HDX.out,hx,hy,<-hRR];rfl
   have CMR:=Kb (fun W=>CM.out x y R hRR W);have HL:=Kb hL;have CX:=Kb cx;have CY:=Kb cy;have hhz:(h:Int)<(n:Int):=by omega
   have haz:(a:Int)<(n:Int):=by omega
   have hh1:((i:Int)+(j:Int)) / 2=(h:Int):=by omega
   have x0:=cx 0 _ rfl;have x1:=cx 1 _ rfl;have x2:=cx 2 _ rfl;have x3:=cx 3 _ rfl;have x4:=cx 4 _ rfl;have x5:=cx 5 _ rfl;have x6:=cx 6 _ rfl;have x7:=cx 7 _ rfl;have x8:=cx 8 _ rfl;have y0:=cy 0 _ rfl;have y1:=cy 1 _ rfl;have y2:=cy 2 _ rfl;have y3:=cy 3 _ rfl;have y4:=cy 4 _ rfl;have y5:=cy 5 _ rfl;have y6:=cy 6 _ rfl;have y7:=cy 7 _ rfl;have y8:=cy 8 _ rfl;simp only [Ku] at x0 y0;clear hx hy hh hL hRR cx cy;by_cases hneg:R<0
   ·exact N24
   ·exact N24
  ·have hd:decide ((i:Int)<(j:Int))=false:=Kj (by omega);obtain rfl:i=j:=by omega
   have hmg:=HS.out i hmi hjb (by rw [HD.out];exact HI.out) (by rw [HD.out];exact HJ.out);have HMG:=Kb hmg;clear hmg;obtain ⟨r,hr⟩:=Ka (i - 1);have hr1:(i:Int) - 1=(r:Int):=by omega
   have har:a<=r:=by have:=HMA.out;omega
   have hrb:r+1<=b:=by omega
   have HRI:=Kb hr;clear hr;go_wp2_with fail;go_loopw [13] (fun vk wr2=>∃ k:Nat,vk = .int .i64 k/\a<=k/\k<=r/\RowC wr2 B g n cap (wandA X x0 v Y (k - a))/\BelowBut W.heap.size g W wr2) (fun vk _=>r - (intOf vk).toNat);case atStart=>exact ⟨a,rfl,lr,har,by rw [Nat.sub_self,<-HW0.out,HD.out];exact hrk,hbk⟩
   case round=>
    obtain ⟨k,rfl,hak,hkr,hrk2,hbk2⟩:=hrel;by_cases hlt2:k<r
    ·have hkz:(k:Int)<(r:Int):=by omega
     obtain ⟨t,ht⟩:=Ka (k+1);have hkn:k<n:=by omega
     have htn:t<n:=by omega
     have hkt:k<t:=by omega
     have htr:t<=r:=by omega
     have hat:a<=t:=by omega
     have hkv:k - a<v.length:=by have:=HVL.out;have:=HMA.out;omega
     have hsw:=hrk2.swap k t hkn htn;rw [<-ht] at hsw;have hwa:=HWR.out (k - a) hkv;rw [show a+(k - a)=k by omega,show k - a+1=t - a by omega] at hwa;rw [hwa,ht] at hsw;obtain ⟨y,hy⟩:∃ y,(wandA X x0 v Y (k - a))[k]! = y:=⟨_,rfl⟩
     obtain ⟨x,hx⟩:∃ x,(wandA X x0 v Y (k - a))[t]! = x:=⟨_,rfl⟩
     rw [hx,hy] at hsw;have cx:∀ q u,(ckL x)[q]? = some u->wr.cell? ⟨g,t * 9+q,none⟩=some u:=fun q u hu=>hrk2.c t htn q (by rw [hx];exact hu);have cy:∀ q u,(ckL y)[q]? = some u->wr.cell? ⟨g,k * 9+q,none⟩=some u:=fun q u hu=>hrk2.c k hkn q (by rw [hy];exact hu);have fx:∀ q,wr.frozen? ⟨g,t * 9+q,none⟩=false:=fun q=>hrk2.f _;have fy:∀ q,wr.frozen? ⟨g,k * 9+q,none⟩=false:=fun q=>hrk2.f _;have hbs:=(hbk2.put9 (k * 9) x).put9 (t * 9) y;have HSW:=Kb hsw;have HBS:=Kb hbs;have hkz2:(k:Int)<(n:Int):=by omega
     have htz2:(t:Int)<(n:Int):=by omega
     have hs1:(k:Int)+1=(t:Int):=by omega
     have hw1:IntKind.i64.wrap ((k:Int)+1)=(t:Int):=by rw [IntWalk.i64_in _ (by omega)];omega
     exact N35
    ·have hd2:decide ((k:Int)<(r:Int))=false:=Kj (by omega);obtain rfl:k=r:=by omega
     go_wp2_with fail;refine bodyPost_ret (results_none (by rfl) _ _ _) rfl ⟨rfl,?_,hbk2⟩;have e:wandA X x0 v Y (k - a)=(X ++ mg ltC [x0] v ++ Y).toArray:=by have h1:=HRI.out;have h2:=HMA.out;rw [HMG.out,show i - m=k - a by omega];simp [wandA]
     rw [<-e];exact hrk2
theorem down_sub {k a t n:Nat}(hk:k=t+1)(hat:a<=t)(h:t - a<n):k - a=(t - a)+1/\a+(t - a)+1=k/\a+(t - a)=t:=by omega
theorem N26{p:Prop}(h:p:=by
 go_region_held3 (fun w'=>w'.cell? ⟨g,m * 9,none⟩=some (.string x.n)/\w'.cell? ⟨g,m * 9+1,none⟩=some (.string x.v)/\w'.cell? ⟨g,m * 9+2,none⟩=some (.string x.d)/\w'.cell? ⟨g,m * 9+3,none⟩=some (.string x.p)/\w'.cell? ⟨g,m * 9+4,none⟩=some (.bool x.ho)/\w'.cell? ⟨g,m * 9+5,none⟩=some (.bool x.se)/\w'.cell? ⟨g,m * 9+6,none⟩=some (.bool x.hi)/\w'.cell? ⟨g,m * 9+7,none⟩=some (.int .i64 x.ex)/\w'.cell? ⟨g,m * 9+8,none⟩=some (.int .i64 x.cr)/\w'.cell? ⟨g,h * 9,none⟩=some (.string y.n)/\w'.cell? ⟨g,h * 9+1,none⟩=some (.string y.v)/\w'.cell? ⟨g,h * 9+2,none⟩=some (.string y.d)/\w'.cell? ⟨g,h * 9+3,none⟩=some (.string y.p)/\w'.cell? ⟨g,h * 9+4,none⟩=some (.bool y.ho)/\w'.cell? ⟨g,h * 9+5,none⟩=some (.bool y.se)/\w'.cell? ⟨g,h * 9+6,none⟩=some (.bool y.hi)/\w'.cell? ⟨g,h * 9+7,none⟩=some (.int .i64 y.ex)/\w'.cell? ⟨g,h * 9+8,none⟩=some (.int .i64 y.cr)/\Below wr.heap.size wr w') (first | exact s18_mk hgr CX.out CY.out (Kc wr).drew | exact s18_mk hgr CX.out CY.out ((Kc wr).drew.trans hb1) | go_keep)
  (first | (with_reducible refine (CMR.out _).mono ?_;rintro e w1 ⟨rfl,hb1⟩))
 have hB1:=(Kc wr).drew.trans hb1;go_wp2_with fail;go_roundw
 first
  |case rel=>exact ⟨i,h,rfl,by first | rfl | go_num,hmi,hih,hhb,hrk.next hB1,hbk.below hB1 hbk.size,HI.out,.inr (by rw [HL.out];exact Kx hneg)⟩
   case measure=>simp [intOf];omega
  |case rel=>exact ⟨h+1,j,by go_num,rfl,hmh,by omega,hjb,hrk.next hB1,hbk.below hB1 hbk.size,.inr (by rw [Nat.add_sub_cancel,HL.out];exact Kj (by omega)),HJ.out⟩
   case measure=>simp [intOf];omega
 ):p:=h
theorem sym_two (B g n cap a m b:Nat)(X u:List Ck)(y0:Ck)(Y:List Ck)(W:World)(h:RowC W B g n cap (X ++ u ++ [y0] ++ Y).toArray)(ha:a=X.length)(hm:m=a+u.length)(hb:b=m+1)(hu:Srt ltC u)(hu2:2<=u.length)(hn:n<=1000):
 Calls Tryz.prog 202 #[.slice (some ⟨g,0,none⟩) n cap,.int .i64 a,.int .i64 m,.int .i64 b,.func (.func 87) #[] #[]] W fun e W'=>e = .returned (.tuple #[])/\RowC W' B g n cap (X ++ mg ltC u [y0] ++ Y).toArray/\BelowBut W.heap.size g W W':=by
 have CM:=Kb (fun (x y:Ck) (R:Int) (hR:cmpC x y=R) (W:World)=>cmp_is x y R hR W);have hsz:b+Y.length=n:=by have:=h.size;simp at this;omega
 have hbn:b<=n:=by omega
 have hmn:m<n:=by omega
 have ham:a<=m:=by omega
 have hmb:m<=b:=by omega
 have hma1:((m:Int) - (a:Int) == 1)=false:=Ki.2 (by omega);have hbm1:((b:Int) - (m:Int) == 1)=true:=Ju.2 (by omega);have HS:=Kb (fun (i:Nat) h0 h0' h1 h2=>sym_last ltC swoC X u Y y0 a m i ha hm hu h0 h0' h1 h2);have HWL:=Kb (fun k (hk:k<u.length)=>wand_left X y0 u Y k a ha hk);have e1:X ++ u ++ ([y0] ++ Y)=X ++ u ++ [y0] ++ Y:=by simp
 rw [e1] at HS;have hw0:(X ++ u ++ [y0] ++ Y).toArray=wandA X y0 u Y (m - a):=by simp [wandA,hm]
 have HW0:=Kb hw0;have hdx:(X ++ u ++ [y0] ++ Y).toArray[m]! = y0:=by rw [hm,ha,show X ++ u ++ [y0] ++ Y=(X ++ u) ++ y0 :: Y by simp];exact arr_at' _ y0 _ _ (by simp)
 have HUL:=Kb (show m=a+u.length by omega);obtain ⟨d,hd⟩:=Ka ((X ++ u ++ [y0] ++ Y).toArray);rw [hd] at h hdx hw0;have HD:=Kb hd;have hg:=h.lt;have HR0:=Kb h;have HDX:=Kb hdx;clear h hsz ha hm hb hd hw0 hdx e1 hu2;go_enter Tryz.func202,Tryz.ntmps202;go_wp2_with fail;go_loopw [14,15] (fun vi vj wr=>∃ i j:Nat,vi = .int .i64 i/\vj = .int .i64 j/\a<=i/\i<=j/\j<=m/\RowC wr B g n cap d/\BelowBut W.heap.size g W wr/\(i=a\/ltC y0 d[i - 1]! = false)/\(j=m\/ltC y0 d[j]! = true)) (fun vi vj _=>(intOf vj).toNat - (intOf vi).toNat);case atStart=>exact ⟨a,m,rfl,rfl,lr,ham,lr,HR0.out,BelowBut.refl _ _ _,.inl rfl,.inl rfl⟩
 case round=>
  obtain ⟨i,j,rfl,rfl,hmi,hij,hjb,hrk,hbk,hI,hJ⟩:=hrel;have HI:=Kb hI;have HJ:=Kb hJ;clear hI hJ;by_cases hlt:i<j
  ·have hlz:(i:Int)<(j:Int):=by omega
   obtain ⟨h,hh⟩:=Ka ((i+j) / 2);obtain ⟨hih,hhj⟩:=half_lt hlt hh;have hhn:h<n:=by omega
   have hmh:a<=h+1:=by omega
   have hmh2:a<=h:=by omega
   have hhb:h<=m:=by omega
   obtain ⟨x,hx⟩:∃ x,d[m]! = x:=⟨_,rfl⟩
   obtain ⟨y,hy⟩:∃ y,d[h]! = y:=⟨_,rfl⟩
   have cx:∀ q u,(ckL x)[q]? = some u->wr.cell? ⟨g,m * 9+q,none⟩=some u:=fun q u hu=>hrk.c m hmn q (by rw [hx];exact hu);have cy:∀ q u,(ckL y)[q]? = some u->wr.cell? ⟨g,h * 9+q,none⟩=some u:=fun q u hu=>hrk.c h hhn q (by rw [hy];exact hu);have hgr:=hrk.lt;obtain ⟨R,hRR⟩:=Ka (cmpC x y);have hL:ltC y0 d[h]! = decide (R<0):=by rw [<-HDX.out,hx,hy,<-hRR];rfl
   have CMR:=Kb (fun W=>CM.out x y R hRR W);have HL:=Kb hL;have CX:=Kb cx;have CY:=Kb cy;have hhz:(h:Int)<(n:Int):=by omega
   have haz:(m:Int)<(n:Int):=by omega
   have hh1:((i:Int)+(j:Int)) / 2=(h:Int):=by omega
   have x0:=cx 0 _ rfl;have x1:=cx 1 _ rfl;have x2:=cx 2 _ rfl;have x3:=cx 3 _ rfl;have x4:=cx 4 _ rfl;have x5:=cx 5 _ rfl;have x6:=cx 6 _ rfl;have x7:=cx 7 _ rfl;have x8:=cx 8 _ rfl;have y0:=cy 0 _ rfl;have y1:=cy 1 _ rfl;have y2:=cy 2 _ rfl;have y3:=cy 3 _ rfl;have y4:=cy 4 _ rfl;have y5:=cy 5 _ rfl;have y6:=cy 6 _ rfl;have y7:=cy 7 _ rfl;have y8:=cy 8 _ rfl;simp only [Ku] at x0 y0;clear hx hy hh hL hRR cx cy;by_cases hneg:R<0
   ·go_wp2_with fail
    exact N26
   ·have hneg':decide (R<0)=false:=Kj hneg;go_wp2_with fail
    exact N26
  ·have hd:decide ((i:Int)<(j:Int))=false:=Kj (by omega);obtain rfl:i=j:=by omega
   have hmg:=HS.out i hmi hjb (by rw [HD.out];exact HI.out) (by rw [HD.out];exact HJ.out);have HMG:=Kb hmg;clear hmg;go_wp2_with fail;go_loopw [17] (fun vk wr2=>∃ k:Nat,vk = .int .i64 k/\i<=k/\k<=m/\RowC wr2 B g n cap (wandA X y0 u Y (k - a))/\BelowBut W.heap.size g W wr2) (fun vk _=>(intOf vk).toNat);case atStart=>exact ⟨m,rfl,hjb,lr,by rw [<-HW0.out,HD.out];exact hrk,hbk⟩
   case round=>
    obtain ⟨k,rfl,hak,hkr,hrk2,hbk2⟩:=hrel;by_cases hlt2:i<k
    ·have hkz:(i:Int)<(k:Int):=by omega
     obtain ⟨t,ht⟩:=Ka (k - 1);have hkt1:k=t+1:=by omega
     have hkn:k<n:=by omega
     have htn:t<n:=by omega
     have hkt:t<k:=by omega
     have htm:t<=m:=by omega
     have hit:i<=t:=by omega
     have htv:t - a<u.length:=by have:=HUL.out;omega
     have hsw:=hrk2.swap k t hkn htn;have hwa:=HWL.out (t - a) htv;obtain ⟨q1,q2,q3⟩:=down_sub hkt1 (by omega) htv;rw [q2,q3,<-q1] at hwa;rw [hwa] at hsw;obtain ⟨y,hy⟩:∃ y,(wandA X y0 u Y (k - a))[k]! = y:=⟨_,rfl⟩
     obtain ⟨x,hx⟩:∃ x,(wandA X y0 u Y (k - a))[t]! = x:=⟨_,rfl⟩
     rw [hx,hy] at hsw;have cx:∀ q u,(ckL x)[q]? = some u->wr.cell? ⟨g,t * 9+q,none⟩=some u:=fun q u hu=>hrk2.c t htn q (by rw [hx];exact hu);have cy:∀ q u,(ckL y)[q]? = some u->wr.cell? ⟨g,k * 9+q,none⟩=some u:=fun q u hu=>hrk2.c k hkn q (by rw [hy];exact hu);have fx:∀ q,wr.frozen? ⟨g,t * 9+q,none⟩=false:=fun q=>hrk2.f _;have fy:∀ q,wr.frozen? ⟨g,k * 9+q,none⟩=false:=fun q=>hrk2.f _;have hbs:=(hbk2.put9 (k * 9) x).put9 (t * 9) y;have HSW:=Kb hsw;have HBS:=Kb hbs;have hkz2:(k:Int)<(n:Int):=by omega
     have htz2:(t:Int)<(n:Int):=by omega
     have hs1:(k:Int) - 1=(t:Int):=by omega
     have hw1:IntKind.i64.wrap ((k:Int) - 1)=(t:Int):=by rw [IntWalk.i64_in _ (by omega)];omega
     exact N35
    ·have hd2:decide ((i:Int)<(k:Int))=false:=Kj (by omega);obtain rfl:k=i:=by omega
     go_wp2_with fail;refine bodyPost_ret (results_none (by rfl) _ _ _) rfl ⟨rfl,?_,hbk2⟩;have e:wandA X y0 u Y (k - a)=(X ++ mg ltC u [y0] ++ Y).toArray:=by rw [HMG.out];simp [wandA]
     rw [<-e];exact hrk2
def Stg (W0:World)(B g n cap:Nat)(d:Array Ck)(w:World):Prop:=RowC w B g n cap d/\BelowBut W0.heap.size g W0 w
abbrev rotArgs (g n cap a m b:Nat):Array Value:=#[.slice (some ⟨g,0,none⟩) n cap,.int .i64 a,.int .i64 m,.int .i64 b,.func (.func 87) #[] #[]]
def SymIH (B g n cap L:Nat):Prop:=∀ (a m b:Nat) (X u v Y:List Ck) (W:World),RowC W B g n cap (X ++ u ++ v ++ Y).toArray->a=X.length->m=a+u.length->b=m+v.length->a<m->m<b->b - a<L->Srt ltC u->Srt ltC v ->
 Calls Tryz.prog 202 (rotArgs g n cap a m b) W fun e W'=>e = .returned (.tuple #[])/\RowC W' B g n cap (X ++ mg ltC u v ++ Y).toArray/\BelowBut W.heap.size g W W'
theorem sym_stages (B g n cap a m b st en mid:Nat)(X u v Y:List Ck)(W0:World)(hn:n<=1000)(ha:a=X.length)(hm:m=a+u.length)(hb:b=m+v.length)(hab:a<b)(hmid:mid=(a+b) / 2)(hu:Srt ltC u)(hv:Srt ltC v)
 (k1:a<=st) (k2:st<=m) (k3:m<=en) (k4:en<=b) (k5:(st - a)+(en - m)=mid - a) (k6:st<=mid) (k7:mid<=en) (hmg:mg ltC u v=mg ltC (u.take (st - a)) (v.take (en - m)) ++ mg ltC (u.drop (st - a)) (v.drop (en - m)))
 (ih:SymIH B g n cap (b - a)) :
 ∃ d1 d2 : Array Ck,
   ((st<m/\m<en)->∀ w,Stg W0 B g n cap (X ++ u ++ v ++ Y).toArray w->Calls Tryz.prog 247 (rotArgs g n cap st m en) w fun e w'=>e = .returned (.tuple #[])/\Stg W0 B g n cap d1 w') /\
   (¬ (st<m/\m<en)->∀ w,Stg W0 B g n cap (X ++ u ++ v ++ Y).toArray w->Stg W0 B g n cap d1 w) /\
   ((a<st/\st<mid)->∀ w,Stg W0 B g n cap d1 w->Calls Tryz.prog 202 (rotArgs g n cap a st mid) w fun e w'=>e = .returned (.tuple #[])/\Stg W0 B g n cap d2 w') /\
   (¬ (a<st/\st<mid)->∀ w,Stg W0 B g n cap d1 w->Stg W0 B g n cap d2 w) /\
   ((mid<en/\en<b)->∀ w,Stg W0 B g n cap d2 w->Calls Tryz.prog 202 (rotArgs g n cap mid en b) w fun e w'=>e = .returned (.tuple #[])/\Stg W0 B g n cap (X ++ mg ltC u v ++ Y).toArray w') /\
   (¬ (mid<en/\en<b)->∀ w,Stg W0 B g n cap d2 w->Stg W0 B g n cap (X ++ mg ltC u v ++ Y).toArray w):=by
 obtain ⟨p,hp⟩:=Ka (u.take (st - a));obtain ⟨q,hq⟩:=Ka (u.drop (st - a));obtain ⟨r,hr⟩:=Ka (v.take (en - m));obtain ⟨s,hs⟩:=Ka (v.drop (en - m));have eu:u=p ++ q:=by rw [<-hp,<-hq,Jt]
 have ev:v=r ++ s:=by rw [<-hr,<-hs,Jt]
 have lp:p.length=st - a:=by rw [<-hp,Jk];omega
 have lq:q.length=m - st:=by rw [<-hq,Jy];omega
 have lr:r.length=en - m:=by rw [<-hr,Jk];omega
 have ls:s.length=b - en:=by rw [<-hs,Jy];omega
 have sp:Srt ltC p:=by rw [<-hp];exact srt_take ltC hu _
 have sq:Srt ltC q:=by rw [<-hq];exact srt_drop ltC hu _
 have sr:Srt ltC r:=by rw [<-hr];exact srt_take ltC hv _
 have ss:Srt ltC s:=by rw [<-hs];exact srt_drop ltC hv _
 rw [hp,hq,hr,hs] at hmg;rw [hmg];have lpr:(mg ltC p r).length=mid - a:=by rw [mg_length,lp,lr];exact k5
 have hmb:mid<b:=by omega
 refine ⟨(X ++ p ++ r ++ q ++ s ++ Y).toArray,(X ++ mg ltC p r ++ q ++ s ++ Y).toArray,?_,?_,?_,?_,?_,?_⟩
 ·rintro ⟨h1,h2⟩ w ⟨hw,hbw⟩;have hw':RowC w B g n cap ((X ++ p) ++ q ++ r ++ (s ++ Y)).toArray:=by
   have e:X ++ u ++ v ++ Y=(X ++ p) ++ q ++ r ++ (s ++ Y):=by rw [eu,ev];simp only [Jj]
   rw [<-e];exact hw
  refine (rot_any B g n cap st m en (X ++ p) q r (s ++ Y) w hw' (by rw [Kw,lp];omega) (by rw [lq];omega) (by rw [lr];omega) h1 h2 hn).mono ?_;rintro e w' ⟨he,hr',hb'⟩;refine ⟨he,?_,hbw.stepb hb' hbw.size⟩;have e:X ++ p ++ r ++ q ++ s ++ Y=(X ++ p) ++ r ++ q ++ (s ++ Y):=by simp only [Jj]
  rw [e];exact hr'
 ·rintro h w ⟨hw,hbw⟩;refine ⟨?_,hbw⟩;have e:X ++ p ++ r ++ q ++ s ++ Y=X ++ u ++ v ++ Y:=by
   rw [eu,ev];rcases Zn st m with h1 | h1
   ·obtain rfl:r=[]:=Ja (by omega);simp
   ·obtain rfl:q=[]:=Ja (by omega);simp
  rw [e];exact hw
 ·rintro ⟨h1,h2⟩ w ⟨hw,hbw⟩;have hw':RowC w B g n cap (X ++ p ++ r ++ (q ++ s ++ Y)).toArray:=by
   have e:X ++ p ++ r ++ q ++ s ++ Y=X ++ p ++ r ++ (q ++ s ++ Y):=by simp only [Jj]
   rw [<-e];exact hw
  refine (ih a st mid X p r (q ++ s ++ Y) w hw' ha (by omega) (by omega) h1 h2 (by omega) sp sr).mono ?_;rintro e w' ⟨he,hr',hb'⟩;refine ⟨he,?_,hbw.stepb hb' hbw.size⟩;have e:X ++ mg ltC p r ++ q ++ s ++ Y=X ++ mg ltC p r ++ (q ++ s ++ Y):=by simp only [Jj]
  rw [e];exact hr'
 ·rintro h w ⟨hw,hbw⟩;refine ⟨?_,hbw⟩;have e:X ++ mg ltC p r ++ q ++ s ++ Y=X ++ p ++ r ++ q ++ s ++ Y:=by
   rcases Zn a st with h1 | h1
   ·obtain rfl:r=[]:=Ja (by omega);rw [mg_nil'];simp
   ·obtain rfl:p=[]:=Ja (by omega);rw [mg_nil];simp
  rw [e];exact hw
 ·rintro ⟨h1,h2⟩ w ⟨hw,hbw⟩;have hw':RowC w B g n cap ((X ++ mg ltC p r) ++ q ++ s ++ Y).toArray:=by
   have e:X ++ mg ltC p r ++ q ++ s ++ Y=(X ++ mg ltC p r) ++ q ++ s ++ Y:=by simp only [Jj]
   rw [<-e];exact hw
  refine (ih mid en b (X ++ mg ltC p r) q s Y w hw' (by rw [Kw,lpr];omega) (by omega) (by omega) h1 h2 (by omega) sq ss).mono ?_;rintro e w' ⟨he,hr',hb'⟩;refine ⟨he,?_,hbw.stepb hb' hbw.size⟩;have e:X ++ (mg ltC p r ++ mg ltC q s) ++ Y=(X ++ mg ltC p r) ++ mg ltC q s ++ Y:=by simp only [Jj]
  rw [e];exact hr'
 ·rintro h w ⟨hw,hbw⟩;refine ⟨?_,hbw⟩;have e:X ++ (mg ltC p r ++ mg ltC q s) ++ Y=X ++ mg ltC p r ++ q ++ s ++ Y:=by
   rcases Zn mid en with h1 | h1
   ·obtain rfl:s=[]:=Ja (by omega);rw [mg_nil'];simp
   ·obtain rfl:q=[]:=Ja (by omega);rw [mg_nil];simp
  rw [e];exact hw
theorem three_way (p q r:Nat):(Hid (p<q/\q<r)/\(p:Int)<(q:Int)/\(q:Int)<(r:Int))\/(Hid (¬ (p<q/\q<r))/\decide (p<q)=false)\/(Hid (¬ (p<q/\q<r))/\(p:Int)<(q:Int)/\decide (q<r)=false):=by
 by_cases h1:p<q
 ·by_cases h2:q<r
  ·exact .inl ⟨Kb ⟨h1,h2⟩,by omega,by omega⟩
  ·exact .inr (.inr ⟨Kb (fun h=>h2 h.2),by omega,Kj h2⟩)
 ·exact .inr (.inl ⟨Kb (fun h=>h1 h.1),Kj h1⟩)
theorem N25{p:Prop}(h:p:=by
 go_region_held3 (fun w'=>w'.cell? ⟨g,t * 9,none⟩=some (.string x.n)/\w'.cell? ⟨g,t * 9+1,none⟩=some (.string x.v)/\w'.cell? ⟨g,t * 9+2,none⟩=some (.string x.d)/\w'.cell? ⟨g,t * 9+3,none⟩=some (.string x.p)/\w'.cell? ⟨g,t * 9+4,none⟩=some (.bool x.ho)/\w'.cell? ⟨g,t * 9+5,none⟩=some (.bool x.se)/\w'.cell? ⟨g,t * 9+6,none⟩=some (.bool x.hi)/\w'.cell? ⟨g,t * 9+7,none⟩=some (.int .i64 x.ex)/\w'.cell? ⟨g,t * 9+8,none⟩=some (.int .i64 x.cr)/\w'.cell? ⟨g,h * 9,none⟩=some (.string y.n)/\w'.cell? ⟨g,h * 9+1,none⟩=some (.string y.v)/\w'.cell? ⟨g,h * 9+2,none⟩=some (.string y.d)/\w'.cell? ⟨g,h * 9+3,none⟩=some (.string y.p)/\w'.cell? ⟨g,h * 9+4,none⟩=some (.bool y.ho)/\w'.cell? ⟨g,h * 9+5,none⟩=some (.bool y.se)/\w'.cell? ⟨g,h * 9+6,none⟩=some (.bool y.hi)/\w'.cell? ⟨g,h * 9+7,none⟩=some (.int .i64 y.ex)/\w'.cell? ⟨g,h * 9+8,none⟩=some (.int .i64 y.cr)/\Below wr.heap.size wr w') (first | exact s18_mk hgr CX.out CY.out (Kc wr).drew | exact s18_mk hgr CX.out CY.out ((Kc wr).drew.trans hb1) | go_keep)
  (first | (with_reducible refine (CMR.out _).mono ?_;rintro e w1 ⟨rfl,hb1⟩))
 have hB1:=(Kc wr).drew.trans hb1;clear hw1 hw2;go_wp2_with fail;go_roundw
 first
  |case rel=>exact ⟨i,h,rfl,by first | rfl | go_num,hmi,hih,hhb,⟨hrk.next hB1,hbk.below hB1 hbk.size⟩,HI.out,.inr (by rw [HL2.out];exact HN.out)⟩
   case measure=>simp [intOf];omega
  |case rel=>exact ⟨h+1,j,by go_num,rfl,hmh,by omega,hjb,⟨hrk.next hB1,hbk.below hB1 hbk.size⟩,.inr (by rw [HL1.out];exact HN.out),HJ.out⟩
   case measure=>simp [intOf];omega
 ):p:=h
theorem sym_gen (B g n cap a m b:Nat)(X u v Y:List Ck)(W:World)(h:RowC W B g n cap (X ++ u ++ v ++ Y).toArray)(ha:a=X.length)(hm:m=a+u.length)(hb:b=m+v.length)(h1:2<=u.length)(h2:2<=v.length)(hu:Srt ltC u)(hv:Srt ltC v)(hn:n<=1000)(ih:SymIH B g n cap (b - a)):
 Calls Tryz.prog 202 #[.slice (some ⟨g,0,none⟩) n cap,.int .i64 a,.int .i64 m,.int .i64 b,.func (.func 87) #[] #[]] W fun e W'=>e = .returned (.tuple #[])/\RowC W' B g n cap (X ++ mg ltC u v ++ Y).toArray/\BelowBut W.heap.size g W W':=by
 have CM:=Kb (fun (x y:Ck) (R:Int) (hR:cmpC x y=R) (W:World)=>cmp_is x y R hR W);have hsz:b+Y.length=n:=by have:=h.size;simp at this;omega
 have hbn:b<=n:=by omega
 have ham:a+2<=m:=by omega
 have hmb:m+2<=b:=by omega
 have hma1:((m:Int) - (a:Int) == 1)=false:=Ki.2 (by omega);have hbm1:((b:Int) - (m:Int) == 1)=false:=Ki.2 (by omega);obtain ⟨mid,hmid⟩:=Ka ((a+b) / 2);obtain ⟨nn,hnn⟩:=Ka (mid+m);obtain ⟨pp,hpp⟩:=Ka (nn - 1);have hmi1:((a:Int)+(b:Int)) / 2=(mid:Int):=by omega
 have hnn1:(mid:Int)+(m:Int)=(nn:Int):=by omega
 have hpp1:(nn:Int) - 1=(pp:Int):=by omega
 have hamid:a<=mid:=by omega
 have hmidb:mid<=b:=by omega
 have hnb:nn<=2000:=by omega
 have hpb:pp<=2000:=by omega
 obtain ⟨lo,hlo⟩:=Ka (if mid<m then nn - b else a);obtain ⟨hi,hhi⟩:=Ka (if mid<m then mid else m);have hl1:m > mid->lo=nn - b/\hi=mid:=fun h=>by rw [<-hlo,<-hhi,Kf h,Kf h];exact ⟨rfl,rfl⟩
 have hl2:¬ m > mid->lo=a/\hi=m:=fun h=>by rw [<-hlo,<-hhi,Ke h,Ke h];exact ⟨rfl,rfl⟩
 have hlh:lo<=hi:=by
  by_cases hc:m > mid
  ·obtain ⟨e1,e2⟩:=hl1 hc;omega
  ·obtain ⟨e1,e2⟩:=hl2 hc;omega
 have hbd:∀ h,lo<=h->h<hi->h<n/\pp - h<n/\h<=pp:=fun h p1 p2=>by
  by_cases hc:m > mid
  ·obtain ⟨e1,e2⟩:=hl1 hc;omega
  ·obtain ⟨e1,e2⟩:=hl2 hc;omega
 have hen:∀ i,lo<=i->i<=hi->i<=nn:=fun i p1 p2=>by
  by_cases hc:m > mid
  ·obtain ⟨e1,e2⟩:=hl1 hc;omega
  ·obtain ⟨e1,e2⟩:=hl2 hc;omega
 obtain ⟨d,hd⟩:=Ka ((X ++ u ++ v ++ Y).toArray)
 have hst:∀ st en,lo<=st->st<=hi->en=nn - st->(st=lo\/ltC d[nn - st]! d[st - 1]! = false)->(st=hi\/ltC d[nn - 1 - st]! d[st]! = true)->st<=1000/\en<=1000/\0<=st/\0<=en/\∃ d1 d2:Array Ck,
  ((st<m/\m<en)->∀ w,Stg W B g n cap d w->Calls Tryz.prog 247 (rotArgs g n cap st m en) w fun e w'=>e = .returned (.tuple #[])/\Stg W B g n cap d1 w') /\
  (¬ (st<m/\m<en)->∀ w,Stg W B g n cap d w->Stg W B g n cap d1 w) /\
  ((a<st/\st<mid)->∀ w,Stg W B g n cap d1 w->Calls Tryz.prog 202 (rotArgs g n cap a st mid) w fun e w'=>e = .returned (.tuple #[])/\Stg W B g n cap d2 w') /\
  (¬ (a<st/\st<mid)->∀ w,Stg W B g n cap d1 w->Stg W B g n cap d2 w) /\
  ((mid<en/\en<b)->∀ w,Stg W B g n cap d2 w->Calls Tryz.prog 202 (rotArgs g n cap mid en b) w fun e w'=>e = .returned (.tuple #[])/\Stg W B g n cap (X ++ mg ltC u v ++ Y).toArray w') /\
  (¬ (mid<en/\en<b)->∀ w,Stg W B g n cap d2 w->Stg W B g n cap (X ++ mg ltC u v ++ Y).toArray w):=fun st en p1 p2 p3 p4 p5=>by
  obtain ⟨k1,k2,k3,k4,k5,k6,k7,hmg⟩:=sym_part ltC swoC X u v Y a m b mid nn lo hi st en d hd.symm ha hm hb hmid.symm hnn.symm (by omega) (by omega) hl1 hl2 p1 p2 p3 hu hv p4 p5
  have hq:=sym_stages B g n cap a m b st en mid X u v Y W hn ha hm hb (by omega) hmid.symm hu hv k1 k2 k3 k4 k5 k6 k7 hmg ih
  rw [hd] at hq
  exact ⟨by omega,by omega,Kh _,Kh _,hq⟩
 rw [hd] at h;have HR0:=Kb h;have HBD:=Kb hbd;have HEN:=Kb hen;have HST:=Kb hst;have HPP:=Kb (show nn=pp+1 by omega);have hlo0:lo<=1000:=by omega
 have hhi0:hi<=1000:=by
  by_cases hc:m > mid
  ·obtain ⟨e1,e2⟩:=hl1 hc;omega
  ·obtain ⟨e1,e2⟩:=hl2 hc;omega
 have hcase:(Hid (mid<m)/\(mid:Int)<(m:Int)/\(nn:Int) - (b:Int)=(lo:Int)/\Hid (hi=mid))\/((¬ (mid:Int)<(m:Int))/\Hid (lo=a)/\Hid (hi=m)):=by
  by_cases hgm:mid<m
  ·obtain ⟨e1,e2⟩:=hl1 hgm;exact .inl ⟨Kb hgm,by omega,by omega,Kb e2⟩
  ·obtain ⟨e1,e2⟩:=hl2 hgm;exact .inr ⟨by omega,Kb e1,Kb e2⟩
 have HCASE:=Kb hcase;clear h hsz ha hm hb hd hmid hnn hpp hlo hhi hl1 hl2 hbd hen hst h1 h2 hu hv ih hcase;go_enter Tryz.func202,Tryz.ntmps202;go_upto_if 140 with fail;go_cut [20,21] from 138 to 146 (fun v20 v21 wx=>Value.int .i64 lo=v20/\Value.int .i64 hi=v21/\W=wx)
 case first=>
  rcases HCASE.out with ⟨hgm,hgz,hlz,E2⟩ | ⟨hgz,E1,E2⟩
  ·go_wp2_with fail;go_meet;case rel=>exact ⟨by first | rfl | (congr 1;omega),by first | rfl | (have q2:=E2.out;congr 1;omega),rfl⟩
  ·go_wp2_with fail;go_meet;case rel=>exact ⟨by first | rfl | (have q1:=E1.out;congr 1;omega),by first | rfl | (have q2:=E2.out;congr 1;omega),rfl⟩
 case rest=>
  obtain ⟨rfl,rfl,rfl⟩:=hcut;clear HCASE;go_wp2_with fail;go_loopw [20,21] (fun vi vj wr=>∃ i j:Nat,vi = .int .i64 i/\vj = .int .i64 j/\lo<=i/\i<=j/\j<=hi/\Stg W B g n cap d wr/\(i=lo\/ltC d[nn - i]! d[i - 1]! = false)/\(j=hi\/ltC d[nn - 1 - j]! d[j]! = true)) (fun vi vj _=>(intOf vj).toNat - (intOf vi).toNat);case atStart=>exact ⟨lo,hi,rfl,rfl,lr,hlh,lr,⟨HR0.out,BelowBut.refl _ _ _⟩,.inl rfl,.inl rfl⟩
  case round=>
   obtain ⟨i,j,rfl,rfl,hmi,hij,hjb,⟨hrk,hbk⟩,hI,hJ⟩:=hrel;have HI:=Kb hI;have HJ:=Kb hJ;clear hI hJ;by_cases hlt:i<j
   ·have hlz:(i:Int)<(j:Int):=by omega
    obtain ⟨h,hh⟩:=Ka ((i+j) / 2);obtain ⟨hih,hhj⟩:=half_lt hlt hh;obtain ⟨t,ht⟩:=Ka (pp - h);obtain ⟨hhn,htn,hhp⟩:=HBD.out h (by omega) (by omega);rw [ht] at htn;have hmh:lo<=h+1:=by omega
    have hmh2:lo<=h:=by omega
    have hhb:h<=hi:=by omega
    have hnp:=HPP.out;obtain ⟨x,hx⟩:∃ x,d[t]! = x:=⟨_,rfl⟩
    obtain ⟨y,hy⟩:∃ y,d[h]! = y:=⟨_,rfl⟩
    have cx:∀ q u,(ckL x)[q]? = some u->wr.cell? ⟨g,t * 9+q,none⟩=some u:=fun q u hu=>hrk.c t htn q (by rw [hx];exact hu);have cy:∀ q u,(ckL y)[q]? = some u->wr.cell? ⟨g,h * 9+q,none⟩=some u:=fun q u hu=>hrk.c h hhn q (by rw [hy];exact hu);have hgr:=hrk.lt;obtain ⟨R,hRR⟩:=Ka (cmpC x y);have hL1:ltC d[nn - (h+1)]! d[h+1 - 1]! = decide (R<0):=by rw [show nn - (h+1)=t by omega,Nat.add_sub_cancel,hx,hy,<-hRR];rfl
    have hL2:ltC d[nn - 1 - h]! d[h]! = decide (R<0):=by rw [show nn - 1 - h=t by omega,hx,hy,<-hRR];rfl
    have CMR:=Kb (fun W=>CM.out x y R hRR W);have HL1:=Kb hL1;have HL2:=Kb hL2;have CX:=Kb cx;have CY:=Kb cy;have hhz:(h:Int)<(n:Int):=by omega
    have htz:(t:Int)<(n:Int):=by omega
    have hh1:((i:Int)+(j:Int)) / 2=(h:Int):=by omega
    have hs1:(pp:Int) - (h:Int)=(t:Int):=by omega
    have hw1:IntKind.i64.wrap ((pp:Int) - (h:Int))=(t:Int):=by rw [IntWalk.i64_in _ (by omega)];omega
    have hw2:IntKind.i64.wrap (t:Int)=(t:Int):=IntWalk.i64_in _ (by omega);have x0:=cx 0 _ rfl;have x1:=cx 1 _ rfl;have x2:=cx 2 _ rfl;have x3:=cx 3 _ rfl;have x4:=cx 4 _ rfl;have x5:=cx 5 _ rfl;have x6:=cx 6 _ rfl;have x7:=cx 7 _ rfl;have x8:=cx 8 _ rfl;have y0:=cy 0 _ rfl;have y1:=cy 1 _ rfl;have y2:=cy 2 _ rfl;have y3:=cy 3 _ rfl;have y4:=cy 4 _ rfl;have y5:=cy 5 _ rfl;have y6:=cy 6 _ rfl;have y7:=cy 7 _ rfl;have y8:=cy 8 _ rfl;simp only [Ku] at x0 y0;clear hx hy hh hL1 hL2 hRR cx cy ht hnp;have hcs:decide (R<0)=true\/decide (R<0)=false:=by cases decide (R<0) <;> simp
    rcases hcs with hneg | hneg
    ·have hn2:R<0:=Xh hneg;have HN:=Kb hneg;go_wp2_with fail
     exact N25
    ·have hn2:¬ R<0:=of_decide_eq_false hneg;have HN:=Kb hneg;go_wp2_with fail
     exact N25
   ·have hd:decide ((i:Int)<(j:Int))=false:=Kj (by omega);obtain rfl:i=j:=by omega
    obtain ⟨en,hen⟩:=Ka (nn - i);have hen1:=HEN.out i hmi hjb;have hen2:(nn:Int) - (i:Int)=(en:Int):=by omega
    obtain ⟨k1,k2,k3,k4,d1,d2,C0,E0,C1,E1,C2,E2⟩:=HST.out i en hmi hjb hen.symm HI.out HJ.out;have s0:Stg W B g n cap d wr:=⟨hrk,hbk⟩
    have HC0:=Kb C0;have HE0:=Kb E0;have HC1:=Kb C1;have HE1:=Kb E1;have HC2:=Kb C2;have HE2:=Kb E2;clear C0 E0 C1 E1 C2 E2 hen HI HJ;have z1:=three_way i m en;obtain ⟨bA,hbA⟩:=Ka (decide (i<m/\m<en));have HbA:=Kb hbA;clear hbA;go_upto_region 39 with fail;go_cut [185] from 178 to 184 (fun c wx=>Value.bool bA=c/\wr=wx)
    case first=>
     rcases z1 with ⟨n1,i1,i2⟩ | ⟨n1,i1⟩ | ⟨n1,i1,i2⟩
     all_goals go_wp2_with fail;go_meet;case rel=>exact ⟨Kq Value.bool (HbA.out.symm.trans (by first | exact Kx n1.out | exact Kj n1.out)),rfl⟩
    case rest=>
     obtain ⟨rfl,rfl⟩:=hcut;clear z1;go_upto_if 185 with fail;go_cut [] from 185 to 191 (fun wx=>Stg W B g n cap d1 wx)
     case first=>
      cases bA
      ·go_wp2_with fail;go_meet;case rel=>exact HE0.out (of_decide_eq_false HbA.out) _ s0
      ·go_wp2_with (with_reducible refine (HC0.out (Xh HbA.out) _ s0).mono ?_;rintro e w1 ⟨rfl,s9⟩)
       go_meet;case rel=>exact s9
     case rest=>
      have s1:=hcut;clear hcut;have z2:=three_way a i mid;obtain ⟨bB,hbB⟩:=Ka (decide (a<i/\i<mid));have HbB:=Kb hbB;clear hbB;go_upto_region 41 with fail;go_cut [199] from 192 to 198 (fun c wx=>Value.bool bB=c/\wc=wx)
      case first=>
       rcases z2 with ⟨n1,i1,i2⟩ | ⟨n1,i1⟩ | ⟨n1,i1,i2⟩
       all_goals go_wp2_with fail;go_meet;case rel=>exact ⟨Kq Value.bool (HbB.out.symm.trans (by first | exact Kx n1.out | exact Kj n1.out)),rfl⟩
      case rest=>
       obtain ⟨rfl,rfl⟩:=hcut;clear z2;go_upto_if 199 with fail;go_cut [] from 199 to 205 (fun wx=>Stg W B g n cap d2 wx)
       case first=>
        cases bB
        ·go_wp2_with fail;go_meet;case rel=>exact HE1.out (of_decide_eq_false HbB.out) _ s1
        ·go_wp2_with (with_reducible refine (HC1.out (Xh HbB.out) _ s1).mono ?_;rintro e w1 ⟨rfl,s9⟩)
         go_meet;case rel=>exact s9
       case rest=>
        have s2:=hcut;clear hcut;have z3:=three_way mid en b;obtain ⟨bC,hbC⟩:=Ka (decide (mid<en/\en<b));have HbC:=Kb hbC;clear hbC;go_upto_region 43 with fail;go_cut [213] from 206 to 212 (fun c wx=>Value.bool bC=c/\wc=wx)
        case first=>
         rcases z3 with ⟨n1,i1,i2⟩ | ⟨n1,i1⟩ | ⟨n1,i1,i2⟩
         all_goals go_wp2_with fail;go_meet;case rel=>exact ⟨Kq Value.bool (HbC.out.symm.trans (by first | exact Kx n1.out | exact Kj n1.out)),rfl⟩
        case rest=>
         obtain ⟨rfl,rfl⟩:=hcut;clear z3;cases bC
         ·go_wp2_with fail;have s3:=HE2.out (of_decide_eq_false HbC.out) _ s2;first | exact bodyPost_ret (results_none (by rfl) _ _ _) rfl ⟨rfl,s3.1,s3.2⟩ | (go_end0;exact ⟨rfl,s3.1,s3.2⟩)
         ·go_wp2_with (with_reducible refine (HC2.out (Xh HbC.out) _ s2).mono ?_;rintro e w1 ⟨rfl,s3⟩)
          first | exact bodyPost_ret (results_none (by rfl) _ _ _) rfl ⟨rfl,s3.1,s3.2⟩ | (go_end0;exact ⟨rfl,s3.1,s3.2⟩)
theorem sym_any:∀ (N:Nat)(B g n cap:Nat) ,n<=1000->SymIH B g n cap N:=by
 intro N
 induction N with
 | zero=>intro B g n cap hn a m b X u v Y W _ _ _ _ _ _ h;omega
 | succ N ih=>
   intro B g n cap hn a m b X u v Y W h ha hm hb h1 h2 hlt hu hv
   rcases Zn u.length 2 with q1 | q1
   ·obtain ⟨x0,rfl⟩:=List.length_eq_one_iff.1 (show u.length=1 by omega)
    exact sym_one B g n cap a m b X x0 v Y W h ha (by simp at hm;omega) hb hv hn
   rcases Zn v.length 2 with q2 | q2
   ·obtain ⟨y0,rfl⟩:=List.length_eq_one_iff.1 (show v.length=1 by omega)
    exact sym_two B g n cap a m b X u y0 Y W h ha hm (by simp at hb;omega) hu q1 hn
   exact sym_gen B g n cap a m b X u v Y W h ha hm hb q1 q2 hu hv hn (fun a' m' b' X' u' v' Y' W' g1 g2 g3 g4 g5 g6 g7 g8 g9=>ih B g n cap hn a' m' b' X' u' v' Y' W' g1 g2 g3 g4 g5 g6 (by omega) g8 g9)
end Go.Proofs.YtjdhaacmlpegoaaGreatDoor
