/- Part 19 of what the proof needs: SW SX SY. -/
import Derived.Test.YtjdhaacmlpegoaaGreatDoorP18
import Derived.Test.YtjdhaacmlpegoaaGreatDoorP01
set_option maxRecDepth 20000
set_option maxHeartbeats 16000000
namespace Go.Proofs.YtjdhaacmlpegoaaGreatDoor
open Go.RowKit Go.Sort
set_option linter.unusedSimpArgs false
set_option linter.unusedVariables false
theorem BelowBut.stepb {n n' g:Nat}{W w w':World}(h:BelowBut n g W w)(k:BelowBut n' g w w')(hn:n<=n'):BelowBut n g W w':=⟨k.os.trans h.os,k.tape.trans h.tape,k.output.trans h.output,Nat.le_trans h.size k.size,fun x hx hb=>(k.block x (by omega) hb).trans (h.block x hx hb)⟩
theorem swr_any (B g n cap a b m:Nat)(X p M q Y:List Ck)(W:World)(h:RowC W B g n cap (X ++ p ++ M ++ q ++ Y).toArray)(hp:p.length=m)(hq:q.length=m)(ha:a=X.length)(hb:b=X.length+m+M.length)(hn:n<=1000):
 Calls Tryz.prog 263 #[.slice (some ⟨g,0,none⟩) n cap,.int .i64 a,.int .i64 b,.int .i64 m,.func (.func 87) #[] #[]] W fun e W'=>e = .returned (.tuple #[])/\RowC W' B g n cap (X ++ q ++ M ++ p ++ Y).toArray/\BelowBut W.heap.size g W W':=by
 have hsz:X.length+m+M.length+m+Y.length=n:=by have:=h.size;simp at this;omega
 have han:a+m<=n:=by omega
 have hbn:b+m<=n:=by omega
 have hamb:a+m<=b:=by omega
 have hg:=h.lt
 rw [<-srA_zero X p M q Y] at h
 have HS:=Lib.hid (fun i (hi:i<m)=>srA_step X p M q Y m i a b hp hq hi ha hb)
 have HE:=Lib.hid (srA_end X p M q Y m hp hq)
 have HR0:=Lib.hid h
 clear h hsz hp hq ha hb
 go_enter Tryz.func263,Tryz.ntmps263
 go_wp2_with fail
 go_loopw [10] (fun vi wr=>∃ i:Nat,vi = .int .i64 i/\i<=m/\RowC wr B g n cap (srA X p M q Y i)/\BelowBut W.heap.size g W wr) (fun vi _=>m - (intOf vi).toNat)
 case atStart=>exact ⟨0,rfl,Nat.zero_le _,HR0.out,BelowBut.refl _ _ _⟩
 case round=>
  obtain ⟨i,rfl,him,hrk,hbk⟩:=hrel
  by_cases hlt:i<m
  ·have hiz:(i:Int)<(m:Int):=by omega
   obtain ⟨s,hs⟩:∃ s,a+i=s:=⟨_,rfl⟩
   obtain ⟨t,ht⟩:∃ t,b+i=t:=⟨_,rfl⟩
   have hsn:s<n:=by omega
   have htn:t<n:=by omega
   have hslt:s<t:=by omega
   have hsw:=hrk.swap s t hsn htn
   have hst:=HS.out i hlt
   rw [hs,ht] at hst
   rw [hst] at hsw
   obtain ⟨x,hx⟩:∃ x,(srA X p M q Y i)[s]! = x:=⟨_,rfl⟩
   obtain ⟨y,hy⟩:∃ y,(srA X p M q Y i)[t]! = y:=⟨_,rfl⟩
   rw [hx,hy] at hsw
   have cx:∀ r u,(ckL x)[r]? = some u->wr.cell? ⟨g,s * 9+r,none⟩=some u:=fun r u hu=>hrk.c s hsn r (by rw [hx];exact hu)
   have cy:∀ r u,(ckL y)[r]? = some u->wr.cell? ⟨g,t * 9+r,none⟩=some u:=fun r u hu=>hrk.c t htn r (by rw [hy];exact hu)
   have fx:∀ r,wr.frozen? ⟨g,s * 9+r,none⟩=false:=fun r=>hrk.f _
   have fy:∀ r,wr.frozen? ⟨g,t * 9+r,none⟩=false:=fun r=>hrk.f _
   clear hx hy hst
   have x0:=cx 0 _ rfl
   have x1:=cx 1 _ rfl
   have x2:=cx 2 _ rfl
   have x3:=cx 3 _ rfl
   have x4:=cx 4 _ rfl
   have x5:=cx 5 _ rfl
   have x6:=cx 6 _ rfl
   have x7:=cx 7 _ rfl
   have x8:=cx 8 _ rfl
   have y0:=cy 0 _ rfl
   have y1:=cy 1 _ rfl
   have y2:=cy 2 _ rfl
   have y3:=cy 3 _ rfl
   have y4:=cy 4 _ rfl
   have y5:=cy 5 _ rfl
   have y6:=cy 6 _ rfl
   have y7:=cy 7 _ rfl
   have y8:=cy 8 _ rfl
   simp only [Nat.add_zero] at x0 y0
   have fx0:=fx 0
   have fx1:=fx 1
   have fx2:=fx 2
   have fx3:=fx 3
   have fx4:=fx 4
   have fx5:=fx 5
   have fx6:=fx 6
   have fx7:=fx 7
   have fx8:=fx 8
   have fy0:=fy 0
   have fy1:=fy 1
   have fy2:=fy 2
   have fy3:=fy 3
   have fy4:=fy 4
   have fy5:=fy 5
   have fy6:=fy 6
   have fy7:=fy 7
   have fy8:=fy 8
   simp only [Nat.add_zero] at fx0 fy0
   have hbs:=(hbk.put9 (s * 9) y).put9 (t * 9) x
   have hsz':(s:Int)<(n:Int):=by omega
   have htz:(t:Int)<(n:Int):=by omega
   have hs1:(a:Int)+(i:Int)=(s:Int):=by omega
   have ht1:(b:Int)+(i:Int)=(t:Int):=by omega
   have hws:IntKind.i64.wrap ((a:Int)+i)=s:=by rw [IntWalk.i64_in _ (by omega)];omega
   have hwt:IntKind.i64.wrap ((b:Int)+i)=t:=by rw [IntWalk.i64_in _ (by omega)];omega
   have hws2:IntKind.i64.wrap (s:Int)=s:=IntWalk.i64_in _ (by omega)
   have hwt2:IntKind.i64.wrap (t:Int)=t:=IntWalk.i64_in _ (by omega)
   have HW:=Lib.hid hsw
   have HB:=Lib.hid hbs
   clear hsw hbs hs ht cx cy fx fy
   go_wp2_with fail
   go_region
   all_goals
    clear hws hwt hws2 hwt2 hs1 ht1
    go_wp2_with fail
    go_roundw
    case rel=>exact ⟨i+1,by go_num,by omega,HW.out.next (Below.refl _ _).drew,HB.out.below (Below.refl _ _).drew HB.out.size⟩
    case measure=>simp [intOf];omega
  ·have hd:decide ((i:Int)<(m:Int))=false:=decide_eq_false (by omega)
   obtain rfl:i=m:=by omega
   go_wp2_with fail
   go_end0
   exact ⟨rfl,by rw [<-HE.out];exact hrk,hbk⟩
theorem rot_any (B g n cap a m b:Nat)(X u v Y:List Ck)(W:World)(h:RowC W B g n cap (X ++ u ++ v ++ Y).toArray)(ha:a=X.length)(hm:m=a+u.length)(hb:b=m+v.length)(h1:a<m)(h2:m<b)(hn:n<=1000):
 Calls Tryz.prog 247 #[.slice (some ⟨g,0,none⟩) n cap,.int .i64 a,.int .i64 m,.int .i64 b,.func (.func 87) #[] #[]] W fun e W'=>e = .returned (.tuple #[])/\RowC W' B g n cap (X ++ v ++ u ++ Y).toArray/\BelowBut W.heap.size g W W':=by
 have hsz:b+Y.length=n:=by have:=h.size;simp at this;omega
 have CS:=Lib.hid (fun (a b m:Nat) (X p M q Y:List Ck) (W:World) (h:RowC W B g n cap (X ++ p ++ M ++ q ++ Y).toArray) (hp:p.length=m) (hq:q.length=m) (ha:a=X.length) (hb:b=X.length+m+M.length)=>swr_any B g n cap a b m X p M q Y W h hp hq ha hb hn)
 have HR0:=Lib.hid h
 have HI:=Lib.hid (rot_start X u v Y a m b ha hm hb h1 h2)
 obtain ⟨G,hG⟩:∃ G,(X ++ v ++ u ++ Y).toArray=G:=⟨_,rfl⟩
 rw [hG] at HI
 rw [hG]
 have hbn:b<=n:=by omega
 clear h hsz ha hm hb hG
 go_enter Tryz.func247,Tryz.ntmps247
 go_wp2_with fail
 go_loopw [10,11] (fun vi vj wr=>∃ (i j:Nat) (dk:Array Ck),vi = .int .i64 i/\vj = .int .i64 j/\i<=m/\m+j<=n/\0<i/\0<j/\RotI G m i j dk/\RowC wr B g n cap dk/\BelowBut W.heap.size g W wr) (fun vi vj _=>(intOf vi).toNat+(intOf vj).toNat)
 case atStart=>exact ⟨m - a,b - m,_,by congr 1;omega,by congr 1;omega,by omega,by omega,by omega,by omega,HI.out,HR0.out,BelowBut.refl _ _ _⟩
 case round=>
  obtain ⟨i,j,dk,rfl,rfl,him,hjn,hi0,hj0,hI,hrk,hbk⟩:=hrel
  have HI:=Lib.hid hI
  clear hI
  rcases Nat.lt_trichotomy i j with hij | hij | hij
  ·obtain ⟨X,p,M,q,Y,hdk,hp,hq,hX,hM,hN⟩:=rot_lt HI.out hij
   subst hdk
   have CR:=CS.out (m - i) (m+j - i) i X p M q Y wr hrk hp hq hX hM
   obtain ⟨s,hs⟩:∃ s,m - i=s:=⟨_,rfl⟩
   obtain ⟨t,ht⟩:∃ t,m+j - i=t:=⟨_,rfl⟩
   obtain ⟨r,hr⟩:∃ r,j - i=r:=⟨_,rfl⟩
   rw [hs,ht] at CR
   rw [hr] at hN
   have hr0:0<r:=by omega
   have hrn:m+r<=n:=by omega
   have hrj:i+r<i+j:=by omega
   have hij1:((i:Int) != (j:Int))=true:=bne_iff_ne.2 (by omega)
   have hij2:decide ((j:Int)<(i:Int))=false:=decide_eq_false (by omega)
   have hs1:(m:Int) - (i:Int)=(s:Int):=by omega
   have ht1:(m:Int)+(j:Int) - (i:Int)=(t:Int):=by omega
   have hr1:(j:Int) - (i:Int)=(r:Int):=by omega
   have HCR:=Lib.hid CR
   have HN:=Lib.hid hN
   clear CR hN hs ht hr hp hq hX hM HI
   go_wp2_with (go_at_call 263;with_reducible refine HCR.out.mono ?_;rintro e w2 ⟨rfl,hr2,hb2⟩)
   go_roundw
   case rel=>exact ⟨i,r,_,rfl,by first | rfl | (congr 1;omega),him,hrn,hi0,hr0,HN.out,hr2,hbk.stepb hb2 hbk.size⟩
   case measure=>simp [intOf];omega
  ·obtain ⟨X,p,M,q,Y,hdk,hp,hq,hX,hM,hN⟩:=rot_eq HI.out hij
   subst hdk hij
   have CR:=CS.out (m - i) m i X p M q Y wr hrk hp hq hX hM
   obtain ⟨s,hs⟩:∃ s,m - i=s:=⟨_,rfl⟩
   rw [hs,hN] at CR
   have hs1:(m:Int) - (i:Int)=(s:Int):=by omega
   have HCR:=Lib.hid CR
   clear CR hN hs hp hq hX hM HI
   go_wp2_with (go_at_call 263;with_reducible refine HCR.out.mono ?_;rintro e w2 ⟨rfl,hr2,hb2⟩)
   go_end0
   exact ⟨rfl,hr2,hbk.stepb hb2 hbk.size⟩
  ·obtain ⟨X,p,M,q,Y,hdk,hp,hq,hX,hM,hN⟩:=rot_gt HI.out hij
   subst hdk
   have CR:=CS.out (m - i) m j X p M q Y wr hrk hp hq hX hM
   obtain ⟨s,hs⟩:∃ s,m - i=s:=⟨_,rfl⟩
   obtain ⟨r,hr⟩:∃ r,i - j=r:=⟨_,rfl⟩
   rw [hs] at CR
   rw [hr] at hN
   have hr0:0<r:=by omega
   have hrn:r<=m:=by omega
   have hrj:r+j<i+j:=by omega
   have hij1:((i:Int) != (j:Int))=true:=bne_iff_ne.2 (by omega)
   have hij2:decide ((j:Int)<(i:Int))=true:=decide_eq_true (by omega)
   have hs1:(m:Int) - (i:Int)=(s:Int):=by omega
   have hr1:(i:Int) - (j:Int)=(r:Int):=by omega
   have HCR:=Lib.hid CR
   have HN:=Lib.hid hN
   clear CR hN hs hr hp hq hX hM HI
   go_wp2_with (go_at_call 263;with_reducible refine HCR.out.mono ?_;rintro e w2 ⟨rfl,hr2,hb2⟩)
   go_roundw
   case rel=>exact ⟨r,j,_,by first | rfl | (congr 1;omega),rfl,hrn,hjn,hr0,hj0,HN.out,hr2,hbk.stepb hb2 hbk.size⟩
   case measure=>simp [intOf];omega
theorem half_lt {i j h:Nat}(hij:i<j)(hh:(i+j) / 2=h):i<=h/\h<j:=by omega
theorem sym_one (B g n cap a m b:Nat)(X:List Ck)(x0:Ck)(v Y:List Ck)(W:World)(h:RowC W B g n cap (X ++ [x0] ++ v ++ Y).toArray)(ha:a=X.length)(hm:m=X.length+1)(hb:b=m+v.length)(hv:Srt ltC v)(hn:n<=1000):
 Calls Tryz.prog 202 #[.slice (some ⟨g,0,none⟩) n cap,.int .i64 a,.int .i64 m,.int .i64 b,.func (.func 87) #[] #[]] W fun e W'=>e = .returned (.tuple #[])/\RowC W' B g n cap (X ++ mg ltC [x0] v ++ Y).toArray/\BelowBut W.heap.size g W W':=by
 have CM:=Lib.hid (fun (x y:Ck) (R:Int) (hR:cmpC x y=R) (W:World)=>cmp_is x y R hR W)
 have hsz:b+Y.length=n:=by have:=h.size;simp at this;omega
 have hbn:b<=n:=by omega
 have ham:a<m:=by omega
 have hmb:m<=b:=by omega
 have hma1:((m:Int) - (a:Int) == 1)=true:=beq_iff_eq.2 (by omega)
 have HS:=Lib.hid (fun (i:Nat) h0 h0' h1 h2=>sym_first ltC swoC X v Y x0 m b i hm hb hv h0 h0' h1 h2)
 have HWR:=Lib.hid (fun k (hk:k<v.length)=>wand_right X x0 v Y k a ha hk)
 have hw0:(X ++ [x0] ++ v ++ Y).toArray=wandA X x0 v Y 0:=by simp [wandA]
 have HW0:=Lib.hid hw0
 have hdx:(X ++ [x0] ++ v ++ Y).toArray[a]! = x0:=by
  rw [ha,show X ++ [x0] ++ v ++ Y=X ++ x0 :: (v ++ Y) by simp];exact arr_at X x0 _
 have HVL:=Lib.hid (show b=a+1+v.length by omega)
 obtain ⟨d,hd⟩:∃ d,(X ++ [x0] ++ v ++ Y).toArray=d:=⟨_,rfl⟩
 rw [hd] at h hdx hw0
 have HD:=Lib.hid hd
 have hg:=h.lt
 have HR0:=Lib.hid h
 have HDX:=Lib.hid hdx
 have HMA:=Lib.hid (show m=a+1 by omega)
 clear h hsz ha hm hb hd hw0 hdx
 go_enter Tryz.func202,Tryz.ntmps202
 go_wp2_with fail
 go_loopw [10,11] (fun vi vj wr=>∃ i j:Nat,vi = .int .i64 i/\vj = .int .i64 j/\m<=i/\i<=j/\j<=b/\RowC wr B g n cap d/\BelowBut W.heap.size g W wr/\(i=m\/ltC d[i - 1]! x0=true)/\(j=b\/ltC d[j]! x0=false)) (fun vi vj _=>(intOf vj).toNat - (intOf vi).toNat)
 case atStart=>exact ⟨m,b,rfl,rfl,lr,hmb,lr,HR0.out,BelowBut.refl _ _ _,.inl rfl,.inl rfl⟩
 case round=>
  obtain ⟨i,j,rfl,rfl,hmi,hij,hjb,hrk,hbk,hI,hJ⟩:=hrel
  have HI:=Lib.hid hI
  have HJ:=Lib.hid hJ
  clear hI hJ
  by_cases hlt:i<j
  ·have hlz:(i:Int)<(j:Int):=by omega
   obtain ⟨h,hh⟩:∃ h,(i+j) / 2=h:=⟨_,rfl⟩
   obtain ⟨hih,hhj⟩:=half_lt hlt hh
   have hhn:h<n:=by omega
   have han:a<n:=by omega
   have hmh:m<=h+1:=by omega
   have hmh2:m<=h:=by omega
   have hhb:h<=b:=by omega
   obtain ⟨x,hx⟩:∃ x,d[h]! = x:=⟨_,rfl⟩
   obtain ⟨y,hy⟩:∃ y,d[a]! = y:=⟨_,rfl⟩
   have cx:∀ q u,(ckL x)[q]? = some u->wr.cell? ⟨g,h * 9+q,none⟩=some u:=fun q u hu=>hrk.c h hhn q (by rw [hx];exact hu)
   have cy:∀ q u,(ckL y)[q]? = some u->wr.cell? ⟨g,a * 9+q,none⟩=some u:=fun q u hu=>hrk.c a han q (by rw [hy];exact hu)
   have hgr:=hrk.lt
   obtain ⟨R,hRR⟩:∃ R,cmpC x y=R:=⟨_,rfl⟩
   have hL:ltC d[h]! x0=decide (R<0):=by rw [<-HDX.out,hx,hy,<-hRR];rfl
   have CMR:=Lib.hid (fun W=>CM.out x y R hRR W)
   have HL:=Lib.hid hL
   have CX:=Lib.hid cx
   have CY:=Lib.hid cy
   have hhz:(h:Int)<(n:Int):=by omega
   have haz:(a:Int)<(n:Int):=by omega
   have hh1:((i:Int)+(j:Int)) / 2=(h:Int):=by omega
   have x0:=cx 0 _ rfl
   have x1:=cx 1 _ rfl
   have x2:=cx 2 _ rfl
   have x3:=cx 3 _ rfl
   have x4:=cx 4 _ rfl
   have x5:=cx 5 _ rfl
   have x6:=cx 6 _ rfl
   have x7:=cx 7 _ rfl
   have x8:=cx 8 _ rfl
   have y0:=cy 0 _ rfl
   have y1:=cy 1 _ rfl
   have y2:=cy 2 _ rfl
   have y3:=cy 3 _ rfl
   have y4:=cy 4 _ rfl
   have y5:=cy 5 _ rfl
   have y6:=cy 6 _ rfl
   have y7:=cy 7 _ rfl
   have y8:=cy 8 _ rfl
   simp only [Nat.add_zero] at x0 y0
   clear hx hy hh hL hRR cx cy
   by_cases hneg:R<0
   ·go_wp2_with fail
    go_region_held3 (fun w'=>w'.cell? ⟨g,h * 9,none⟩=some (.string x.n)/\w'.cell? ⟨g,h * 9+1,none⟩=some (.string x.v)/\w'.cell? ⟨g,h * 9+2,none⟩=some (.string x.d)/\w'.cell? ⟨g,h * 9+3,none⟩=some (.string x.p)/\w'.cell? ⟨g,h * 9+4,none⟩=some (.bool x.ho)/\w'.cell? ⟨g,h * 9+5,none⟩=some (.bool x.se)/\w'.cell? ⟨g,h * 9+6,none⟩=some (.bool x.hi)/\w'.cell? ⟨g,h * 9+7,none⟩=some (.int .i64 x.ex)/\w'.cell? ⟨g,h * 9+8,none⟩=some (.int .i64 x.cr)/\w'.cell? ⟨g,a * 9,none⟩=some (.string y.n)/\w'.cell? ⟨g,a * 9+1,none⟩=some (.string y.v)/\w'.cell? ⟨g,a * 9+2,none⟩=some (.string y.d)/\w'.cell? ⟨g,a * 9+3,none⟩=some (.string y.p)/\w'.cell? ⟨g,a * 9+4,none⟩=some (.bool y.ho)/\w'.cell? ⟨g,a * 9+5,none⟩=some (.bool y.se)/\w'.cell? ⟨g,a * 9+6,none⟩=some (.bool y.hi)/\w'.cell? ⟨g,a * 9+7,none⟩=some (.int .i64 y.ex)/\w'.cell? ⟨g,a * 9+8,none⟩=some (.int .i64 y.cr)/\Below wr.heap.size wr w') (first | exact s18_mk hgr CX.out CY.out (Below.refl _ wr).drew | exact s18_mk hgr CX.out CY.out ((Below.refl _ wr).drew.trans hb1) | go_keep)
     (first | (go_at_call 87;with_reducible refine (CMR.out _).mono ?_;rintro e w1 ⟨rfl,hb1⟩))
    have hB1:=(Below.refl _ wr).drew.trans hb1
    go_wp2_with fail
    go_roundw
    case rel=>exact ⟨h+1,j,by go_num,rfl,hmh,by omega,hjb,hrk.next hB1,hbk.below hB1 hbk.size,.inr (by rw [Nat.add_sub_cancel,HL.out];exact decide_eq_true hneg),HJ.out⟩
    case measure=>simp [intOf];omega
   ·go_wp2_with fail
    go_region_held3 (fun w'=>w'.cell? ⟨g,h * 9,none⟩=some (.string x.n)/\w'.cell? ⟨g,h * 9+1,none⟩=some (.string x.v)/\w'.cell? ⟨g,h * 9+2,none⟩=some (.string x.d)/\w'.cell? ⟨g,h * 9+3,none⟩=some (.string x.p)/\w'.cell? ⟨g,h * 9+4,none⟩=some (.bool x.ho)/\w'.cell? ⟨g,h * 9+5,none⟩=some (.bool x.se)/\w'.cell? ⟨g,h * 9+6,none⟩=some (.bool x.hi)/\w'.cell? ⟨g,h * 9+7,none⟩=some (.int .i64 x.ex)/\w'.cell? ⟨g,h * 9+8,none⟩=some (.int .i64 x.cr)/\w'.cell? ⟨g,a * 9,none⟩=some (.string y.n)/\w'.cell? ⟨g,a * 9+1,none⟩=some (.string y.v)/\w'.cell? ⟨g,a * 9+2,none⟩=some (.string y.d)/\w'.cell? ⟨g,a * 9+3,none⟩=some (.string y.p)/\w'.cell? ⟨g,a * 9+4,none⟩=some (.bool y.ho)/\w'.cell? ⟨g,a * 9+5,none⟩=some (.bool y.se)/\w'.cell? ⟨g,a * 9+6,none⟩=some (.bool y.hi)/\w'.cell? ⟨g,a * 9+7,none⟩=some (.int .i64 y.ex)/\w'.cell? ⟨g,a * 9+8,none⟩=some (.int .i64 y.cr)/\Below wr.heap.size wr w') (first | exact s18_mk hgr CX.out CY.out (Below.refl _ wr).drew | exact s18_mk hgr CX.out CY.out ((Below.refl _ wr).drew.trans hb1) | go_keep)
     (first | (go_at_call 87;with_reducible refine (CMR.out _).mono ?_;rintro e w1 ⟨rfl,hb1⟩))
    have hB1:=(Below.refl _ wr).drew.trans hb1
    go_wp2_with fail
    go_roundw
    case rel=>exact ⟨i,h,rfl,by first | rfl | go_num,hmi,hih,hhb,hrk.next hB1,hbk.below hB1 hbk.size,HI.out,.inr (by rw [HL.out];exact decide_eq_false (by omega))⟩
    case measure=>simp [intOf];omega
  ·have hd:decide ((i:Int)<(j:Int))=false:=decide_eq_false (by omega)
   obtain rfl:i=j:=by omega
   have hmg:=HS.out i hmi hjb (by rw [HD.out];exact HI.out) (by rw [HD.out];exact HJ.out)
   have HMG:=Lib.hid hmg
   clear hmg
   obtain ⟨r,hr⟩:∃ r,i - 1=r:=⟨_,rfl⟩
   have hr1:(i:Int) - 1=(r:Int):=by omega
   have har:a<=r:=by have:=HMA.out;omega
   have hrb:r+1<=b:=by omega
   have HRI:=Lib.hid hr
   clear hr
   go_wp2_with fail
   go_loopw [13] (fun vk wr2=>∃ k:Nat,vk = .int .i64 k/\a<=k/\k<=r/\RowC wr2 B g n cap (wandA X x0 v Y (k - a))/\BelowBut W.heap.size g W wr2) (fun vk _=>r - (intOf vk).toNat)
   case atStart=>exact ⟨a,rfl,lr,har,by rw [Nat.sub_self,<-HW0.out,HD.out];exact hrk,hbk⟩
   case round=>
    obtain ⟨k,rfl,hak,hkr,hrk2,hbk2⟩:=hrel
    by_cases hlt2:k<r
    ·have hkz:(k:Int)<(r:Int):=by omega
     obtain ⟨t,ht⟩:∃ t,k+1=t:=⟨_,rfl⟩
     have hkn:k<n:=by omega
     have htn:t<n:=by omega
     have hkt:k<t:=by omega
     have htr:t<=r:=by omega
     have hat:a<=t:=by omega
     have hkv:k - a<v.length:=by have:=HVL.out;have:=HMA.out;omega
     have hsw:=hrk2.swap k t hkn htn
     rw [<-ht] at hsw
     have hwa:=HWR.out (k - a) hkv
     rw [show a+(k - a)=k by omega,show k - a+1=t - a by omega] at hwa
     rw [hwa,ht] at hsw
     obtain ⟨y,hy⟩:∃ y,(wandA X x0 v Y (k - a))[k]! = y:=⟨_,rfl⟩
     obtain ⟨x,hx⟩:∃ x,(wandA X x0 v Y (k - a))[t]! = x:=⟨_,rfl⟩
     rw [hx,hy] at hsw
     have cx:∀ q u,(ckL x)[q]? = some u->wr.cell? ⟨g,t * 9+q,none⟩=some u:=fun q u hu=>hrk2.c t htn q (by rw [hx];exact hu)
     have cy:∀ q u,(ckL y)[q]? = some u->wr.cell? ⟨g,k * 9+q,none⟩=some u:=fun q u hu=>hrk2.c k hkn q (by rw [hy];exact hu)
     have fx:∀ q,wr.frozen? ⟨g,t * 9+q,none⟩=false:=fun q=>hrk2.f _
     have fy:∀ q,wr.frozen? ⟨g,k * 9+q,none⟩=false:=fun q=>hrk2.f _
     have hbs:=(hbk2.put9 (k * 9) x).put9 (t * 9) y
     have HSW:=Lib.hid hsw
     have HBS:=Lib.hid hbs
     have hkz2:(k:Int)<(n:Int):=by omega
     have htz2:(t:Int)<(n:Int):=by omega
     have hs1:(k:Int)+1=(t:Int):=by omega
     have hw1:IntKind.i64.wrap ((k:Int)+1)=(t:Int):=by rw [IntWalk.i64_in _ (by omega)];omega
     have hw2:IntKind.i64.wrap (t:Int)=(t:Int):=IntWalk.i64_in _ (by omega)
     have x0:=cx 0 _ rfl
     have x1:=cx 1 _ rfl
     have x2:=cx 2 _ rfl
     have x3:=cx 3 _ rfl
     have x4:=cx 4 _ rfl
     have x5:=cx 5 _ rfl
     have x6:=cx 6 _ rfl
     have x7:=cx 7 _ rfl
     have x8:=cx 8 _ rfl
     have y0:=cy 0 _ rfl
     have y1:=cy 1 _ rfl
     have y2:=cy 2 _ rfl
     have y3:=cy 3 _ rfl
     have y4:=cy 4 _ rfl
     have y5:=cy 5 _ rfl
     have y6:=cy 6 _ rfl
     have y7:=cy 7 _ rfl
     have y8:=cy 8 _ rfl
     simp only [Nat.add_zero] at x0 y0
     have fx0:=fx 0
     have fx1:=fx 1
     have fx2:=fx 2
     have fx3:=fx 3
     have fx4:=fx 4
     have fx5:=fx 5
     have fx6:=fx 6
     have fx7:=fx 7
     have fx8:=fx 8
     have fy0:=fy 0
     have fy1:=fy 1
     have fy2:=fy 2
     have fy3:=fy 3
     have fy4:=fy 4
     have fy5:=fy 5
     have fy6:=fy 6
     have fy7:=fy 7
     have fy8:=fy 8
     simp only [Nat.add_zero] at fx0 fy0
     clear hsw hbs hwa hx hy ht cx cy fx fy
     go_wp2_with fail
     go_region
     all_goals
      clear hw1 hw2
      go_wp2_with fail
      go_roundw
      case rel=>exact ⟨t,by first | rfl | (congr 1;omega),hat,htr,HSW.out.next (Below.refl _ _).drew,HBS.out.below (Below.refl _ _).drew HBS.out.size⟩
      case measure=>simp [intOf];omega
    ·have hd2:decide ((k:Int)<(r:Int))=false:=decide_eq_false (by omega)
     obtain rfl:k=r:=by omega
     go_wp2_with fail
     refine bodyPost_ret (results_none (by rfl) _ _ _) rfl ⟨rfl,?_,hbk2⟩
     have e:wandA X x0 v Y (k - a)=(X ++ mg ltC [x0] v ++ Y).toArray:=by
      have h1:=HRI.out
      have h2:=HMA.out
      rw [HMG.out,show i - m=k - a by omega];simp [wandA]
     rw [<-e];exact hrk2
theorem down_sub {k a t n:Nat}(hk:k=t+1)(hat:a<=t)(h:t - a<n):k - a=(t - a)+1/\a+(t - a)+1=k/\a+(t - a)=t:=by omega
theorem sym_two (B g n cap a m b:Nat)(X u:List Ck)(y0:Ck)(Y:List Ck)(W:World)(h:RowC W B g n cap (X ++ u ++ [y0] ++ Y).toArray)(ha:a=X.length)(hm:m=a+u.length)(hb:b=m+1)(hu:Srt ltC u)(hu2:2<=u.length)(hn:n<=1000):
 Calls Tryz.prog 202 #[.slice (some ⟨g,0,none⟩) n cap,.int .i64 a,.int .i64 m,.int .i64 b,.func (.func 87) #[] #[]] W fun e W'=>e = .returned (.tuple #[])/\RowC W' B g n cap (X ++ mg ltC u [y0] ++ Y).toArray/\BelowBut W.heap.size g W W':=by
 have CM:=Lib.hid (fun (x y:Ck) (R:Int) (hR:cmpC x y=R) (W:World)=>cmp_is x y R hR W)
 have hsz:b+Y.length=n:=by have:=h.size;simp at this;omega
 have hbn:b<=n:=by omega
 have hmn:m<n:=by omega
 have ham:a<=m:=by omega
 have hmb:m<=b:=by omega
 have hma1:((m:Int) - (a:Int) == 1)=false:=beq_eq_false_iff_ne.2 (by omega)
 have hbm1:((b:Int) - (m:Int) == 1)=true:=beq_iff_eq.2 (by omega)
 have HS:=Lib.hid (fun (i:Nat) h0 h0' h1 h2=>sym_last ltC swoC X u Y y0 a m i ha hm hu h0 h0' h1 h2)
 have HWL:=Lib.hid (fun k (hk:k<u.length)=>wand_left X y0 u Y k a ha hk)
 have e1:X ++ u ++ ([y0] ++ Y)=X ++ u ++ [y0] ++ Y:=by simp
 rw [e1] at HS
 have hw0:(X ++ u ++ [y0] ++ Y).toArray=wandA X y0 u Y (m - a):=by simp [wandA,hm]
 have HW0:=Lib.hid hw0
 have hdx:(X ++ u ++ [y0] ++ Y).toArray[m]! = y0:=by
  rw [hm,ha,show X ++ u ++ [y0] ++ Y=(X ++ u) ++ y0 :: Y by simp];exact arr_at' _ y0 _ _ (by simp)
 have HUL:=Lib.hid (show m=a+u.length by omega)
 obtain ⟨d,hd⟩:∃ d,(X ++ u ++ [y0] ++ Y).toArray=d:=⟨_,rfl⟩
 rw [hd] at h hdx hw0
 have HD:=Lib.hid hd
 have hg:=h.lt
 have HR0:=Lib.hid h
 have HDX:=Lib.hid hdx
 clear h hsz ha hm hb hd hw0 hdx e1 hu2
 go_enter Tryz.func202,Tryz.ntmps202
 go_wp2_with fail
 go_loopw [14,15] (fun vi vj wr=>∃ i j:Nat,vi = .int .i64 i/\vj = .int .i64 j/\a<=i/\i<=j/\j<=m/\RowC wr B g n cap d/\BelowBut W.heap.size g W wr/\(i=a\/ltC y0 d[i - 1]! = false)/\(j=m\/ltC y0 d[j]! = true)) (fun vi vj _=>(intOf vj).toNat - (intOf vi).toNat)
 case atStart=>exact ⟨a,m,rfl,rfl,lr,ham,lr,HR0.out,BelowBut.refl _ _ _,.inl rfl,.inl rfl⟩
 case round=>
  obtain ⟨i,j,rfl,rfl,hmi,hij,hjb,hrk,hbk,hI,hJ⟩:=hrel
  have HI:=Lib.hid hI
  have HJ:=Lib.hid hJ
  clear hI hJ
  by_cases hlt:i<j
  ·have hlz:(i:Int)<(j:Int):=by omega
   obtain ⟨h,hh⟩:∃ h,(i+j) / 2=h:=⟨_,rfl⟩
   obtain ⟨hih,hhj⟩:=half_lt hlt hh
   have hhn:h<n:=by omega
   have hmh:a<=h+1:=by omega
   have hmh2:a<=h:=by omega
   have hhb:h<=m:=by omega
   obtain ⟨x,hx⟩:∃ x,d[m]! = x:=⟨_,rfl⟩
   obtain ⟨y,hy⟩:∃ y,d[h]! = y:=⟨_,rfl⟩
   have cx:∀ q u,(ckL x)[q]? = some u->wr.cell? ⟨g,m * 9+q,none⟩=some u:=fun q u hu=>hrk.c m hmn q (by rw [hx];exact hu)
   have cy:∀ q u,(ckL y)[q]? = some u->wr.cell? ⟨g,h * 9+q,none⟩=some u:=fun q u hu=>hrk.c h hhn q (by rw [hy];exact hu)
   have hgr:=hrk.lt
   obtain ⟨R,hRR⟩:∃ R,cmpC x y=R:=⟨_,rfl⟩
   have hL:ltC y0 d[h]! = decide (R<0):=by rw [<-HDX.out,hx,hy,<-hRR];rfl
   have CMR:=Lib.hid (fun W=>CM.out x y R hRR W)
   have HL:=Lib.hid hL
   have CX:=Lib.hid cx
   have CY:=Lib.hid cy
   have hhz:(h:Int)<(n:Int):=by omega
   have haz:(m:Int)<(n:Int):=by omega
   have hh1:((i:Int)+(j:Int)) / 2=(h:Int):=by omega
   have x0:=cx 0 _ rfl
   have x1:=cx 1 _ rfl
   have x2:=cx 2 _ rfl
   have x3:=cx 3 _ rfl
   have x4:=cx 4 _ rfl
   have x5:=cx 5 _ rfl
   have x6:=cx 6 _ rfl
   have x7:=cx 7 _ rfl
   have x8:=cx 8 _ rfl
   have y0:=cy 0 _ rfl
   have y1:=cy 1 _ rfl
   have y2:=cy 2 _ rfl
   have y3:=cy 3 _ rfl
   have y4:=cy 4 _ rfl
   have y5:=cy 5 _ rfl
   have y6:=cy 6 _ rfl
   have y7:=cy 7 _ rfl
   have y8:=cy 8 _ rfl
   simp only [Nat.add_zero] at x0 y0
   clear hx hy hh hL hRR cx cy
   by_cases hneg:R<0
   ·go_wp2_with fail
    go_region_held3 (fun w'=>w'.cell? ⟨g,m * 9,none⟩=some (.string x.n)/\w'.cell? ⟨g,m * 9+1,none⟩=some (.string x.v)/\w'.cell? ⟨g,m * 9+2,none⟩=some (.string x.d)/\w'.cell? ⟨g,m * 9+3,none⟩=some (.string x.p)/\w'.cell? ⟨g,m * 9+4,none⟩=some (.bool x.ho)/\w'.cell? ⟨g,m * 9+5,none⟩=some (.bool x.se)/\w'.cell? ⟨g,m * 9+6,none⟩=some (.bool x.hi)/\w'.cell? ⟨g,m * 9+7,none⟩=some (.int .i64 x.ex)/\w'.cell? ⟨g,m * 9+8,none⟩=some (.int .i64 x.cr)/\w'.cell? ⟨g,h * 9,none⟩=some (.string y.n)/\w'.cell? ⟨g,h * 9+1,none⟩=some (.string y.v)/\w'.cell? ⟨g,h * 9+2,none⟩=some (.string y.d)/\w'.cell? ⟨g,h * 9+3,none⟩=some (.string y.p)/\w'.cell? ⟨g,h * 9+4,none⟩=some (.bool y.ho)/\w'.cell? ⟨g,h * 9+5,none⟩=some (.bool y.se)/\w'.cell? ⟨g,h * 9+6,none⟩=some (.bool y.hi)/\w'.cell? ⟨g,h * 9+7,none⟩=some (.int .i64 y.ex)/\w'.cell? ⟨g,h * 9+8,none⟩=some (.int .i64 y.cr)/\Below wr.heap.size wr w') (first | exact s18_mk hgr CX.out CY.out (Below.refl _ wr).drew | exact s18_mk hgr CX.out CY.out ((Below.refl _ wr).drew.trans hb1) | go_keep)
     (first | (go_at_call 87;with_reducible refine (CMR.out _).mono ?_;rintro e w1 ⟨rfl,hb1⟩))
    have hB1:=(Below.refl _ wr).drew.trans hb1
    go_wp2_with fail
    go_roundw
    case rel=>exact ⟨i,h,rfl,by first | rfl | go_num,hmi,hih,hhb,hrk.next hB1,hbk.below hB1 hbk.size,HI.out,.inr (by rw [HL.out];exact decide_eq_true hneg)⟩
    case measure=>simp [intOf];omega
   ·have hneg':decide (R<0)=false:=decide_eq_false hneg
    go_wp2_with fail
    go_region_held3 (fun w'=>w'.cell? ⟨g,m * 9,none⟩=some (.string x.n)/\w'.cell? ⟨g,m * 9+1,none⟩=some (.string x.v)/\w'.cell? ⟨g,m * 9+2,none⟩=some (.string x.d)/\w'.cell? ⟨g,m * 9+3,none⟩=some (.string x.p)/\w'.cell? ⟨g,m * 9+4,none⟩=some (.bool x.ho)/\w'.cell? ⟨g,m * 9+5,none⟩=some (.bool x.se)/\w'.cell? ⟨g,m * 9+6,none⟩=some (.bool x.hi)/\w'.cell? ⟨g,m * 9+7,none⟩=some (.int .i64 x.ex)/\w'.cell? ⟨g,m * 9+8,none⟩=some (.int .i64 x.cr)/\w'.cell? ⟨g,h * 9,none⟩=some (.string y.n)/\w'.cell? ⟨g,h * 9+1,none⟩=some (.string y.v)/\w'.cell? ⟨g,h * 9+2,none⟩=some (.string y.d)/\w'.cell? ⟨g,h * 9+3,none⟩=some (.string y.p)/\w'.cell? ⟨g,h * 9+4,none⟩=some (.bool y.ho)/\w'.cell? ⟨g,h * 9+5,none⟩=some (.bool y.se)/\w'.cell? ⟨g,h * 9+6,none⟩=some (.bool y.hi)/\w'.cell? ⟨g,h * 9+7,none⟩=some (.int .i64 y.ex)/\w'.cell? ⟨g,h * 9+8,none⟩=some (.int .i64 y.cr)/\Below wr.heap.size wr w') (first | exact s18_mk hgr CX.out CY.out (Below.refl _ wr).drew | exact s18_mk hgr CX.out CY.out ((Below.refl _ wr).drew.trans hb1) | go_keep)
     (first | (go_at_call 87;with_reducible refine (CMR.out _).mono ?_;rintro e w1 ⟨rfl,hb1⟩))
    have hB1:=(Below.refl _ wr).drew.trans hb1
    go_wp2_with fail
    go_roundw
    case rel=>exact ⟨h+1,j,by go_num,rfl,hmh,by omega,hjb,hrk.next hB1,hbk.below hB1 hbk.size,.inr (by rw [Nat.add_sub_cancel,HL.out];exact decide_eq_false (by omega)),HJ.out⟩
    case measure=>simp [intOf];omega
  ·have hd:decide ((i:Int)<(j:Int))=false:=decide_eq_false (by omega)
   obtain rfl:i=j:=by omega
   have hmg:=HS.out i hmi hjb (by rw [HD.out];exact HI.out) (by rw [HD.out];exact HJ.out)
   have HMG:=Lib.hid hmg
   clear hmg
   go_wp2_with fail
   go_loopw [17] (fun vk wr2=>∃ k:Nat,vk = .int .i64 k/\i<=k/\k<=m/\RowC wr2 B g n cap (wandA X y0 u Y (k - a))/\BelowBut W.heap.size g W wr2) (fun vk _=>(intOf vk).toNat)
   case atStart=>exact ⟨m,rfl,hjb,lr,by rw [<-HW0.out,HD.out];exact hrk,hbk⟩
   case round=>
    obtain ⟨k,rfl,hak,hkr,hrk2,hbk2⟩:=hrel
    by_cases hlt2:i<k
    ·have hkz:(i:Int)<(k:Int):=by omega
     obtain ⟨t,ht⟩:∃ t,k - 1=t:=⟨_,rfl⟩
     have hkt1:k=t+1:=by omega
     have hkn:k<n:=by omega
     have htn:t<n:=by omega
     have hkt:t<k:=by omega
     have htm:t<=m:=by omega
     have hit:i<=t:=by omega
     have htv:t - a<u.length:=by have:=HUL.out;omega
     have hsw:=hrk2.swap k t hkn htn
     have hwa:=HWL.out (t - a) htv
     obtain ⟨q1,q2,q3⟩:=down_sub hkt1 (by omega) htv
     rw [q2,q3,<-q1] at hwa
     rw [hwa] at hsw
     obtain ⟨y,hy⟩:∃ y,(wandA X y0 u Y (k - a))[k]! = y:=⟨_,rfl⟩
     obtain ⟨x,hx⟩:∃ x,(wandA X y0 u Y (k - a))[t]! = x:=⟨_,rfl⟩
     rw [hx,hy] at hsw
     have cx:∀ q u,(ckL x)[q]? = some u->wr.cell? ⟨g,t * 9+q,none⟩=some u:=fun q u hu=>hrk2.c t htn q (by rw [hx];exact hu)
     have cy:∀ q u,(ckL y)[q]? = some u->wr.cell? ⟨g,k * 9+q,none⟩=some u:=fun q u hu=>hrk2.c k hkn q (by rw [hy];exact hu)
     have fx:∀ q,wr.frozen? ⟨g,t * 9+q,none⟩=false:=fun q=>hrk2.f _
     have fy:∀ q,wr.frozen? ⟨g,k * 9+q,none⟩=false:=fun q=>hrk2.f _
     have hbs:=(hbk2.put9 (k * 9) x).put9 (t * 9) y
     have HSW:=Lib.hid hsw
     have HBS:=Lib.hid hbs
     have hkz2:(k:Int)<(n:Int):=by omega
     have htz2:(t:Int)<(n:Int):=by omega
     have hs1:(k:Int) - 1=(t:Int):=by omega
     have hw1:IntKind.i64.wrap ((k:Int) - 1)=(t:Int):=by rw [IntWalk.i64_in _ (by omega)];omega
     have hw2:IntKind.i64.wrap (t:Int)=(t:Int):=IntWalk.i64_in _ (by omega)
     have x0:=cx 0 _ rfl
     have x1:=cx 1 _ rfl
     have x2:=cx 2 _ rfl
     have x3:=cx 3 _ rfl
     have x4:=cx 4 _ rfl
     have x5:=cx 5 _ rfl
     have x6:=cx 6 _ rfl
     have x7:=cx 7 _ rfl
     have x8:=cx 8 _ rfl
     have y0:=cy 0 _ rfl
     have y1:=cy 1 _ rfl
     have y2:=cy 2 _ rfl
     have y3:=cy 3 _ rfl
     have y4:=cy 4 _ rfl
     have y5:=cy 5 _ rfl
     have y6:=cy 6 _ rfl
     have y7:=cy 7 _ rfl
     have y8:=cy 8 _ rfl
     simp only [Nat.add_zero] at x0 y0
     have fx0:=fx 0
     have fx1:=fx 1
     have fx2:=fx 2
     have fx3:=fx 3
     have fx4:=fx 4
     have fx5:=fx 5
     have fx6:=fx 6
     have fx7:=fx 7
     have fx8:=fx 8
     have fy0:=fy 0
     have fy1:=fy 1
     have fy2:=fy 2
     have fy3:=fy 3
     have fy4:=fy 4
     have fy5:=fy 5
     have fy6:=fy 6
     have fy7:=fy 7
     have fy8:=fy 8
     simp only [Nat.add_zero] at fx0 fy0
     clear hsw hbs hwa hx hy ht cx cy fx fy hkt1 q1 q2 q3
     go_wp2_with fail
     go_region
     all_goals
      clear hw1 hw2
      go_wp2_with fail
      go_roundw
      case rel=>exact ⟨t,by first | rfl | (congr 1;omega),hit,htm,HSW.out.next (Below.refl _ _).drew,HBS.out.below (Below.refl _ _).drew HBS.out.size⟩
      case measure=>simp [intOf];omega
    ·have hd2:decide ((i:Int)<(k:Int))=false:=decide_eq_false (by omega)
     obtain rfl:k=i:=by omega
     go_wp2_with fail
     refine bodyPost_ret (results_none (by rfl) _ _ _) rfl ⟨rfl,?_,hbk2⟩
     have e:wandA X y0 u Y (k - a)=(X ++ mg ltC u [y0] ++ Y).toArray:=by
      rw [HMG.out];simp [wandA]
     rw [<-e];exact hrk2
end Go.Proofs.YtjdhaacmlpegoaaGreatDoor
