/- Part 13 of what the proof needs: S1 HS HS1. -/
import Derived.Test.YtjdhaacmlpegoaaGreatDoorU12
set_option maxRecDepth 20000
set_option maxHeartbeats 16000000
set_option linter.unusedSimpArgs false
set_option linter.unusedVariables false
namespace Go.Proofs.YtjdhaacmlpegoaaGreatDoor
open Go.RowKit Go.Sort
theorem insS_one (l:List Ck)(h:l.length<=1):insS ltC l=l:=by
 match l,h with
 | [],_=>rfl
 | [x],_=>rfl
theorem stable_any (B g n cap:Nat)(l:List Ck)(W:World)(h:RowC W B g n cap l.toArray)(hn:n<=1000):
 Calls Tryz.prog 136 #[.slice (some ⟨g,0,none⟩) n cap,.int .i64 n,.func (.func 87) #[] #[]] W fun e W'=>e = .returned (.tuple #[])/\RowC W' B g n cap (insS ltC l).toArray/\BelowBut W.heap.size g W W':=by
 have hnl:n=l.length:=by have:=h.size;simp at this;omega
 have CI:=Kb (fun (a b:Nat) (d:Array Ck) (W:World) (h:RowC W B g n cap d) (hab:a<=b) (hb:b<=n)=>ins_any B g n cap a b d W h hab hb hn);have CS:=Kb (fun (a m b:Nat) (X u v Y:List Ck) (W:World) (h:RowC W B g n cap (X ++ u ++ v ++ Y).toArray) (ha:a=X.length) (hm:m=a+u.length) (hb:b=m+v.length) (h1:a<m) (h2:m<b) (hu:Srt ltC u) (hv:Srt ltC v)=>sym_any (b - a+1) B g n cap hn a m b X u v Y W h ha hm hb h1 h2 (by omega) hu hv);have HP0:=Kb (P1.start ltC l);have HNL:=Kb hnl;have HR0:=Kb h;clear h hnl;go_enter Tryz.func136,Tryz.ntmps136;go_wp2_with fail;go_loopw [7,8] (fun va vb wr=>∃ (a b:Nat) (d:Array Ck),va = .int .i64 a/\vb = .int .i64 b/\Hid (b=a+20)/\a<=n/\b<=2000/\Hid (P1 ltC l a d)/\RowC wr B g n cap d/\BelowBut W.heap.size g W wr) (fun _ vb _=>n+21 - (intOf vb).toNat);case atStart=>exact ⟨0,20,l.toArray,rfl,rfl,Kb rfl,Kh _,by omega,HP0,HR0.out,BelowBut.refl _ _ _⟩
 case round=>
  obtain ⟨a,b,d,rfl,rfl,hab,han,hb2,hP,hrk,hbk⟩:=hrel;by_cases hlt:b<=n
  ·have hlz:(b:Int)<=(n:Int):=by omega
   have hPp:=hP.out.parts ltC (by have:=hab.out;have:=HNL.out;omega);obtain ⟨X,L,Y,hd,ha,hL,hne,hN⟩:=hPp;have CR:=CI.out a b d wr hrk (by have:=hab.out;omega) hlt;rw [hd,insertion_is ltC X L Y a b ha (by have:=hab.out;omega) hne] at CR;obtain ⟨d2,hd2⟩:=Ka ((X ++ insS ltC L ++ Y).toArray);rw [hd2] at CR hN;obtain ⟨b',hb'⟩:=Ka (b+20);have hN2:P1 ltC l b d2:=by have e:b=a+20:=hab.out;rw [e];exact hN
   have HN:=Kb hN2;have HCR:=Kb CR;have HB:=Kb (show b'=b+20 by omega);have hbz:(b:Int)+20=(b':Int):=by omega
   have hb2':b'<=2000:=by omega
   clear CR hN hN2 hd hd2 ha hL hne hb';go_wp2_with (with_reducible refine HCR.out.mono ?_;rintro e w2 ⟨rfl,hr2,hbb2⟩)
   go_roundw;case rel=>exact ⟨b,b',d2,rfl,by first | rfl | (congr 1;omega),HB,hlt,hb2',HN,hr2,hbk.stepb hbb2 hbk.size⟩
   case measure=>have:=HB.out;simp [intOf];omega
  ·have hd:decide ((b:Int)<=(n:Int))=false:=Kj (by omega);have CR:=CI.out a n d wr hrk han lr;have hE:insertionSort ltC d a n=(cs ltC 20 l).toArray:=by
    have h1:=hab.out;have h2:=HNL.out;rcases Zn a n with h3 | h3
    ·obtain ⟨X,L,Y,hd,ha,hL,hne,hN⟩:=hP.out.last ltC (by omega) (by omega);rw [hd,insertion_is ltC X L Y a n ha (by omega) hne,hN]
    ·rw [insertion_none ltC d a n (by omega)];exact hP.out.done ltC (by omega)
   rw [hE] at CR;have HCR:=Kb CR;clear CR hE;go_wp2_with (with_reducible refine HCR.out.mono ?_;rintro e w2 ⟨rfl,hr2,hbb2⟩)
   have hbk2:=hbk.stepb hbb2 hbk.size;clear hbb2 hrk hbk hP hab hd;go_loopw [6] (fun vs w3=>∃ bs:Nat,vs = .int .i64 bs/\0<bs/\bs<=2000/\RowC w3 B g n cap (cs ltC bs l).toArray/\BelowBut W.heap.size g W w3) (fun vs _=>n - (intOf vs).toNat);case atStart=>exact ⟨20,rfl,by omega,by omega,hr2,hbk2⟩
   case round=>
    obtain ⟨bs,rfl,hbs0,hbs,hr3,hbk3⟩:=hrel;by_cases hlt2:bs<n
    ·have hlz2:(bs:Int)<(n:Int):=by omega
     obtain ⟨c0,hc0⟩:=Ka (2 * bs);have hc1:(2:Int) * (bs:Int)=(c0:Int):=by omega
     have hc2:(bs:Int) * 2=(c0:Int):=by omega
     have hc00:bs<c0:=by omega
     have hc04:c0<=2000:=by omega
     have HC0:=Kb hc0;have hPs:=P2.start ltC (l:=l) hbs0;have HPS:=Kb hPs;clear hc0 hPs;go_wp2_with fail;go_loopw [7,8] (fun va vc wz=>∃ (a c:Nat) (d:Array Ck),va = .int .i64 a/\vc = .int .i64 c/\Hid (c=a+c0)/\a<=n/\c<=4000/\Hid (P2 ltC bs l a d)/\RowC wz B g n cap d/\BelowBut W.heap.size g W wz) (fun _ vc _=>n+c0+1 - (intOf vc).toNat);case atStart=>exact ⟨0,c0,_,rfl,rfl,Kb (by omega),Kh _,by omega,HPS,hr3,hbk3⟩
     case round=>
      obtain ⟨a,c,d,rfl,rfl,hac,han,hc4,hP,hrk,hbk⟩:=hrel;obtain ⟨e,he⟩:=Ka (a+bs);have hez:(a:Int)+(bs:Int)=(e:Int):=by omega
      by_cases hlt3:c<=n
      ·have hlz3:(c:Int)<=(n:Int):=by omega
       obtain ⟨X,u,v,Y,hd,ha,hu,hv,su,sv,hN⟩:=hP.out.parts ltC swoC (by have:=hac.out;have:=HNL.out;have:=HC0.out;omega);have hrk2:=hrk;rw [hd] at hrk2;have CR:=CS.out a e c X u v Y wr hrk2 ha (by omega) (by have:=hac.out;have:=HC0.out;omega) (by omega) (by have:=hac.out;have:=HC0.out;omega) su sv;obtain ⟨d2,hd2⟩:=Ka ((X ++ mg ltC u v ++ Y).toArray);rw [hd2] at CR hN
       have hN2 : P2 ltC bs l c d2 := by have q : c = a + 2 * bs := by (have := hac.out; have := HC0.out; omega)
                                         rw [q];exact hN
       obtain ⟨c',hc'⟩:=Ka (c+c0);have hcz:(c:Int)+(c0:Int)=(c':Int):=by omega
       have HN:=Kb hN2;have HCR:=Kb CR;have HC:=Kb (show c'=c+c0 by omega);have hc4':c'<=4000:=by omega
       have he2:e<=4000:=by omega
       clear CR hN hN2 hd hd2 ha hu hv hc' he hrk2;go_wp2_with (with_reducible refine HCR.out.mono ?_;rintro x w5 ⟨rfl,hr5,hb5⟩)
       go_roundw;case rel=>exact ⟨c,c',d2,rfl,by first | rfl | (congr 1;omega),HC,hlt3,hc4',HN,hr5,hbk.stepb hb5 hbk.size⟩
       case measure=>have:=HC.out;simp [intOf];omega
      ·have hd3:decide ((c:Int)<=(n:Int))=false:=Kj (by omega);by_cases hlt4:e<n
       ·have hlz4:(e:Int)<(n:Int):=by omega
        obtain ⟨X,u,v,Y,hd,ha,hu,hv,su,sv,hN⟩:=hP.out.last ltC swoC (by have:=hac.out;have:=HNL.out;have:=HC0.out;omega) (by have:=HNL.out;omega);have hrk2:=hrk;rw [hd] at hrk2;have CR:=CS.out a e n X u v Y wr hrk2 ha (by omega) (by have:=HNL.out;omega) (by omega) (by omega) su sv;rw [hN,HC0.out] at CR;have HCR:=Kb CR;have he2:e<=4000:=by omega
        clear CR hN hd ha hu hv he hrk2;go_wp2_with (with_reducible refine HCR.out.mono ?_;rintro x w5 ⟨rfl,hr5,hb5⟩)
        go_roundw;case rel=>exact ⟨c0,by first | rfl | (congr 1;omega),by omega,hc04,hr5,hbk.stepb hb5 hbk.size⟩
        case measure=>simp [intOf];omega
       ·have hd4:decide ((e:Int)<(n:Int))=false:=Kj (by omega);have hN:=hP.out.done ltC (by have:=HNL.out;omega);rw [HC0.out] at hN;have hr5:RowC wr B g n cap (cs ltC c0 l).toArray:=by rw [<-hN];exact hrk
        have he2:e<=4000:=by omega
        clear hN he hrk;go_wp2_with fail;go_roundw;case rel=>exact ⟨c0,by first | rfl | (congr 1;omega),by omega,hc04,hr5,hbk⟩
        case measure=>simp [intOf];omega
    ·have hd2:decide ((bs:Int)<(n:Int))=false:=Kj (by omega);have hcs:cs ltC bs l=insS ltC l:=cs_short ltC bs l hbs0 (by have:=HNL.out;omega);rw [hcs] at hr3;clear hcs;go_wp2_with fail;go_end0;exact ⟨rfl,hr3,hbk3⟩
theorem sort_long (hits:List Ck)(hl:hits.length<=1000):SortTo hits (insS ltC hits):=by
 rcases Zn hits.length 2 with h1 | h1
 ·rw [insS_one hits (by omega)];exact sort_short hits (by omega)
 intro W B v hown hB;obtain ⟨a,cap,rfl,hc,hm,ha⟩:=own_reads hown;rcases ha with ⟨rfl,h2⟩ | ⟨g,rfl,hg,_,_⟩
 ·omega
 have hR:RowC W B g hits.length cap hits.toArray:=⟨by simp,hown⟩
 have CII:=Kb (stable_any B g hits.length cap hits W hR hl);have hlen:(insS ltC hits).length=hits.length:=insS_length ltC hits;have HL:=Kb hlen;have hlb:hits.length<=1000:=hl;clear hown hR hlen;go_enter Tryz.func86,Tryz.ntmps86;go_wp2_with (with_reducible refine CII.out.mono ?_;rintro x w1 ⟨rfl,hr1,hb1⟩)
 go_end0;have h9:=hr1.2;exact ⟨rfl,by rw [HL.out];exact h9,hb1.to_below (Kc W) hB hg⟩
end Go.Proofs.YtjdhaacmlpegoaaGreatDoor
namespace Go.Proofs.YtjdhaacmlpegoaaGreatDoor
open Go.RowKit
theorem ed_mk {W w':World}{A D:Nat}{a b c d e f:Value}{p q r t:Value}(h:AtL W A [a,b,c,d,e,f])(h2:AtL W D [p,q,r,t])(hb:Below W.heap.size W w'):w'.cell? ⟨A,0,none⟩=some a/\w'.cell? ⟨A,1,none⟩=some b/\w'.cell? ⟨A,2,none⟩=some c/\w'.cell? ⟨A,3,none⟩=some d/\w'.cell? ⟨A,4,none⟩=some e/\w'.cell? ⟨A,5,none⟩=some f/\w'.cell? ⟨D,1,none⟩=some q/\w'.cell? ⟨D,3,none⟩=some t:=
 ⟨(brl hb _ _ h.lt).trans (h.c 0 rfl),(brl hb _ _ h.lt).trans (h.c 1 rfl),(brl hb _ _ h.lt).trans (h.c 2 rfl),(brl hb _ _ h.lt).trans (h.c 3 rfl),(brl hb _ _ h.lt).trans (h.c 4 rfl),(brl hb _ _ h.lt).trans (h.c 5 rfl),(brl hb _ _ h2.lt).trans (h2.c 1 rfl),(brl hb _ _ h2.lt).trans (h2.c 3 rfl)⟩
theorem own_ne {g b:Nat}(h:g≠b)(n c:Nat):(Value.slice (some ⟨g,0,none⟩) n c).ownBlock≠some b:=by simp only [Value.ownBlock,ne_eq,Js];exact h
theorem own_ltN {g N:Nat}(h:g<N)(n c:Nat):∀ b,(Value.slice (some ⟨g,0,none⟩) n c).ownBlock=some b->b<N:=by intro b e;simp only [Value.ownBlock,Js] at e;omega
theorem N1{p:Prop}(h:p:=by
 have hjl:=hJ.at_.lt
 obtain ⟨a,cap,rfl,hcap,hcm,ha⟩:=own_reads hJ.own
 rcases ha with ⟨_,h0⟩ | ⟨g,rfl,hBg,hgw,hcell⟩
 ·omega
 have hmx:x∈l:=by rw [<-hx];exact Ky hi
 have hrdx:=hJ.rd x hmx
 have hzx:=hz x hmx
 have hmem:∀ y∈l.eraseIdx i ++ [x],y∈l:=by rw [<-hx];exact erase_mem l i hi
 have cc:∀ j u,(eeC x)[j]? = some u->w.cell? ⟨g,i * 6+j,none⟩=some u:=fun j u hu=>hcell _ _ (cellsK_get eelen l i hi j u (by rw [hx];exact hu))
 have R0:=AtL.new w pl0 178
 have hB0:Below w.heap.size w (w.alloc (.cells pl0.toArray 178)):=(Kc w).alloc lr _
 have J0:=hJ.below hB0 lr
 have q0:=hq.below hB0 lr
 have CF:=Kb (find_is jb _ l _ J0.at_ J0.reads (fun x hx=>⟨J0.rd x hx,(hz x hx).1⟩) hl url rq vr q0 hzq _ hR)
 have CD:=Kb (fun (w:World) hM hv=>(dir_is rq vr w hM hv hzq ⟨false,false,d3,d4⟩ hD).mono fun e w' (h:e=Ending.returned (dirA ⟨false,false,d3,d4⟩)/\Below w.heap.size w w')=>(show e=Ending.returned (.agg #[.bool false,.bool false,.bool d3,.int .i64 d4])/\Below w.heap.size w w' from h))
 have CM:=Kb (fun (w:World) (hJ:CaIn w jb B (.slice (some ⟨g,0,none⟩) l.length cap) l)=>move_is jb B _ l w hJ i hi hl x hx)
 have CC:=Kb (fun (w:World) (hr:Rd w x.1 x.2)=>cop_is x w hr hzx.1.1 hzx.2.1)
 have CFr:=Kb (fun (w:World) (r:Er) hM (hr:Rd w r x.2)=>fresh_is r x.2 now w hM hr hzx.2 _ hF)
 have CAg:=Kb (fun (w:World) (r:Er) (h:r.ti=x.2.ti)=>eage_is r now w A (by rw [h];exact hA))
 have hdb:=dirL_bd rq
 rw [hD] at hdb
 have hda : -1<=d4:=hdb.1
 have hdc:d4<1000000000:=hdb.2
 have hab:=ageE_bd x.2.ti now
 rw [hA] at hab
 have ha0:=hab.1
 have ha1:=hab.2
 have HM:=Kb hM
 have HQ:=Kb hq
 have HJ:=Kb hJ
 have HI:=Kb hi
 have HX:=Kb hx
 have HRD:=Kb hrdx
 have HMEM:=Kb hmem
 have hshp:=hrdx.shp
 obtain ⟨sa,sc,rfl,_⟩:=hq.shape
 have hii:(i:Int)<(l.length:Int):=by omega
 have hi0:(0:Int)<=(i:Int):=by omega
 have hgj:g≠jb:=fun e=>hJ.ne (by rw [e];rfl)
 obtain ⟨⟨u,vv,st,hh,bo,ti⟩,xe⟩:=x
 obtain ⟨⟨a1,n1,k1,e1⟩,a2,n2,k2,e2⟩:=hshp
 have e1:vv = .slice a1 n1 k1:=e1
 have e2:hh = .slice a2 n2 k2:=e2
 subst e1 e2
 have HCC:=Kb cc
 clear cc hcell hx hD hR hq hJ hz hM hrdx hmem hmx hF hA hab hdb hzx
 go_enter Tryz.func169,Tryz.ntmps169
 go_wp2_with (first
  | (with_reducible refine CF.out.mono ?_;rintro e w1 ⟨rfl,hb1⟩;have hB1:=Kd hB0 hb1)
  | (with_reducible refine (CD.out _ (HM.out.below hB1 lr) (HQ.out.below hB1 lr)).mono ?_;rintro e w2 ⟨rfl,hb2⟩;have hB2:=Kd hB1 hb2;have hB3:=hB2.alloc hB2.size (.cells #[.bool false,.bool false,.bool d3,.int .i64 d4] 228);have R3:=((R0.next hb1).next hb2).alloc (.cells #[.bool false,.bool false,.bool d3,.int .i64 d4] 228);have D3:=AtL.new w2 [.bool false,.bool false,.bool d3,.int .i64 d4] 228;have J3:=HJ.out.below hB3 lr;have j0:=J3.at_.c 0 rfl;have jl3:=J3.at_.lt;have c0:=(brl hB3 _ _ hgw).trans (HCC.out 0 _ rfl);have c1:=(brl hB3 _ _ hgw).trans (HCC.out 1 _ rfl);have c2:=(brl hB3 _ _ hgw).trans (HCC.out 2 _ rfl);have c3:=(brl hB3 _ _ hgw).trans (HCC.out 3 _ rfl);have c4:=(brl hB3 _ _ hgw).trans (HCC.out 4 _ rfl);have c5:=(brl hB3 _ _ hgw).trans (HCC.out 5 _ rfl);simp only [Ku] at c0)
  | (go_at_call 120;refine (CC.out _ (HRD.out.below hB3 lr)).mono ?_;rintro e w4 hq4;obtain ⟨⟨⟨pu,pv,ps,ph,pb,pt⟩,pe⟩,rfl,hxe,hrd4,hb4,hnv,hnh⟩:=hq4;obtain ⟨⟨a3,n3,k3,e3⟩,a4,n4,k4,e4⟩:=hrd4.shp;have e3:pv = .slice a3 n3 k3:=e3;have e4:ph = .slice a4 n4 k4:=e4;subst e3 e4;have hxe:pe=xe:=hxe;subst hxe;have hrd4:Rd w4 ⟨pu,.slice a3 n3 k3,ps,.slice a4 n4 k4,pb,pt⟩ pe:=hrd4;have hnw:NewE (⟨pu,.slice a3 n3 k3,ps,.slice a4 n4 k4,pb,pt⟩,pe) (w2.heap.size+1):=⟨fun b off n k e=>(by have:=hnv b off n k e;simp at this;omega),fun b off n k e=>(by have:=hnh b off n k e;simp at this;omega)⟩;clear hnv hnh j0 c0 c1 c2 c3 c4 c5))
 obtain ⟨W5,hW5⟩:∃ W5:World,w4.alloc (.cells (eeC (⟨pu,.slice a3 n3 k3,ps,.slice a4 n4 k4,pb,pt⟩,pe)).toArray 90)=W5:=⟨_,rfl⟩
 have E5:=AtL.new w4 (eeC (⟨pu,.slice a3 n3 k3,ps,.slice a4 n4 k4,pb,pt⟩,pe)) 90
 have R5:=(R3.next hb4).alloc (.cells (eeC (⟨pu,.slice a3 n3 k3,ps,.slice a4 n4 k4,pb,pt⟩,pe)).toArray 90)
 have D5:=(D3.next hb4).alloc (.cells (eeC (⟨pu,.slice a3 n3 k3,ps,.slice a4 n4 k4,pb,pt⟩,pe)).toArray 90)
 have hB4:=Kd hB3 hb4
 have hB5:=hB4.alloc hB4.size (.cells (eeC (⟨pu,.slice a3 n3 k3,ps,.slice a4 n4 k4,pb,pt⟩,pe)).toArray 90)
 have X5:=hrd4.below ((Kc w4).alloc lr (.cells (eeC (⟨pu,.slice a3 n3 k3,ps,.slice a4 n4 k4,pb,pt⟩,pe)).toArray 90)) lr
 rw [hW5] at E5 R5 D5 hB5 X5
 obtain ⟨Rb,hRb⟩:=Ka w.heap.size
 obtain ⟨Db,hDb⟩:=Ka w2.heap.size
 obtain ⟨Eb,hEb⟩:=Ka w4.heap.size
 have hRD:Rb<Db:=by have:=(R0.next hb1).next hb2;have:=this.lt;omega
 have hDE:Db<Eb:=by have:=(D3.next hb4).lt;omega
 rw [hEb] at E5
 rw [hDb] at D5 hnw
 rw [hRb] at R5
 have hgR:g<Rb:=by omega
 have hjR:jb<Rb:=by omega
 rw [hW5,hRb,hDb,hEb]
 have HRb:=Kb hRb
 clear hW5 hRb hDb hEb R3 D3 J3 hB4 hrd4 hb4 hB3 hB2 hB1 hb1 hb2 R0 hB0 J0 q0
 have H5:=Kb hB5
 have hz5:=hB5.size
 have X5:=Kb X5
 clear hB5
 have z_:=E5.o6
 have y_:=D5.o4
 have el5:=E5.lt
 have dl5:=D5.lt
 have rl5:=R5.lt
 have hwr:IntKind.i64.wrap (1000 * d4)=1000 * d4:=IntWalk.i64_in _ (by omega)
 refine wp_region_held_drew (S:=(fun w'=>w'.cell? ⟨Eb,0,none⟩=some (.string pu)/\w'.cell? ⟨Eb,1,none⟩=some (.slice a3 n3 k3)/\w'.cell? ⟨Eb,2,none⟩=some (.int .i64 ps)/\w'.cell? ⟨Eb,3,none⟩=some (.slice a4 n4 k4)/\w'.cell? ⟨Eb,4,none⟩=some (.string pb)/\w'.cell? ⟨Eb,5,none⟩=some (.int .i64 pt)/\w'.cell? ⟨Db,1,none⟩=some (.bool false)/\w'.cell? ⟨Db,3,none⟩=some (.int .i64 d4))) (by kernel_rfl) ?_ (fun hHeld=>?_)
 ·exact ed_mk E5 D5 (Kc W5).drew
 refine tkH 0 ?_
 refine tkH 1 ?_
 refine wpAnyH_ready (rs:=[2]) (by kernel_rfl) (by simp) ?_
 refine AllReadyH.cons rfl (fun K hK=>?_) AllReadyH.nil
 go_simp
 go_wp2_with ((with_reducible refine (CFr.out _ ⟨pu,.slice a3 n3 k3,ps,.slice a4 n4 k4,pb,pt⟩ (HM.out.below (H5.out.trans ((Kc W5).drew.mono hz5)) lr) (X5.out.below (Kc W5).drew lr)).mono ?_);rintro e w6 ⟨rfl,hbb6⟩;have hb6:=(Kc W5).drew.trans hbb6)
 refine hK.out _ _ ?_ (fun hHeld2=>?_)
 ·exact ed_mk E5 D5 hb6
 clear hK K hHeld
 have hHeld:=hHeld2
 clear hHeld2
 refine tkH 3 ?_
 refine tkH 4 ?_
 refine tkH 5 ?_
 refine tkH 6 ?_
 refine tkH 7 ?_
 refine tkH 8 ?_
 refine tkH 9 ?_
 refine tkH 10 ?_
 refine tkH 11 ?_
 refine tkH 12 ?_
 refine tkH 13 ?_
 refine tkH 14 ?_
 refine tkH 16 ?_
 refine tkH 17 ?_
 refine tkH 18 ?_
 refine wpAnyH_ready (rs:=[15]) (by kernel_rfl) (by simp) ?_
 refine AllReadyH.cons rfl (fun K hK=>?_) AllReadyH.nil
 go_simp
 go_wp2_with ((with_reducible refine (CAg.out _ ⟨pu,.slice a3 n3 k3,ps,.slice a4 n4 k4,pb,pt⟩ X5.out.ti).mono ?_);rintro e w7 ⟨rfl,hbb7⟩;have hb7:=Kd hb6 hbb7)
 refine hK.out _ _ ?_ (fun hHeld2=>?_)
 ·exact ed_mk E5 D5 hb7
 clear hK K hHeld
 have hHeld:=hHeld2
 clear hHeld2
 refine tkH 19 ?_
 refine tkH 20 ?_
 refine tkH 21 ?_
 refine wpAnyH_done (by kernel_rfl) ?_ _
 clear hwr
 have hbL:=hb7
 have EL:=E5.next hbL
 have RL:=R5.next hbL
 have HBL:=H5.out.trans (hbL.mono hz5)
 have XL:=X5.out.below hbL lr
 have hzL:=HBL.size
 have elL:=EL.lt
 have rlL:=RL.lt
 clear z_ y_ hHeld
 have z_:=EL.o6
 first
  |go_wp2_with (go_at_call 233;refine (CK0.out _ _ XL.hd).mono ?_;rintro e w9 ⟨rfl,hb9⟩;have R9:=RL.next hb9;have r_:=R9.o8;have g_:=R9.of8;have rl9:=R9.lt)
   exact ask_send HJ.out (HBL.trans (hb9.mono hzL)) (Jl HRb.out) R9 rfl
  |go_wp2_with (go_at_call 233;refine (CK1.out _ _ XL.hd).mono ?_;rintro e w9 ⟨g9,c9,rfl,hs9,hg9,hb9⟩;have R9:=RL.next hb9;have E9:=EL.next hb9;clear z_;have z_:=E9.o6;have r_:=R9.o8;have g_:=R9.of8;have rl9:=R9.lt;have el9:=E9.lt)
   have X9:Rd w9 ⟨pu,.slice a3 n3 k3,ps,.slice a4 n4 k4,pb,pt⟩ pe:=XL.below hb9 lr
   have hB9:=HBL.trans (hb9.mono hzL)
   exact bodyPost_ret (ret8_run Tryz.results169 Tryz.sizeOf178 Tryz.isAgg178 _ _ Rb _ _ _ _ _ _ _ _ rfl (R9.set8 rfl _ _ _ _ _ _ _ _)) rfl ⟨_,_,rfl,rd_set8 (x:=(⟨pu,.slice a3 n3 k3,ps,.slice a4 n4 k4,pb,pt⟩,pe)) X9 (hnw.far (by omega) (fun b h=>by cases h)) _ _ _ _ _ _ _ _,slk_set8 hs9 (fun b off n k e=>by injection e with e1 _ _;injection e1 with e1;injection e1 with e1;omega) _ _ _ _ _ _ _ _,cato_fin HJ.out hB9 (CaTo.refl (HJ.out.below hB9 lr)) (fun _ h=>h) (Jl HRb.out) rl9 _ _ _ _ _ _ _ _,hnw.mono (by have hrb:=HRb.out;omega),fun b off n k e=>by have hrb:=HRb.out;injection e with e1 _ _;injection e1 with e1;injection e1 with e1;omega⟩
  |go_wp2_with (go_at_call 123;refine (CM.out _ (HJ.out.below HBL lr)).mono ?_;rintro e w9 ⟨rfl,hto⟩;have R9:=RL.row hto.2 rlL (by omega) (own_ne (by omega) _ _);have E9:=EL.row hto.2 elL (by omega) (own_ne (by omega) _ _);clear z_;have z_:=E9.o6;have r_:=R9.o8;have g_:=R9.of8;have rl9:=R9.lt;have el9:=E9.lt)
   have X9:Rd w9 ⟨pu,.slice a3 n3 k3,ps,.slice a4 n4 k4,pb,pt⟩ pe:=XL.row (x:=(⟨pu,.slice a3 n3 k3,ps,.slice a4 n4 k4,pb,pt⟩,pe)) hto.2 lr (hnw.far (by omega) (own_ltN (by omega) _ _))
   exact bodyPost_ret (ret8_run Tryz.results169 Tryz.sizeOf178 Tryz.isAgg178 _ _ Rb _ _ _ _ _ _ _ _ rfl (R9.set8 rfl _ _ _ _ _ _ _ _)) rfl ⟨_,.slice none 0 0,rfl,rd_set8 (x:=(⟨pu,.slice a3 n3 k3,ps,.slice a4 n4 k4,pb,pt⟩,pe)) X9 (hnw.far (by omega) (fun b h=>by cases h)) _ _ _ _ _ _ _ _,slk0 _,cato_fin HJ.out HBL hto HMEM.out (Jl HRb.out) rlL _ _ _ _ _ _ _ _,hnw.mono (by have hrb:=HRb.out;omega),fun b off n k e=>(by cases e)⟩
 ):p:=h
theorem N4{p:Prop}(h:p:=by
 clear hu2
 have hjl:=hJ.at_.lt
 obtain ⟨a,cap,rfl,hcap,hcm,ha⟩:=own_reads hJ.own
 rcases ha with ⟨_,h0⟩ | ⟨g,rfl,hBg,hgw,hcell⟩
 ·omega
 have hmx:x∈l:=by rw [<-hx];exact Ky hi
 have hrdx:=hJ.rd x hmx
 have hzx:=hz x hmx
 have hmem:∀ y∈l.eraseIdx i ++ [x],y∈l:=by rw [<-hx];exact erase_mem l i hi
 have cc:∀ j u,(eeC x)[j]? = some u->w.cell? ⟨g,i * 6+j,none⟩=some u:=fun j u hu=>hcell _ _ (cellsK_get eelen l i hi j u (by rw [hx];exact hu))
 have R0:=AtL.new w pl0 178
 have hB0:Below w.heap.size w (w.alloc (.cells pl0.toArray 178)):=(Kc w).alloc lr _
 have J0:=hJ.below hB0 lr
 have q0:=hq.below hB0 lr
 have CF:=Kb (find_is jb _ l _ J0.at_ J0.reads (fun x hx=>⟨J0.rd x hx,(hz x hx).1⟩) hl url rq vr q0 hzq _ hR)
 have CD:=Kb (fun (w:World) hM hv=>(dir_is rq vr w hM hv hzq ⟨false,true,d3,d4⟩ hD).mono fun e w' (h:e=Ending.returned (dirA ⟨false,true,d3,d4⟩)/\Below w.heap.size w w')=>(show e=Ending.returned (.agg #[.bool false,.bool true,.bool d3,.int .i64 d4])/\Below w.heap.size w w' from h))
 have CM:=Kb (fun (w:World) (hJ:CaIn w jb B (.slice (some ⟨g,0,none⟩) l.length cap) l)=>move_is jb B _ l w hJ i hi hl x hx)
 have CC:=Kb (fun (w:World) (hr:Rd w x.1 x.2)=>cop_is x w hr hzx.1.1 hzx.2.1)
 have CFr:=Kb (fun (w:World) (r:Er) hM (hr:Rd w r x.2)=>fresh_is r x.2 now w hM hr hzx.2 _ hF)
 have CAg:=Kb (fun (w:World) (r:Er) (h:r.ti=x.2.ti)=>eage_is r now w A (by rw [h];exact hA))
 have hdb:=dirL_bd rq
 rw [hD] at hdb
 have hda : -1<=d4:=hdb.1
 have hdc:d4<1000000000:=hdb.2
 have hab:=ageE_bd x.2.ti now
 rw [hA] at hab
 have ha0:=hab.1
 have ha1:=hab.2
 have HM:=Kb hM
 have HQ:=Kb hq
 have HJ:=Kb hJ
 have HI:=Kb hi
 have HX:=Kb hx
 have HRD:=Kb hrdx
 have HMEM:=Kb hmem
 have hshp:=hrdx.shp
 obtain ⟨sa,sc,rfl,_⟩:=hq.shape
 have hii:(i:Int)<(l.length:Int):=by omega
 have hi0:(0:Int)<=(i:Int):=by omega
 have hgj:g≠jb:=fun e=>hJ.ne (by rw [e];rfl)
 obtain ⟨⟨u,vv,st,hh,bo,ti⟩,xe⟩:=x
 obtain ⟨⟨a1,n1,k1,e1⟩,a2,n2,k2,e2⟩:=hshp
 have e1:vv = .slice a1 n1 k1:=e1
 have e2:hh = .slice a2 n2 k2:=e2
 subst e1 e2
 have HCC:=Kb cc
 clear cc hcell hx hD hR hq hJ hz hM hrdx hmem hmx hF hA hab hdb hzx
 go_enter Tryz.func169,Tryz.ntmps169
 go_wp2_with (first
  | (with_reducible refine CF.out.mono ?_;rintro e w1 ⟨rfl,hb1⟩;have hB1:=Kd hB0 hb1)
  | (with_reducible refine (CD.out _ (HM.out.below hB1 lr) (HQ.out.below hB1 lr)).mono ?_;rintro e w2 ⟨rfl,hb2⟩;have hB2:=Kd hB1 hb2;have hB3:=hB2.alloc hB2.size (.cells #[.bool false,.bool true,.bool d3,.int .i64 d4] 228);have R3:=((R0.next hb1).next hb2).alloc (.cells #[.bool false,.bool true,.bool d3,.int .i64 d4] 228);have D3:=AtL.new w2 [.bool false,.bool true,.bool d3,.int .i64 d4] 228;have J3:=HJ.out.below hB3 lr;have j0:=J3.at_.c 0 rfl;have jl3:=J3.at_.lt;have c0:=(brl hB3 _ _ hgw).trans (HCC.out 0 _ rfl);have c1:=(brl hB3 _ _ hgw).trans (HCC.out 1 _ rfl);have c2:=(brl hB3 _ _ hgw).trans (HCC.out 2 _ rfl);have c3:=(brl hB3 _ _ hgw).trans (HCC.out 3 _ rfl);have c4:=(brl hB3 _ _ hgw).trans (HCC.out 4 _ rfl);have c5:=(brl hB3 _ _ hgw).trans (HCC.out 5 _ rfl);simp only [Ku] at c0)
  | (go_at_call 120;refine (CC.out _ (HRD.out.below hB3 lr)).mono ?_;rintro e w4 hq4;obtain ⟨⟨⟨pu,pv,ps,ph,pb,pt⟩,pe⟩,rfl,hxe,hrd4,hb4,hnv,hnh⟩:=hq4;obtain ⟨⟨a3,n3,k3,e3⟩,a4,n4,k4,e4⟩:=hrd4.shp;have e3:pv = .slice a3 n3 k3:=e3;have e4:ph = .slice a4 n4 k4:=e4;subst e3 e4;have hxe:pe=xe:=hxe;subst hxe;have hrd4:Rd w4 ⟨pu,.slice a3 n3 k3,ps,.slice a4 n4 k4,pb,pt⟩ pe:=hrd4;have hnw:NewE (⟨pu,.slice a3 n3 k3,ps,.slice a4 n4 k4,pb,pt⟩,pe) (w2.heap.size+1):=⟨fun b off n k e=>(by have:=hnv b off n k e;simp at this;omega),fun b off n k e=>(by have:=hnh b off n k e;simp at this;omega)⟩;clear hnv hnh j0 c0 c1 c2 c3 c4 c5))
 obtain ⟨W5,hW5⟩:∃ W5:World,w4.alloc (.cells (eeC (⟨pu,.slice a3 n3 k3,ps,.slice a4 n4 k4,pb,pt⟩,pe)).toArray 90)=W5:=⟨_,rfl⟩
 have E5:=AtL.new w4 (eeC (⟨pu,.slice a3 n3 k3,ps,.slice a4 n4 k4,pb,pt⟩,pe)) 90
 have R5:=(R3.next hb4).alloc (.cells (eeC (⟨pu,.slice a3 n3 k3,ps,.slice a4 n4 k4,pb,pt⟩,pe)).toArray 90)
 have D5:=(D3.next hb4).alloc (.cells (eeC (⟨pu,.slice a3 n3 k3,ps,.slice a4 n4 k4,pb,pt⟩,pe)).toArray 90)
 have hB4:=Kd hB3 hb4
 have hB5:=hB4.alloc hB4.size (.cells (eeC (⟨pu,.slice a3 n3 k3,ps,.slice a4 n4 k4,pb,pt⟩,pe)).toArray 90)
 have X5:=hrd4.below ((Kc w4).alloc lr (.cells (eeC (⟨pu,.slice a3 n3 k3,ps,.slice a4 n4 k4,pb,pt⟩,pe)).toArray 90)) lr
 rw [hW5] at E5 R5 D5 hB5 X5
 obtain ⟨Rb,hRb⟩:=Ka w.heap.size
 obtain ⟨Db,hDb⟩:=Ka w2.heap.size
 obtain ⟨Eb,hEb⟩:=Ka w4.heap.size
 have hRD:Rb<Db:=by have:=(R0.next hb1).next hb2;have:=this.lt;omega
 have hDE:Db<Eb:=by have:=(D3.next hb4).lt;omega
 rw [hEb] at E5
 rw [hDb] at D5 hnw
 rw [hRb] at R5
 have hgR:g<Rb:=by omega
 have hjR:jb<Rb:=by omega
 rw [hW5,hRb,hDb,hEb]
 have HRb:=Kb hRb
 clear hW5 hRb hDb hEb R3 D3 J3 hB4 hrd4 hb4 hB3 hB2 hB1 hb1 hb2 R0 hB0 J0 q0
 have H5:=Kb hB5
 have hz5:=hB5.size
 have X5:=Kb X5
 clear hB5
 have z_:=E5.o6
 have y_:=D5.o4
 have el5:=E5.lt
 have dl5:=D5.lt
 have rl5:=R5.lt
 refine wp_region_held_drew (S:=(fun w'=>w'.cell? ⟨Eb,0,none⟩=some (.string pu)/\w'.cell? ⟨Eb,1,none⟩=some (.slice a3 n3 k3)/\w'.cell? ⟨Eb,2,none⟩=some (.int .i64 ps)/\w'.cell? ⟨Eb,3,none⟩=some (.slice a4 n4 k4)/\w'.cell? ⟨Eb,4,none⟩=some (.string pb)/\w'.cell? ⟨Eb,5,none⟩=some (.int .i64 pt)/\w'.cell? ⟨Db,1,none⟩=some (.bool true)/\w'.cell? ⟨Db,3,none⟩=some (.int .i64 d4))) (by kernel_rfl) ?_ (fun hHeld=>?_)
 ·exact ed_mk E5 D5 (Kc W5).drew
 refine tkH 0 ?_
 refine tkH 1 ?_
 refine wpAnyH_ready (rs:=[2]) (by kernel_rfl) (by simp) ?_
 refine AllReadyH.cons rfl (fun K hK=>?_) AllReadyH.nil
 go_simp
 go_wp2_with ((with_reducible refine (CFr.out _ ⟨pu,.slice a3 n3 k3,ps,.slice a4 n4 k4,pb,pt⟩ (HM.out.below (H5.out.trans ((Kc W5).drew.mono hz5)) lr) (X5.out.below (Kc W5).drew lr)).mono ?_);rintro e w6 ⟨rfl,hbb6⟩;have hb6:=(Kc W5).drew.trans hbb6)
 refine hK.out _ _ ?_ (fun hHeld2=>?_)
 ·exact ed_mk E5 D5 hb6
 clear hK K hHeld
 have hHeld:=hHeld2
 clear hHeld2
 refine tkH 3 ?_
 refine tkH 4 ?_
 refine tkH 5 ?_
 refine tkH 6 ?_
 refine tkH 7 ?_
 refine tkH 8 ?_
 refine skH 9 ?_
 refine skH 10 ?_
 refine skH 11 ?_
 refine skH 12 ?_
 refine skH 13 ?_
 refine skH 14 ?_
 refine skH 15 ?_
 refine skH 16 ?_
 refine skH 17 ?_
 refine skH 18 ?_
 refine skH 19 ?_
 refine skH 20 ?_
 refine tkH 21 ?_
 refine wpAnyH_done (by kernel_rfl) ?_ _
 have hbL:=hb6
 have EL:=E5.next hbL
 have RL:=R5.next hbL
 have HBL:=H5.out.trans (hbL.mono hz5)
 have XL:=X5.out.below hbL lr
 have hzL:=HBL.size
 have elL:=EL.lt
 have rlL:=RL.lt
 clear z_ y_ hHeld
 have z_:=EL.o6
 first
  |go_wp2_with (go_at_call 233;refine (CK0.out _ _ XL.hd).mono ?_;rintro e w9 ⟨rfl,hb9⟩;have R9:=RL.next hb9;have r_:=R9.o8;have g_:=R9.of8;have rl9:=R9.lt)
   exact ask_send HJ.out (HBL.trans (hb9.mono hzL)) (Jl HRb.out) R9 rfl
  |go_wp2_with (go_at_call 233;refine (CK1.out _ _ XL.hd).mono ?_;rintro e w9 ⟨g9,c9,rfl,hs9,hg9,hb9⟩;have R9:=RL.next hb9;have E9:=EL.next hb9;clear z_;have z_:=E9.o6;have r_:=R9.o8;have g_:=R9.of8;have rl9:=R9.lt;have el9:=E9.lt)
   have X9:Rd w9 ⟨pu,.slice a3 n3 k3,ps,.slice a4 n4 k4,pb,pt⟩ pe:=XL.below hb9 lr
   have hB9:=HBL.trans (hb9.mono hzL)
   exact bodyPost_ret (ret8_run Tryz.results169 Tryz.sizeOf178 Tryz.isAgg178 _ _ Rb _ _ _ _ _ _ _ _ rfl (R9.set8 rfl _ _ _ _ _ _ _ _)) rfl ⟨_,_,rfl,rd_set8 (x:=(⟨pu,.slice a3 n3 k3,ps,.slice a4 n4 k4,pb,pt⟩,pe)) X9 (hnw.far (by omega) (fun b h=>by cases h)) _ _ _ _ _ _ _ _,slk_set8 hs9 (fun b off n k e=>by injection e with e1 _ _;injection e1 with e1;injection e1 with e1;omega) _ _ _ _ _ _ _ _,cato_fin HJ.out hB9 (CaTo.refl (HJ.out.below hB9 lr)) (fun _ h=>h) (Jl HRb.out) rl9 _ _ _ _ _ _ _ _,hnw.mono (by have hrb:=HRb.out;omega),fun b off n k e=>by have hrb:=HRb.out;injection e with e1 _ _;injection e1 with e1;injection e1 with e1;omega⟩
 ):p:=h
theorem N5{p:Prop}(h:p:=by
 clear hu2
 have hjl:=hJ.at_.lt
 obtain ⟨a,cap,rfl,hcap,hcm,ha⟩:=own_reads hJ.own
 rcases ha with ⟨_,h0⟩ | ⟨g,rfl,hBg,hgw,hcell⟩
 ·omega
 have hmx:x∈l:=by rw [<-hx];exact Ky hi
 have hrdx:=hJ.rd x hmx
 have hzx:=hz x hmx
 have hmem:∀ y∈l.eraseIdx i ++ [x],y∈l:=by rw [<-hx];exact erase_mem l i hi
 have cc:∀ j u,(eeC x)[j]? = some u->w.cell? ⟨g,i * 6+j,none⟩=some u:=fun j u hu=>hcell _ _ (cellsK_get eelen l i hi j u (by rw [hx];exact hu))
 have R0:=AtL.new w pl0 178
 have hB0:Below w.heap.size w (w.alloc (.cells pl0.toArray 178)):=(Kc w).alloc lr _
 have J0:=hJ.below hB0 lr
 have q0:=hq.below hB0 lr
 have CF:=Kb (find_is jb _ l _ J0.at_ J0.reads (fun x hx=>⟨J0.rd x hx,(hz x hx).1⟩) hl url rq vr q0 hzq _ hR)
 have CD:=Kb (fun (w:World) hM hv=>(dir_is rq vr w hM hv hzq ⟨false,d2,d3,d4⟩ hD).mono fun e w' (h:e=Ending.returned (dirA ⟨false,d2,d3,d4⟩)/\Below w.heap.size w w')=>(show e=Ending.returned (.agg #[.bool false,.bool d2,.bool d3,.int .i64 d4])/\Below w.heap.size w w' from h))
 have CM:=Kb (fun (w:World) (hJ:CaIn w jb B (.slice (some ⟨g,0,none⟩) l.length cap) l)=>move_is jb B _ l w hJ i hi hl x hx)
 have CC:=Kb (fun (w:World) (hr:Rd w x.1 x.2)=>cop_is x w hr hzx.1.1 hzx.2.1)
 have CFr:=Kb (fun (w:World) (r:Er) hM (hr:Rd w r x.2)=>fresh_is r x.2 now w hM hr hzx.2 _ hF)
 have CAg:=Kb (fun (w:World) (r:Er) (h:r.ti=x.2.ti)=>eage_is r now w A (by rw [h];exact hA))
 have hdb:=dirL_bd rq
 rw [hD] at hdb
 have hda : -1<=d4:=hdb.1
 have hdc:d4<1000000000:=hdb.2
 have hab:=ageE_bd x.2.ti now
 rw [hA] at hab
 have ha0:=hab.1
 have ha1:=hab.2
 have HM:=Kb hM
 have HQ:=Kb hq
 have HJ:=Kb hJ
 have HI:=Kb hi
 have HX:=Kb hx
 have HRD:=Kb hrdx
 have HMEM:=Kb hmem
 have hshp:=hrdx.shp
 obtain ⟨sa,sc,rfl,_⟩:=hq.shape
 have hii:(i:Int)<(l.length:Int):=by omega
 have hi0:(0:Int)<=(i:Int):=by omega
 have hgj:g≠jb:=fun e=>hJ.ne (by rw [e];rfl)
 obtain ⟨⟨u,vv,st,hh,bo,ti⟩,xe⟩:=x
 obtain ⟨⟨a1,n1,k1,e1⟩,a2,n2,k2,e2⟩:=hshp
 have e1:vv = .slice a1 n1 k1:=e1
 have e2:hh = .slice a2 n2 k2:=e2
 subst e1 e2
 have HCC:=Kb cc
 clear cc hcell hx hD hR hq hJ hz hM hrdx hmem hmx hF hA hab hdb hzx
 go_enter Tryz.func169,Tryz.ntmps169
 go_wp2_with (first
  | (with_reducible refine CF.out.mono ?_;rintro e w1 ⟨rfl,hb1⟩;have hB1:=Kd hB0 hb1)
  | (with_reducible refine (CD.out _ (HM.out.below hB1 lr) (HQ.out.below hB1 lr)).mono ?_;rintro e w2 ⟨rfl,hb2⟩;have hB2:=Kd hB1 hb2;have hB3:=hB2.alloc hB2.size (.cells #[.bool false,.bool d2,.bool d3,.int .i64 d4] 228);have R3:=((R0.next hb1).next hb2).alloc (.cells #[.bool false,.bool d2,.bool d3,.int .i64 d4] 228);have D3:=AtL.new w2 [.bool false,.bool d2,.bool d3,.int .i64 d4] 228;have J3:=HJ.out.below hB3 lr;have j0:=J3.at_.c 0 rfl;have jl3:=J3.at_.lt;have c0:=(brl hB3 _ _ hgw).trans (HCC.out 0 _ rfl);have c1:=(brl hB3 _ _ hgw).trans (HCC.out 1 _ rfl);have c2:=(brl hB3 _ _ hgw).trans (HCC.out 2 _ rfl);have c3:=(brl hB3 _ _ hgw).trans (HCC.out 3 _ rfl);have c4:=(brl hB3 _ _ hgw).trans (HCC.out 4 _ rfl);have c5:=(brl hB3 _ _ hgw).trans (HCC.out 5 _ rfl);simp only [Ku] at c0)
  | (go_at_call 120;refine (CC.out _ (HRD.out.below hB3 lr)).mono ?_;rintro e w4 hq4;obtain ⟨⟨⟨pu,pv,ps,ph,pb,pt⟩,pe⟩,rfl,hxe,hrd4,hb4,hnv,hnh⟩:=hq4;obtain ⟨⟨a3,n3,k3,e3⟩,a4,n4,k4,e4⟩:=hrd4.shp;have e3:pv = .slice a3 n3 k3:=e3;have e4:ph = .slice a4 n4 k4:=e4;subst e3 e4;have hxe:pe=xe:=hxe;subst hxe;have hrd4:Rd w4 ⟨pu,.slice a3 n3 k3,ps,.slice a4 n4 k4,pb,pt⟩ pe:=hrd4;have hnw:NewE (⟨pu,.slice a3 n3 k3,ps,.slice a4 n4 k4,pb,pt⟩,pe) (w2.heap.size+1):=⟨fun b off n k e=>(by have:=hnv b off n k e;simp at this;omega),fun b off n k e=>(by have:=hnh b off n k e;simp at this;omega)⟩;clear hnv hnh j0 c0 c1 c2 c3 c4 c5))
 obtain ⟨W5,hW5⟩:∃ W5:World,w4.alloc (.cells (eeC (⟨pu,.slice a3 n3 k3,ps,.slice a4 n4 k4,pb,pt⟩,pe)).toArray 90)=W5:=⟨_,rfl⟩
 have E5:=AtL.new w4 (eeC (⟨pu,.slice a3 n3 k3,ps,.slice a4 n4 k4,pb,pt⟩,pe)) 90
 have R5:=(R3.next hb4).alloc (.cells (eeC (⟨pu,.slice a3 n3 k3,ps,.slice a4 n4 k4,pb,pt⟩,pe)).toArray 90)
 have D5:=(D3.next hb4).alloc (.cells (eeC (⟨pu,.slice a3 n3 k3,ps,.slice a4 n4 k4,pb,pt⟩,pe)).toArray 90)
 have hB4:=Kd hB3 hb4
 have hB5:=hB4.alloc hB4.size (.cells (eeC (⟨pu,.slice a3 n3 k3,ps,.slice a4 n4 k4,pb,pt⟩,pe)).toArray 90)
 have X5:=hrd4.below ((Kc w4).alloc lr (.cells (eeC (⟨pu,.slice a3 n3 k3,ps,.slice a4 n4 k4,pb,pt⟩,pe)).toArray 90)) lr
 rw [hW5] at E5 R5 D5 hB5 X5
 obtain ⟨Rb,hRb⟩:=Ka w.heap.size
 obtain ⟨Db,hDb⟩:=Ka w2.heap.size
 obtain ⟨Eb,hEb⟩:=Ka w4.heap.size
 have hRD:Rb<Db:=by have:=(R0.next hb1).next hb2;have:=this.lt;omega
 have hDE:Db<Eb:=by have:=(D3.next hb4).lt;omega
 rw [hEb] at E5
 rw [hDb] at D5 hnw
 rw [hRb] at R5
 have hgR:g<Rb:=by omega
 have hjR:jb<Rb:=by omega
 rw [hW5,hRb,hDb,hEb]
 have HRb:=Kb hRb
 clear hW5 hRb hDb hEb R3 D3 J3 hB4 hrd4 hb4 hB3 hB2 hB1 hb1 hb2 R0 hB0 J0 q0
 have H5:=Kb hB5
 have hz5:=hB5.size
 have X5:=Kb X5
 clear hB5
 have z_:=E5.o6
 have y_:=D5.o4
 have el5:=E5.lt
 have dl5:=D5.lt
 have rl5:=R5.lt
 refine wp_region_held_drew (S:=(fun w'=>w'.cell? ⟨Eb,0,none⟩=some (.string pu)/\w'.cell? ⟨Eb,1,none⟩=some (.slice a3 n3 k3)/\w'.cell? ⟨Eb,2,none⟩=some (.int .i64 ps)/\w'.cell? ⟨Eb,3,none⟩=some (.slice a4 n4 k4)/\w'.cell? ⟨Eb,4,none⟩=some (.string pb)/\w'.cell? ⟨Eb,5,none⟩=some (.int .i64 pt)/\w'.cell? ⟨Db,1,none⟩=some (.bool d2)/\w'.cell? ⟨Db,3,none⟩=some (.int .i64 d4))) (by kernel_rfl) ?_ (fun hHeld=>?_)
 ·exact ed_mk E5 D5 (Kc W5).drew
 refine tkH 0 ?_
 refine tkH 1 ?_
 refine wpAnyH_ready (rs:=[2]) (by kernel_rfl) (by simp) ?_
 refine AllReadyH.cons rfl (fun K hK=>?_) AllReadyH.nil
 go_simp
 go_wp2_with ((with_reducible refine (CFr.out _ ⟨pu,.slice a3 n3 k3,ps,.slice a4 n4 k4,pb,pt⟩ (HM.out.below (H5.out.trans ((Kc W5).drew.mono hz5)) lr) (X5.out.below (Kc W5).drew lr)).mono ?_);rintro e w6 ⟨rfl,hbb6⟩;have hb6:=(Kc W5).drew.trans hbb6)
 refine hK.out _ _ ?_ (fun hHeld2=>?_)
 ·exact ed_mk E5 D5 hb6
 clear hK K hHeld
 have hHeld:=hHeld2
 clear hHeld2
 refine tkH 3 ?_
 refine skH 4 ?_
 refine skH 5 ?_
 refine skH 6 ?_
 refine tkH 7 ?_
 refine tkH 8 ?_
 refine skH 9 ?_
 refine skH 10 ?_
 refine skH 11 ?_
 refine skH 12 ?_
 refine skH 13 ?_
 refine skH 14 ?_
 refine skH 15 ?_
 refine skH 16 ?_
 refine skH 17 ?_
 refine skH 18 ?_
 refine skH 19 ?_
 refine skH 20 ?_
 refine tkH 21 ?_
 refine wpAnyH_done (by kernel_rfl) ?_ _
 have hbL:=hb6
 have EL:=E5.next hbL
 have RL:=R5.next hbL
 have HBL:=H5.out.trans (hbL.mono hz5)
 have XL:=X5.out.below hbL lr
 have hzL:=HBL.size
 have elL:=EL.lt
 have rlL:=RL.lt
 clear z_ y_ hHeld
 have z_:=EL.o6
 first
  |go_wp2_with (go_at_call 233;refine (CK0.out _ _ XL.hd).mono ?_;rintro e w9 ⟨rfl,hb9⟩;have R9:=RL.next hb9;have r_:=R9.o8;have g_:=R9.of8;have rl9:=R9.lt)
   exact ask_send HJ.out (HBL.trans (hb9.mono hzL)) (Jl HRb.out) R9 rfl
  |go_wp2_with (go_at_call 233;refine (CK1.out _ _ XL.hd).mono ?_;rintro e w9 ⟨g9,c9,rfl,hs9,hg9,hb9⟩;have R9:=RL.next hb9;have E9:=EL.next hb9;clear z_;have z_:=E9.o6;have r_:=R9.o8;have g_:=R9.of8;have rl9:=R9.lt;have el9:=E9.lt)
   have X9:Rd w9 ⟨pu,.slice a3 n3 k3,ps,.slice a4 n4 k4,pb,pt⟩ pe:=XL.below hb9 lr
   have hB9:=HBL.trans (hb9.mono hzL)
   exact bodyPost_ret (ret8_run Tryz.results169 Tryz.sizeOf178 Tryz.isAgg178 _ _ Rb _ _ _ _ _ _ _ _ rfl (R9.set8 rfl _ _ _ _ _ _ _ _)) rfl ⟨_,_,rfl,rd_set8 (x:=(⟨pu,.slice a3 n3 k3,ps,.slice a4 n4 k4,pb,pt⟩,pe)) X9 (hnw.far (by omega) (fun b h=>by cases h)) _ _ _ _ _ _ _ _,slk_set8 hs9 (fun b off n k e=>by injection e with e1 _ _;injection e1 with e1;injection e1 with e1;omega) _ _ _ _ _ _ _ _,cato_fin HJ.out hB9 (CaTo.refl (HJ.out.below hB9 lr)) (fun _ h=>h) (Jl HRb.out) rl9 _ _ _ _ _ _ _ _,hnw.mono (by have hrb:=HRb.out;omega),fun b off n k e=>by have hrb:=HRb.out;injection e with e1 _ _;injection e1 with e1;injection e1 with e1;omega⟩
 ):p:=h
theorem M12{p:Prop}(h:p:=by
 clear hu hL
 cases F with
 | false=>
   exact N5
 | true=>
   cases d2 with
   | true=>
     exact N4
   | false=>
     simp only [Bool.true_and,Bool.not_false,Bool.or_eq_false_iff,Zy] at hu2
     have h4:decide (d4<0)=false:=Kj hu2.1
     have h5:decide (A<=1000 * d4)=false:=Kj hu2.2
     have h40:0<=d4:=by omega
     clear hu2
     exact N1
 ):p:=h
theorem ask_chk0 (jb B:Nat)(v:Value)(l:List Ee)(w:World)(hM:MaxAt w)(hJ:CaIn w jb B v l)(hz:∀ x∈l,HdSz x.2.va/\HdSz x.2.hd)(hl:l.length<=1000)(url:ByteArray)(rq:List Hd)(vr:Value)(hq:SlK hdC 2 w vr rq)(hzq:HdSz rq)(now:Int)(i:Nat)(hi:i<l.length)(x:Ee)(hx:l[i]=x)(hR:LastAt (fun x=>ansB x.2 url rq) l (i:Int))(d2 d3:Bool)(d4:Int)(hD:dirL rq=⟨false,d2,d3,d4⟩)(hu:useB ⟨false,d2,d3,d4⟩ x.2 now=false)(hL:chkL x.2.hd=[]):
 Calls Tryz.prog 169 #[.pointer (some ⟨jb,0,none⟩),.string url,vr,.int .i64 now] w (AskQ w jb B v 1 en0 [] l):=by
 obtain ⟨F,hF⟩:=Ka (freshE x.2 now)
 obtain ⟨A,hA⟩:=Ka (ageE x.2.ti now)
 have hu2:(F && (!d2 && (decide (d4<0) || decide (A<=1000 * d4))))=false:=by rw [<-hu];unfold useB;rw [hF,hA]
 have CK0:=Kb (fun (w:World) (u:Value) (hv:SlK hdC 2 w u x.2.hd)=>(chk_is x.2.hd u w hv (hz x (by rw [<-hx];exact Ky hi)).2 _ hL).mono fun e w' h=>(show e=Ending.returned (.slice none 0 0)/\Below w.heap.size w w' by
  rcases hdsq_open h with ⟨_,h1,h2⟩ | ⟨h1,_⟩
  ·exact ⟨h1,h2⟩
  ·exact absurd rfl h1))
 exact M12
theorem ask_chk1 (jb B:Nat)(v:Value)(l:List Ee)(w:World)(hM:MaxAt w)(hJ:CaIn w jb B v l)(hz:∀ x∈l,HdSz x.2.va/\HdSz x.2.hd)(hl:l.length<=1000)(url:ByteArray)(rq:List Hd)(vr:Value)(hq:SlK hdC 2 w vr rq)(hzq:HdSz rq)(now:Int)(i:Nat)(hi:i<l.length)(x:Ee)(hx:l[i]=x)(hR:LastAt (fun x=>ansB x.2 url rq) l (i:Int))(d2 d3:Bool)(d4:Int)(hD:dirL rq=⟨false,d2,d3,d4⟩)(hu:useB ⟨false,d2,d3,d4⟩ x.2 now=false)(L:List Hd)(hL:chkL x.2.hd=L)(hL0:L≠[]):
 Calls Tryz.prog 169 #[.pointer (some ⟨jb,0,none⟩),.string url,vr,.int .i64 now] w (AskQ w jb B v 3 x.2 L l):=by
 obtain ⟨F,hF⟩:=Ka (freshE x.2 now)
 obtain ⟨A,hA⟩:=Ka (ageE x.2.ti now)
 have hu2:(F && (!d2 && (decide (d4<0) || decide (A<=1000 * d4))))=false:=by rw [<-hu];unfold useB;rw [hF,hA]
 have CK1:=Kb (fun (w:World) (u:Value) (hv:SlK hdC 2 w u x.2.hd)=>(chk_is x.2.hd u w hv (hz x (by rw [<-hx];exact Ky hi)).2 _ hL).mono fun e w' h=>(show ∃ g c,e=Ending.returned (.slice (some ⟨g,0,none⟩) L.length c)/\SlK hdC 2 w' (.slice (some ⟨g,0,none⟩) L.length c) L/\w.heap.size<=g/\Below w.heap.size w w' by
  rcases hdsq_open h with ⟨h1,_⟩ | ⟨_,g,c,h1,h2,h3⟩
  ·exact absurd h1 hL0
  ·obtain ⟨_,_,hve,_,_,ha⟩:=own_reads h2
   injection hve with e1 _ _
   rcases ha with ⟨rfl,_⟩ | ⟨g',rfl,hg,_⟩
   ·cases e1
   ·injection e1 with e1
    injection e1 with e1
    exact ⟨g,c,h1,SlK.of_own hdC_len h2,by omega,h3⟩))
 clear hL0
 exact M12
end Go.Proofs.YtjdhaacmlpegoaaGreatDoor
