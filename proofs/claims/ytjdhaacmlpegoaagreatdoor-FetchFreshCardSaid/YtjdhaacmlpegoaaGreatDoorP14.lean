/- Part 14 of what the proof needs: C1 C3. -/
import Derived.Test.YtjdhaacmlpegoaaGreatDoorP02
import Derived.Test.YtjdhaacmlpegoaaGreatDoorP04
import Derived.Test.YtjdhaacmlpegoaaGreatDoorP09
import Derived.Shelf.SlicesQ.IndexFunc
import Derived.Deep.LoopGhost
import Derived.Deep.QuietTactic
import Derived.BigQuiet
import Derived.Test.YtjdhaacmlpegoaaGreatDoorP06
import Derived.Test.YtjdhaacmlpegoaaGreatDoorP05
import Derived.OneCell
import Derived.Deep.RegionHeld3
import Derived.Deep.RegionLaw
import Derived.Deep.AppendLies
import Derived.Test.YtjdhaacmlpegoaaGreatDoorP01
import Derived.Outline
import Derived.Deep.DeepCutAuto
import Derived.KernelRfl
set_option maxRecDepth 20000
set_option maxHeartbeats 16000000
namespace Go.Proofs.YtjdhaacmlpegoaaGreatDoor
set_option linter.unusedVariables false
set_option linter.unusedSimpArgs false
open Go.RowKit
theorem AtL.o9 {w:World}{k:Nat}{x0 x1 x2 x3 x4 x5 x6 x7 x8:Value}(h:AtL w k [x0,x1,x2,x3,x4,x5,x6,x7,x8]):w.cell? ⟨k,0,none⟩=some x0/\w.cell? ⟨k,1,none⟩=some x1/\w.cell? ⟨k,2,none⟩=some x2/\w.cell? ⟨k,3,none⟩=some x3/\w.cell? ⟨k,4,none⟩=some x4/\w.cell? ⟨k,5,none⟩=some x5/\w.cell? ⟨k,6,none⟩=some x6/\w.cell? ⟨k,7,none⟩=some x7/\w.cell? ⟨k,8,none⟩=some x8:=⟨h.c 0 rfl,h.c 1 rfl,h.c 2 rfl,h.c 3 rfl,h.c 4 rfl,h.c 5 rfl,h.c 6 rfl,h.c 7 rfl,h.c 8 rfl⟩
end Go.Proofs.YtjdhaacmlpegoaaGreatDoor
namespace Go.Proofs.YtjdhaacmlpegoaaGreatDoor
set_option linter.unusedVariables false
set_option linter.unusedSimpArgs false
open Go.RowKit
end Go.Proofs.YtjdhaacmlpegoaaGreatDoor
namespace Go.Proofs.YtjdhaacmlpegoaaGreatDoor
set_option linter.unusedVariables false
set_option linter.unusedSimpArgs false
open Go.RowKit
end Go.Proofs.YtjdhaacmlpegoaaGreatDoor
namespace Go.Proofs.YtjdhaacmlpegoaaGreatDoor
set_option linter.unusedVariables false
set_option linter.unusedSimpArgs false
open Go.RowKit
theorem expired_is (c:Ck)(now:Int)(R:Bool)(hR:exB c now=R)(w:World):
 Calls Tryz.prog 84 #[ckA c,.int .i64 now] w fun e w'=>e = .returned (.bool R)/\Below w.heap.size w w':=by
 obtain ⟨cn,cv,cd,cp,cho,cse,chi,cex,ccr⟩:=c
 have cK:=fun w=>(clock_any now w).mono fun e w' ⟨h1,h2⟩=>(⟨h1,h2.symm⟩:_/\w'=w)
 unfold exB at hR
 obtain ⟨Cn,hCn⟩:∃ Cn,clockI now=Cn:=⟨_,rfl⟩
 rw [hCn] at hR cK
 have HR:=Lib.hid hR
 have CK:=Lib.hid cK
 clear hR cK hCn
 by_cases h0:0<=cex
 ·have hd:decide (0<=cex)=true:=decide_eq_true h0
  go_enter Tryz.func84,Tryz.ntmps84
  go_wp2_with fail
  go_quiet ((go_at_call 135;exact Calls.quiet_of_same (CK.out _)))
  go_wp2_with fail
  go_ret
  exact ⟨ret_bool (by rw [<-HR.out];rw [hd,Bool.true_and]),below_drewN ((Below.refl _ w).alloc lr _) _⟩
 ·have hd:decide (0<=cex)=false:=decide_eq_false h0
  go_enter Tryz.func84,Tryz.ntmps84
  go_wp2_with fail
  go_quiet ((go_at_call 135;exact Calls.quiet_of_same (CK.out _)))
  go_wp2_with fail
  go_ret
  exact ⟨ret_bool (by rw [<-HR.out];rw [hd,Bool.false_and]),below_drewN ((Below.refl _ w).alloc lr _) _⟩
end Go.Proofs.YtjdhaacmlpegoaaGreatDoor
namespace Go.Proofs.YtjdhaacmlpegoaaGreatDoor
set_option linter.unusedVariables false
set_option linter.unusedSimpArgs false
open Go.RowKit
theorem takes_is (a b c d e f:ByteArray)(T:Bool)(hT:takesB (u6 a b c d e f)=T)(w:World)(hz:USize 40000 a b c d e f)(hM:MaxAt w):
 Calls Tryz.prog 82 #[urlA a b c d e f] w fun x w'=>x = .returned (.bool T)/\Below w.heap.size w w':=by
 have cV:=fun w hM=>valid_any a b c d e f w hz.a hz.b hz.c hz.d hz.e hz.f hM
 obtain ⟨V,hV⟩:∃ V,validB (u6 a b c d e f)=V:=⟨_,rfl⟩
 have hn:=neq_about a
 have hT2:(V && !(a.data.toList == aboutL))=T:=by rw [<-hT,<-hV];rfl
 rw [hV] at cV
 rw [<-hn] at hT2
 obtain ⟨N,hN⟩:∃ N,(a.toList != aboutL)=N:=⟨_,rfl⟩
 rw [hN] at hT2
 have CV:=Lib.hid cV
 have HT:=Lib.hid hT2
 have A0:=AtL.new w (urlL a b c d e f) 37
 have hB0:Below w.heap.size w (w.alloc (.cells #[.string a,.string b,.string c,.string d,.string e,.string f] 37)):=(Below.refl _ w).alloc lr _
 have hM0:=hM.below hB0 lr
 clear cV hT hV hn hT2 hM hz
 cases V
 ·cases N
  all_goals
   go_enter Tryz.func82,Tryz.ntmps82
   go_wp2_with (go_at_call 49;with_reducible refine (CV.out _ hM0).mono ?_;rintro x w1 ⟨rfl,hb1⟩;have hB1:=hB0.trans (hb1.mono hB0.size))
   go_ret
   exact ⟨ret_bool (by rw [<-HT.out];rfl),hB1⟩
 ·cases N
  all_goals
   have hN1:=hN
   have hN2:(a.toList == [97,98,111,117,116]) = !(a.toList != aboutL):=by simp [bne]
   rw [hN] at hN2
   clear hN
   go_enter Tryz.func82,Tryz.ntmps82
   go_wp2_with (go_at_call 49;with_reducible refine (CV.out _ hM0).mono ?_;rintro x w1 ⟨rfl,hb1⟩;have hB1:=hB0.trans (hb1.mono hB0.size);have A1:=A0.next hb1;have z0:=A1.c 0 rfl)
   go_ret
   exact ⟨ret_bool (by rw [<-HT.out];first | rfl | (rw [<-hN1];rfl)),hB1⟩
end Go.Proofs.YtjdhaacmlpegoaaGreatDoor
namespace Go.Proofs.YtjdhaacmlpegoaaGreatDoor
set_option linter.unusedVariables false
set_option linter.unusedSimpArgs false
open Go.RowKit
theorem slC:SlTy Tryz.prog 22 88 9 88:=.mk' (z:=ckA ck0) Tryz.underlying22 (by kernel_rfl) rfl (by decide)
structure JarIn (w:World)(jb B:Nat)(v:Value)(l:List Ck)(nx:Int):Prop where
 at_:AtL w jb [v,.int .i64 nx]
 own:w.ownsRow B 88 9 v l.length (cellsK ckL l)
 ne:v.ownBlock≠some jb
 le:B<=w.heap.size
theorem JarIn.reads {w:World}{jb B:Nat}{v:Value}{l:List Ck}{nx:Int}(h:JarIn w jb B v l nx):SlK ckL 9 w v l:=SlK.of_own ckL_len h.own
theorem JarIn.below {w w':World}{jb B n:Nat}{v:Value}{l:List Ck}{nx:Int}(h:JarIn w jb B v l nx)(hb:Below n w w')(hn:w.heap.size<=n):JarIn w' jb B v l nx:=
 ⟨h.at_.below hb (Nat.lt_of_lt_of_le h.at_.1 hn),own_below h.own hb hn,h.ne,Nat.le_trans h.le hb.size⟩
end Go.Proofs.YtjdhaacmlpegoaaGreatDoor
namespace Go.Proofs.YtjdhaacmlpegoaaGreatDoor
set_option linter.unusedVariables false
set_option linter.unusedSimpArgs false
open Go.RowKit
end Go.Proofs.YtjdhaacmlpegoaaGreatDoor
namespace Go.Proofs.YtjdhaacmlpegoaaGreatDoor
set_option linter.unusedVariables false
set_option linter.unusedSimpArgs false
open Go.RowKit
end Go.Proofs.YtjdhaacmlpegoaaGreatDoor
namespace Go.Proofs.YtjdhaacmlpegoaaGreatDoor
set_option linter.unusedVariables false
set_option linter.unusedSimpArgs false
open Go.RowKit
def SortTo (hits out:List Ck):Prop:=∀ (W:World) (B:Nat) (v:Value),W.ownsRow B 88 9 v hits.length (cellsK ckL hits)->B<=W.heap.size ->
 Calls Tryz.prog 86 #[v,.func (.func 87) #[] #[]] W fun x W'=>x = .returned (.tuple #[])/\W'.ownsRow B 88 9 v out.length (cellsK ckL out)/\Below B W W'
theorem SortTo.run {hits out:List Ck}(h:SortTo hits out){W:World}{B:Nat}{v:Value}(hown:W.ownsRow B 88 9 v hits.length (cellsK ckL hits))(hB:B<=W.heap.size):
 Calls Tryz.prog 86 #[v,.func (.func 87) #[] #[]] W fun x W'=>x = .returned (.tuple #[])/\W'.ownsRow B 88 9 v out.length (cellsK ckL out)/\Below B W W':=h W B v hown hB
theorem ins_short (a:Option Addr)(n cap:Nat)(h:n<=1)(W:World):Calls Tryz.prog 201 #[.slice a n cap,.int .i64 0,.int .i64 n,.func (.func 87) #[] #[]] W fun x W'=>x = .returned (.tuple #[])/\W'=W:=by
 go_enter Tryz.func201,Tryz.ntmps201
 go_wp2_with fail
 refine wp_loop_rounds 1 ?_
 rw [rounds_succ]
 go_wp2_with fail
 go_end0
 exact ⟨rfl,rfl⟩
theorem sort_short (hits:List Ck)(h:hits.length<=1):SortTo hits hits:=by
 intro W B v hown hB
 have hO:=Lib.hid hown
 obtain ⟨a,cap,rfl,hc,hm,_⟩:=own_reads hown
 clear hown
 obtain ⟨n,hn⟩:∃ n,hits.length=n:=⟨_,rfl⟩
 rw [hn] at hO hc h
 rw [hn]
 have CI:∀ W:World,Calls Tryz.prog 136 #[.slice a n cap,.int .i64 n,.func (.func 87) #[] #[]] W fun x W'=>x = .returned (.tuple #[])/\W'=W:=by
  intro W
  have CJ:=Lib.hid (ins_short a n cap h)
  go_enter Tryz.func136,Tryz.ntmps136
  go_wp2_with fail
  refine wp_loop_rounds 1 ?_
  rw [rounds_succ]
  go_wp2_with (go_at_call 201;with_reducible refine (CJ.out _).mono ?_;rintro x w1 ⟨rfl,rfl⟩)
  refine wp_loop_rounds 1 ?_
  rw [rounds_succ]
  go_wp2_with fail
  go_end0
  exact ⟨rfl,rfl⟩
 have CII:=Lib.hid CI
 clear CI
 go_enter Tryz.func86,Tryz.ntmps86
 go_wp2_with (go_at_call 136;with_reducible refine (CII.out _).mono ?_;rintro x w1 ⟨rfl,rfl⟩)
 go_end0
 exact ⟨rfl,hO.out,Below.refl _ _⟩
theorem match_yes (a b cc d e f:ByteArray)(now:Int)(hT:takesB (u6 a b cc d e f)=true)(l:List Ck)(v nx:Value)(jb:Nat)(w:World)(hz:USize 40000 a b cc d e f)(hM:MaxAt w)(hv:SlK ckL 9 w v l)(hJ:AtL w jb [v,nx])
 (hl:l.length<=1000) (hsz:∀ c∈l,c.d.size<=100000/\c.p.size<=100000) (hits out:List Ck) (hh:l.filter (hitB a b d now)=hits) (hS:SortTo hits out) :
 Calls Tryz.prog 39 #[.pointer (some ⟨jb,0,none⟩),urlA a b cc d e f,.int .i64 now] w fun x w'=>∃ v',x = .returned v'/\w'.ownsRow w.heap.size 88 9 v' out.length (cellsK ckL out)/\Below w.heap.size w w':=by
 have CT:=Lib.hid (fun w hM=>takes_is a b cc d e f true hT w hz hM)
 have U0:=AtL.new w (urlL a b cc d e f) 37
 have hb0:Below w.heap.size w (w.alloc (.cells (urlL a b cc d e f).toArray 37)):=(Below.refl _ w).alloc lr _
 have hM0:=hM.below hb0 lr
 have J0:=hJ.below hb0 hJ.1
 have hv0:=hv.below hb0 lr
 obtain ⟨sa,sc,rfl,_⟩:=hv.shape
 have HZ:=Lib.hid hsz
 obtain ⟨pr,hpr⟩:∃ pr,hitB a b d now=pr:=⟨_,rfl⟩
 rw [hpr] at hh
 have HPR:=Lib.hid hpr
 have HH:=Lib.hid hh
 have HS:=Lib.hid hS
 have hza:=hz.a
 have hzb:=hz.b
 have hzd:=hz.d
 clear hT hz hM hsz hh hpr hS hv hJ
 go_enter Tryz.func39,Tryz.ntmps39
 go_wp2_with (go_at_call 82;with_reducible refine (CT.out _ hM0).mono ?_;rintro x w1 ⟨rfl,hb1⟩;have U1:=U0.next hb1;have J1:=J0.next hb1;have hv1:=hv0.below hb1 lr;have hB1:=hb0.trans (hb1.mono (by simp));have j0:=J1.c 0 rfl)
 obtain ⟨U,hU⟩:∃ U,w.heap.size=U:=⟨_,rfl⟩
 rw [hU] at U1
 rw [hU]
 have HU:=Lib.hid hU
 clear hU hM0 U0 J0 hv0 hb0 hb1 j0
 have hul:=U1.lt
 go_loopw [7,19] (fun pv iv wr=>∃ (k:Nat) (ps:List Ck),k<=l.length/\iv = .int .i64 k/\wr.ownsRow w1.heap.size 88 9 pv ps.length (cellsK ckL ps)/\ps=(l.take k).filter pr/\Below w1.heap.size w1 wr) (fun _ iv _=>l.length - (intOf iv).toNat)
 case atStart=>exact ⟨0,[],Nat.zero_le _,rfl,World.ownsRow_nil _ _ _ _,rfl,Below.refl _ _⟩
 case round=>
  obtain ⟨kk,ps,hk,rfl,hown,hps,hbw⟩:=hrel
  have hwz:=hbw.size
  have HP:=Lib.hid hps
  have hpl:ps.length<=kk:=by rw [hps];exact Nat.le_trans (List.length_filter_le _ _) (by simp;omega)
  clear hps
  by_cases hlt:kk<l.length
  ·rcases hv1 with ⟨rfl,_⟩ | ⟨_,b0,off,cap,he,hc1,hc2,hc3,hcell⟩
   ·simp at hlt
   injection he with e1 e2 e3
   subst e1 e3
   have cc:∀ j u,(ckL l[kk])[j]? = some u->wr.cell? ⟨b0,off+kk * 9+j,none⟩=some u:=fun j u hu=>(hbw.cell (p:=⟨b0,off+kk * 9+j,none⟩) hc3).trans (hcell kk hlt j u hu)
   have hsz:=HZ.out _ (List.getElem_mem hlt)
   obtain ⟨y,hy⟩:∃ y,l[kk]=y:=⟨_,rfl⟩
   rw [hy] at cc hsz
   have hTK:=take_hit pr l kk hlt y hy
   clear hcell hy
   obtain ⟨yn,yv,yd,yp,yho,yse,yhi,yex,ycr⟩:=y
   have hsd:yd.size<=100000:=hsz.1
   have hsp:yp.size<=100000:=hsz.2
   clear hsz
   have c0:=cc 0 _ rfl
   have c1:=cc 1 _ rfl
   have c2:=cc 2 _ rfl
   have c3:=cc 3 _ rfl
   have c4:=cc 4 _ rfl
   have c5:=cc 5 _ rfl
   have c6:=cc 6 _ rfl
   have c7:=cc 7 _ rfl
   have c8:=cc 8 _ rfl
   simp only [Nat.add_zero] at c0
   clear cc
   obtain ⟨E,hE⟩:∃ E,exB ⟨yn,yv,yd,yp,yho,yse,yhi,yex,ycr⟩ now=E:=⟨_,rfl⟩
   obtain ⟨D,hD⟩:∃ D,domL b.data.toList yd.data.toList=D:=⟨_,rfl⟩
   obtain ⟨Pp,hPp⟩:∃ Pp,pathL d.data.toList yp.data.toList=Pp:=⟨_,rfl⟩
   have CE:=Lib.hid (fun w=>expired_is ⟨yn,yv,yd,yp,yho,yse,yhi,yex,ycr⟩ now E hE w)
   have cDm:=fun w=>dom_any b yd w (by omega) (by omega)
   have cPa:=fun w=>path_any d yp w (by omega) (by omega)
   have hBB:pr ⟨yn,yv,yd,yp,yho,yse,yhi,yex,ycr⟩=((if yho then yd.toList == b.toList else D) && !E && Pp && (!yse || a.toList == httpsL)):=by rw [<-HPR.out];unfold hitB;rw [hE];simp only [hD,hPp]
   rw [hD] at cDm
   rw [hPp] at cPa
   have CDm:=Lib.hid cDm
   have CPa:=Lib.hid cPa
   have CA:=AtL.new wr (ckL ⟨yn,yv,yd,yp,yho,yse,yhi,yex,ycr⟩) 88
   have UA:=(U1.below hbw hul).alloc (.cells (ckL ⟨yn,yv,yd,yp,yho,yse,yhi,yex,ycr⟩).toArray 88)
   have hBa:=hbw.alloc hwz (.cells (ckL ⟨yn,yv,yd,yp,yho,yse,yhi,yex,ycr⟩).toArray 88)
   have hoa:=hown.alloc (.cells (ckL ⟨yn,yv,yd,yp,yho,yse,yhi,yex,ycr⟩).toArray 88)
   have v0:=UA.c 0 rfl;have v1:=UA.c 1 rfl;have v2:=UA.c 2 rfl;have v3:=UA.c 3 rfl;have v4:=UA.c 4 rfl;have v5:=UA.c 5 rfl
   have hua:=UA.lt
   have hki:(kk:Int)<(l.length:Int):=by omega
   clear hE hD hPp cDm cPa
   cases yho
   ·cases D
    ·have HS:=Lib.hid (hTK false (by rw [hBB];rfl))
     clear hTK hBB
     go_wp2_with (go_at_call 83;with_reducible refine (CDm.out _).mono ?_;rintro x w2 ⟨rfl,hb2⟩;have hB9:=hBa.trans (hb2.mono hBa.size);have hown9:=own_below hoa hb2 lr;have C2:=CA.next hb2;have U2:=UA.next hb2;have z_:=C2.o9;have u_:=U2.o6;have hk3:=C2.lt;have hu3:=U2.lt)
     go_roundw
     case rel=>exact ⟨kk+1,ps,by omega,by go_num,hown9,by rw [HS.out,HP.out];simp,hB9⟩
     case measure=>simp [intOf];omega
    ·have hBB:=hBB
     go_wp2_with (go_at_call 83;with_reducible refine (CDm.out _).mono ?_;rintro x w2 ⟨rfl,hb2⟩;have hB2:=hBa.trans (hb2.mono hBa.size);have ho2:=own_below hoa hb2 lr;have C2:=CA.next hb2;have U2:=UA.next hb2;have y_:=C2.o9;have t_:=U2.o6;have hk2:=C2.lt;have hu2:=U2.lt)
     clear y_ t_
     have y_:=C2.o9
     have t_:=U2.o6
     have hk2:=C2.lt
     have hu2:=U2.lt
     have hz2:=hB2.size
     cases E
     ·cases Pp
      ·have HS:=Lib.hid (hTK false (by rw [hBB];rfl))
       clear hTK hBB
       go_wp2_with (first
        |
         (go_at_call 84;with_reducible refine (CE.out _).mono ?_;rintro x w3 ⟨rfl,hb3⟩;have hB3:=hB2.trans (hb3.mono hz2);have ho3:=own_below ho2 hb3 lr;have C3:=C2.next hb3;have U3:=U2.next hb3;have z_:=C3.o9;have u_:=U3.o6;have hk3:=C3.lt;have hu3:=U3.lt;have hz3:=hB3.size)
         | (go_at_call 85;with_reducible refine (CPa.out _).mono ?_;rintro x w4 ⟨rfl,rfl⟩)
        )
       have hown9:=ho3
       have hB9:=hB3
       go_roundw
       case rel=>exact ⟨kk+1,ps,by omega,by go_num,hown9,by rw [HS.out,HP.out];simp,hB9⟩
       case measure=>simp [intOf];omega
      ·cases yse
       ·have HS:=Lib.hid (hTK true (by rw [hBB];rfl))
        clear hTK hBB
        go_wp2_with (first
         |
          (go_at_call 84;with_reducible refine (CE.out _).mono ?_;rintro x w3 ⟨rfl,hb3⟩;have hB3:=hB2.trans (hb3.mono hz2);have ho3:=own_below ho2 hb3 lr;have C3:=C2.next hb3;have U3:=U2.next hb3;have z_:=C3.o9;have u_:=U3.o6;have hk3:=C3.lt;have hu3:=U3.lt;have hz3:=hB3.size)
          | (go_at_call 85;with_reducible refine (CPa.out _).mono ?_;rintro x w4 ⟨rfl,rfl⟩)
          | (refine app2 slC _ (by rfl) (.tmp 60) (.tmp 62) (by rfl) w1.heap.size _ _ _ (by rfl) ho3 [_,_,_,_,_,_,_,_,_] 1 _ (by rfl) rfl (by rfl) (by intro u hu;simp at hu;rcases hu with rfl | rfl | rfl | rfl | rfl | rfl | rfl | rfl | rfl <;> rfl) (by decide) (by omega) (by omega) hz3 ?_;intro v2 w5 hA2 gA fA;have hB9:=below_own hB3 ho3 gA hz3 lr)
         )
        go_roundw
        case rel=>exact ⟨kk+1,(l.take (kk+1)).filter pr,by omega,by go_num,own_eq hA2 (by rw [HS.out,<-HP.out];simp) (by rw [HS.out,<-HP.out,cellsK_app];rfl),rfl,hB9⟩
        case measure=>simp [intOf];omega
       ·by_cases hsc:a.toList=httpsL
        ·have HS:=Lib.hid (hTK true (by rw [hBB,hsc];rfl))
         have hs2:a.toList=[104,116,116,112,115]:=hsc
         clear hTK hBB hsc
         go_wp2_with (first
          |
           (go_at_call 84;with_reducible refine (CE.out _).mono ?_;rintro x w3 ⟨rfl,hb3⟩;have hB3:=hB2.trans (hb3.mono hz2);have ho3:=own_below ho2 hb3 lr;have C3:=C2.next hb3;have U3:=U2.next hb3;have z_:=C3.o9;have u_:=U3.o6;have hk3:=C3.lt;have hu3:=U3.lt;have hz3:=hB3.size)
           | (go_at_call 85;with_reducible refine (CPa.out _).mono ?_;rintro x w4 ⟨rfl,rfl⟩)
           | (refine app2 slC _ (by rfl) (.tmp 60) (.tmp 62) (by rfl) w1.heap.size _ _ _ (by rfl) ho3 [_,_,_,_,_,_,_,_,_] 1 _ (by rfl) rfl (by rfl) (by intro u hu;simp at hu;rcases hu with rfl | rfl | rfl | rfl | rfl | rfl | rfl | rfl | rfl <;> rfl) (by decide) (by omega) (by omega) hz3 ?_;intro v2 w5 hA2 gA fA;have hB9:=below_own hB3 ho3 gA hz3 lr)
          )
         go_roundw
         case rel=>exact ⟨kk+1,(l.take (kk+1)).filter pr,by omega,by go_num,own_eq hA2 (by rw [HS.out,<-HP.out];simp) (by rw [HS.out,<-HP.out,cellsK_app];rfl),rfl,hB9⟩
         case measure=>simp [intOf];omega
        ·have HS:=Lib.hid (hTK false (by rw [hBB,beq_eq_false_iff_ne.2 hsc];rfl))
         have hs2:¬ a.toList=[104,116,116,112,115]:=hsc
         have hs3:(a.toList == [104,116,116,112,115])=false:=beq_eq_false_iff_ne.2 hs2
         clear hTK hBB hsc
         go_wp2_with (first
          |
           (go_at_call 84;with_reducible refine (CE.out _).mono ?_;rintro x w3 ⟨rfl,hb3⟩;have hB3:=hB2.trans (hb3.mono hz2);have ho3:=own_below ho2 hb3 lr;have C3:=C2.next hb3;have U3:=U2.next hb3;have z_:=C3.o9;have u_:=U3.o6;have hk3:=C3.lt;have hu3:=U3.lt;have hz3:=hB3.size)
           | (go_at_call 85;with_reducible refine (CPa.out _).mono ?_;rintro x w4 ⟨rfl,rfl⟩)
          )
         have hown9:=ho3
         have hB9:=hB3
         go_roundw
         case rel=>exact ⟨kk+1,ps,by omega,by go_num,hown9,by rw [HS.out,HP.out];simp,hB9⟩
         case measure=>simp [intOf];omega
     ·have HS:=Lib.hid (hTK false (by rw [hBB];rfl))
      clear hTK hBB
      go_wp2_with
       (go_at_call 84;with_reducible refine (CE.out _).mono ?_;rintro x w3 ⟨rfl,hb3⟩;have hB3:=hB2.trans (hb3.mono hz2);have ho3:=own_below ho2 hb3 lr;have C3:=C2.next hb3;have U3:=U2.next hb3;have z_:=C3.o9;have u_:=U3.o6;have hk3:=C3.lt;have hu3:=U3.lt;have hz3:=hB3.size)
      have hown9:=ho3
      have hB9:=hB3
      go_roundw
      case rel=>exact ⟨kk+1,ps,by omega,by go_num,hown9,by rw [HS.out,HP.out];simp,hB9⟩
      case measure=>simp [intOf];omega
   ·by_cases hd:yd.toList=b.toList
    ·obtain rfl:yd=b:=ba_ext' (by rw [<-ByteArray.toList_eq,<-ByteArray.toList_eq];exact hd)
     have hBB:pr ⟨yn,yv,yd,yp,true,yse,yhi,yex,ycr⟩=((true:Bool) && !E && Pp && (!yse || a.toList == httpsL)):=by rw [hBB,if_pos rfl,beq_self_eq_true]
     have C2:=CA
     have U2:=UA
     have ho2:=hoa
     have hB2:=hBa
     clear hd CA UA hoa hBa v0 v1 v2 v3 v4 v5
     have y_:=C2.o9
     have t_:=U2.o6
     have hk2:=C2.lt
     have hu2:=U2.lt
     have hz2:=hB2.size
     cases E
     ·cases Pp
      ·have HS:=Lib.hid (hTK false (by rw [hBB];rfl))
       clear hTK hBB
       go_wp2_with (first
        |
         (go_at_call 84;with_reducible refine (CE.out _).mono ?_;rintro x w3 ⟨rfl,hb3⟩;have hB3:=hB2.trans (hb3.mono hz2);have ho3:=own_below ho2 hb3 lr;have C3:=C2.next hb3;have U3:=U2.next hb3;have z_:=C3.o9;have u_:=U3.o6;have hk3:=C3.lt;have hu3:=U3.lt;have hz3:=hB3.size)
         | (go_at_call 85;with_reducible refine (CPa.out _).mono ?_;rintro x w4 ⟨rfl,rfl⟩)
        )
       have hown9:=ho3
       have hB9:=hB3
       go_roundw
       case rel=>exact ⟨kk+1,ps,by omega,by go_num,hown9,by rw [HS.out,HP.out];simp,hB9⟩
       case measure=>simp [intOf];omega
      ·cases yse
       ·have HS:=Lib.hid (hTK true (by rw [hBB];rfl))
        clear hTK hBB
        go_wp2_with (first
         |
          (go_at_call 84;with_reducible refine (CE.out _).mono ?_;rintro x w3 ⟨rfl,hb3⟩;have hB3:=hB2.trans (hb3.mono hz2);have ho3:=own_below ho2 hb3 lr;have C3:=C2.next hb3;have U3:=U2.next hb3;have z_:=C3.o9;have u_:=U3.o6;have hk3:=C3.lt;have hu3:=U3.lt;have hz3:=hB3.size)
          | (go_at_call 85;with_reducible refine (CPa.out _).mono ?_;rintro x w4 ⟨rfl,rfl⟩)
          | (refine app2 slC _ (by rfl) (.tmp 60) (.tmp 62) (by rfl) w1.heap.size _ _ _ (by rfl) ho3 [_,_,_,_,_,_,_,_,_] 1 _ (by rfl) rfl (by rfl) (by intro u hu;simp at hu;rcases hu with rfl | rfl | rfl | rfl | rfl | rfl | rfl | rfl | rfl <;> rfl) (by decide) (by omega) (by omega) hz3 ?_;intro v2 w5 hA2 gA fA;have hB9:=below_own hB3 ho3 gA hz3 lr)
         )
        go_roundw
        case rel=>exact ⟨kk+1,(l.take (kk+1)).filter pr,by omega,by go_num,own_eq hA2 (by rw [HS.out,<-HP.out];simp) (by rw [HS.out,<-HP.out,cellsK_app];rfl),rfl,hB9⟩
        case measure=>simp [intOf];omega
       ·by_cases hsc:a.toList=httpsL
        ·have HS:=Lib.hid (hTK true (by rw [hBB,hsc];rfl))
         have hs2:a.toList=[104,116,116,112,115]:=hsc
         clear hTK hBB hsc
         go_wp2_with (first
          |
           (go_at_call 84;with_reducible refine (CE.out _).mono ?_;rintro x w3 ⟨rfl,hb3⟩;have hB3:=hB2.trans (hb3.mono hz2);have ho3:=own_below ho2 hb3 lr;have C3:=C2.next hb3;have U3:=U2.next hb3;have z_:=C3.o9;have u_:=U3.o6;have hk3:=C3.lt;have hu3:=U3.lt;have hz3:=hB3.size)
           | (go_at_call 85;with_reducible refine (CPa.out _).mono ?_;rintro x w4 ⟨rfl,rfl⟩)
           | (refine app2 slC _ (by rfl) (.tmp 60) (.tmp 62) (by rfl) w1.heap.size _ _ _ (by rfl) ho3 [_,_,_,_,_,_,_,_,_] 1 _ (by rfl) rfl (by rfl) (by intro u hu;simp at hu;rcases hu with rfl | rfl | rfl | rfl | rfl | rfl | rfl | rfl | rfl <;> rfl) (by decide) (by omega) (by omega) hz3 ?_;intro v2 w5 hA2 gA fA;have hB9:=below_own hB3 ho3 gA hz3 lr)
          )
         go_roundw
         case rel=>exact ⟨kk+1,(l.take (kk+1)).filter pr,by omega,by go_num,own_eq hA2 (by rw [HS.out,<-HP.out];simp) (by rw [HS.out,<-HP.out,cellsK_app];rfl),rfl,hB9⟩
         case measure=>simp [intOf];omega
        ·have HS:=Lib.hid (hTK false (by rw [hBB,beq_eq_false_iff_ne.2 hsc];rfl))
         have hs2:¬ a.toList=[104,116,116,112,115]:=hsc
         have hs3:(a.toList == [104,116,116,112,115])=false:=beq_eq_false_iff_ne.2 hs2
         clear hTK hBB hsc
         go_wp2_with (first
          |
           (go_at_call 84;with_reducible refine (CE.out _).mono ?_;rintro x w3 ⟨rfl,hb3⟩;have hB3:=hB2.trans (hb3.mono hz2);have ho3:=own_below ho2 hb3 lr;have C3:=C2.next hb3;have U3:=U2.next hb3;have z_:=C3.o9;have u_:=U3.o6;have hk3:=C3.lt;have hu3:=U3.lt;have hz3:=hB3.size)
           | (go_at_call 85;with_reducible refine (CPa.out _).mono ?_;rintro x w4 ⟨rfl,rfl⟩)
          )
         have hown9:=ho3
         have hB9:=hB3
         go_roundw
         case rel=>exact ⟨kk+1,ps,by omega,by go_num,hown9,by rw [HS.out,HP.out];simp,hB9⟩
         case measure=>simp [intOf];omega
     ·have HS:=Lib.hid (hTK false (by rw [hBB];rfl))
      clear hTK hBB
      go_wp2_with
       (go_at_call 84;with_reducible refine (CE.out _).mono ?_;rintro x w3 ⟨rfl,hb3⟩;have hB3:=hB2.trans (hb3.mono hz2);have ho3:=own_below ho2 hb3 lr;have C3:=C2.next hb3;have U3:=U2.next hb3;have z_:=C3.o9;have u_:=U3.o6;have hk3:=C3.lt;have hu3:=U3.lt;have hz3:=hB3.size)
      have hown9:=ho3
      have hB9:=hB3
      go_roundw
      case rel=>exact ⟨kk+1,ps,by omega,by go_num,hown9,by rw [HS.out,HP.out];simp,hB9⟩
      case measure=>simp [intOf];omega
    ·have hd2:(yd.toList == b.toList)=false:=beq_eq_false_iff_ne.2 hd
     have HS:=Lib.hid (hTK false (by rw [hBB,if_pos rfl,hd2];rfl))
     clear hTK hBB
     go_wp2_with fail
     have hown9:=hoa
     have hB9:=hBa
     go_roundw
     case rel=>exact ⟨kk+1,ps,by omega,by go_num,hown9,by rw [HS.out,HP.out];simp,hB9⟩
     case measure=>simp [intOf];omega
  ·obtain rfl:kk=l.length:=by omega
   have hps:ps=hits:=by rw [HP.out,List.take_length];exact HH.out
   clear HP
   subst hps
   go_wp2_with (go_at_call 86;with_reducible refine (HS.out.run hown hwz).mono ?_;rintro x w2 ⟨rfl,hown2,hb2⟩)
   go_ret
   obtain rfl:=HU.out
   exact ⟨_,rfl,own_mono hown2 (Nat.le_of_lt hul),hB1.trans ((hbw.trans hb2).mono (Nat.le_of_lt hul))⟩
end Go.Proofs.YtjdhaacmlpegoaaGreatDoor
namespace Go.Proofs.YtjdhaacmlpegoaaGreatDoor
set_option linter.unusedVariables false
set_option linter.unusedSimpArgs false
open Go.RowKit
def joinL (l:List Ck):List UInt8:=Lib.join (l.map pairT) [59,32]
theorem joinT_bd (N:Nat):∀ xs:List (List UInt8),(∀ x∈xs,x.length<=N)->(Lib.join xs [59,32]).length<=xs.length * (N+2):=by
 intro xs
 induction xs with
 | nil=>intro _;simp [Lib.join]
 | cons x r ih=>
   intro h
   cases r with
   | nil=>rw [Lib.join_one];have:=h x (by simp);simp;omega
   | cons y r=>
     have e:Lib.join (x :: y :: r) [59,32]=x ++ 59 :: 32 :: Lib.join (y :: r) [59,32]:=by simp [Lib.join,List.intercalate]
     have h1:=h x (by simp)
     have h2:=ih (fun z hz=>h z (List.mem_cons_of_mem _ hz))
     have hl:(x :: y :: r).length=(y :: r).length+1:=rfl
     rw [e,List.length_append,List.length_cons,List.length_cons,hl,Nat.add_mul]
     omega
theorem join_is (l:List Ck)(v:Value)(w:World)(hv:SlK ckL 9 w v l)(hl:l.length<=1000)(hsz:∀ c∈l,c.n.size<=100000/\c.v.size<=100000)(R:ByteArray)(hR:R.data.toList=joinL l):
 Calls Tryz.prog 38 #[v] w fun x w'=>x = .returned (.string R)/\Below w.heap.size w w':=by
 have HR:=Lib.hid hR
 have HZ:=Lib.hid hsz
 have hv1:=hv
 obtain ⟨sa,sc,rfl,_⟩:=hv.shape
 clear hR hsz hv
 go_enter Tryz.func38,Tryz.ntmps38
 go_wp2_with fail
 go_loopw [3,8] (fun pv iv wr=>∃ (k:Nat) (ps:List ByteArray),k<=l.length/\iv = .int .i64 k/\wr.ownsRow w.heap.size 9 1 pv ps.length (strsV ps)/\lists ps=(l.take k).map pairT/\ps.length=k/\Below w.heap.size w wr) (fun _ iv _=>l.length - (intOf iv).toNat)
 case atStart=>exact ⟨0,[],Nat.zero_le _,rfl,World.ownsRow_nil _ _ _ _,rfl,rfl,Below.refl _ _⟩
 case round=>
  obtain ⟨kk,ps,hk,rfl,hown,hps,hpl,hbw⟩:=hrel
  have hwz:=hbw.size
  have HP:=Lib.hid hps
  clear hps
  by_cases hlt:kk<l.length
  ·rcases hv1 with ⟨rfl,_⟩ | ⟨_,b0,off,cap,he,hc1,hc2,hc3,hcell⟩
   ·simp at hlt
   injection he with e1 e2 e3
   subst e1 e3
   have cc:∀ j u,(ckL l[kk])[j]? = some u->wr.cell? ⟨b0,off+kk * 9+j,none⟩=some u:=fun j u hu=>(hbw.cell (p:=⟨b0,off+kk * 9+j,none⟩) hc3).trans (hcell kk hlt j u hu)
   have hsz:=HZ.out _ (List.getElem_mem hlt)
   have hts:(l.take (kk+1)).map pairT=(l.take kk).map pairT ++ [pairT l[kk]]:=by
    rw [List.take_succ_eq_append_getElem hlt,List.map_append];rfl
   obtain ⟨y,hy⟩:∃ y,l[kk]=y:=⟨_,rfl⟩
   rw [hy] at cc hsz hts
   clear hcell hy
   obtain ⟨yn,yv,yd,yp,yho,yse,yhi,yex,ycr⟩:=y
   have hsn:yn.size<=100000:=hsz.1
   have hsv:yv.size<=100000:=hsz.2
   have HS:=Lib.hid hts
   have c0:=cc 0 _ rfl
   have c1:=cc 1 _ rfl
   have c2:=cc 2 _ rfl
   have c3:=cc 3 _ rfl
   have c4:=cc 4 _ rfl
   have c5:=cc 5 _ rfl
   have c6:=cc 6 _ rfl
   have c7:=cc 7 _ rfl
   have c8:=cc 8 _ rfl
   simp only [Nat.add_zero] at c0
   clear cc hsz hts
   have hki:(kk:Int)<(l.length:Int):=by omega
   have o1:¬ 9223372036854775807<yn.size+1:=by omega
   have o2:¬ 9223372036854775807<yn.size+1+yv.size:=by omega
   have hBa:=hbw.alloc hwz (.cells (ckL ⟨yn,yv,yd,yp,yho,yse,yhi,yex,ycr⟩).toArray 88)
   have hoa:=hown.alloc (.cells (ckL ⟨yn,yv,yd,yp,yho,yse,yhi,yex,ycr⟩).toArray 88)
   have hza:=hBa.size
   go_wp2_with (refine app2 slS2 _ (by rfl) (.tmp 12) (.tmp 19) (by rfl) w.heap.size _ _ _ (by rfl) hoa [_] 1 _ (by rfl) (by simp) (by rfl) (by intro u hu;simp at hu;subst hu;rfl) (by decide) (by omega) (by omega) hza ?_;intro v2 w8 hA2 gA fA;have hB8:=below_own hBa hoa gA hza lr)
   go_roundw
   case rel=>exact ⟨kk+1,ps ++ [yn ++ ⟨#[61]⟩ ++ yv],by omega,by go_num,by simpa [strsV] using hA2,by rw [HS.out,<-HP.out];simp [lists,pairT,app_list],by simp [hpl],hB8⟩
   case measure=>simp [intOf];omega
  ·obtain rfl:kk=l.length:=by omega
   have hq:Lib.join (lists ps) [59,32]=R.data.toList:=by
    rw [HP.out,HR.out,joinL,List.take_length]
   have hjb:(Lib.join (lists ps) [59,32]).length<=140737488355328:=by
    have:=joinT_bd 200001 (lists ps) (fun z hz=>by
     rw [HP.out,List.take_length] at hz
     obtain ⟨c,hc,rfl⟩:=List.mem_map.1 hz
     have:=HZ.out c hc
     rw [<-size_len,<-size_len] at this
     unfold pairT
     rw [List.length_append,List.length_cons];omega)
    have hl:(lists ps).length=ps.length:=by simp [lists]
    omega
   obtain ⟨ad,cp,hpv,hcp,hcm,had⟩:=own_reads hown
   subst hpv
   have hpl2:ps.length<=1000:=by omega
   clear hpl
   rcases had with ⟨rfl,h0⟩ | ⟨g,rfl,hg,hgw,hcell⟩
   ·have hE:ps=[]:=List.eq_nil_of_length_eq_zero h0
    subst hE
    have hRn:R=⟨#[]⟩:=ba_ext' (by rw [<-hq];rfl)
    subst hRn
    clear hq hjb h0
    go_wp2_with (go_at_call 81;with_reducible refine (Tryz.strings_Join_none _ _ _ _).mono ?_;rintro e w' ⟨rfl,rfl⟩)
    go_ret
    exact ⟨rfl,hbw⟩
   ·have cJ:Calls Tryz.prog 81 #[.slice (some ⟨g,0,none⟩) ps.length cp,.string ⟨#[59,32]⟩] wr fun e w'=>e = .returned (.string R)/\Below wr.heap.size wr w':=by
     refine (Tryz.strings_Join g 0 cp ps ⟨#[59,32]⟩ wr (fun j x hj=>by rw [Nat.zero_add];exact hcell j (.string x) (by simp [strsV,hj])) hgw (by omega) hcp hjb).mono ?_
     rintro e w' ⟨rfl,hb⟩
     refine ⟨?_,hb⟩
     congr 2
     exact ba_ext' hq
    have CJ:=Lib.hid cJ
    clear cJ hq hjb hcell
    go_wp2_with (go_at_call 81;with_reducible refine CJ.out.mono ?_;rintro e w1 ⟨rfl,hb1⟩)
    go_ret
    exact ⟨rfl,hbw.trans (hb1.mono hwz)⟩
end Go.Proofs.YtjdhaacmlpegoaaGreatDoor
namespace Go.Proofs.YtjdhaacmlpegoaaGreatDoor
set_option linter.unusedVariables false
set_option linter.unusedSimpArgs false
open Go.RowKit
theorem header_of (a b cc d e f:ByteArray)(now:Int)(w:World)(jb:Nat)(out:List Ck)(hl:out.length<=1000)(hsz:∀ c∈out,c.n.size<=100000/\c.v.size<=100000)(R:ByteArray)(hR:R.data.toList=joinL out)
 (hm:∀ w',Below w.heap.size w w'->Calls Tryz.prog 39 #[.pointer (some ⟨jb,0,none⟩),urlA a b cc d e f,.int .i64 now] w' fun x w''=>∃ v',x = .returned v'/\w''.ownsRow w'.heap.size 88 9 v' out.length (cellsK ckL out)/\Below w'.heap.size w' w'') :
 Calls Tryz.prog 14 #[.pointer (some ⟨jb,0,none⟩),urlA a b cc d e f,.int .i64 now] w fun x w'=>x = .returned (.string R)/\Below w.heap.size w w':=by
 have CM:=Lib.hid hm
 have CJ:=Lib.hid (fun v w hv=>join_is out v w hv hl hsz R hR)
 have hb0:Below w.heap.size w (w.alloc (.cells (urlL a b cc d e f).toArray 37)):=(Below.refl _ w).alloc lr _
 clear hm hsz hR
 go_enter Tryz.func14,Tryz.ntmps14
 go_wp2_with (first
  | (go_at_call 39;with_reducible refine (CM.out _ hb0).mono ?_;rintro x w1 ⟨v',rfl,hown,hb1⟩;have hv:=SlK.of_own ckL_len hown;have hb2:=hb0.trans (hb1.mono hb0.size))
  | (go_at_call 38;with_reducible refine (CJ.out _ _ hv).mono ?_;rintro x w2 ⟨rfl,hb3⟩))
 go_ret
 exact ⟨rfl,hb2.trans (hb3.mono hb2.size)⟩
end Go.Proofs.YtjdhaacmlpegoaaGreatDoor
namespace Go.Proofs.YtjdhaacmlpegoaaGreatDoor
set_option linter.unusedVariables false
set_option linter.unusedSimpArgs false
open Go.RowKit
end Go.Proofs.YtjdhaacmlpegoaaGreatDoor
namespace Go.Proofs.YtjdhaacmlpegoaaGreatDoor
set_option linter.unusedVariables false
set_option linter.unusedSimpArgs false
open Go.RowKit
theorem match_no (a b cc d e f:ByteArray)(now:Int)(hT:takesB (u6 a b cc d e f)=false)(jb:Nat)(w:World)(hz:USize 40000 a b cc d e f)(hM:MaxAt w):
 Calls Tryz.prog 39 #[.pointer (some ⟨jb,0,none⟩),urlA a b cc d e f,.int .i64 now] w fun x w'=>x = .returned (.slice none 0 0)/\Below w.heap.size w w':=by
 have CT:=Lib.hid (fun w hM=>takes_is a b cc d e f false hT w hz hM)
 have hb0:Below w.heap.size w (w.alloc (.cells (urlL a b cc d e f).toArray 37)):=(Below.refl _ w).alloc lr _
 have hM0:=hM.below hb0 lr
 clear hT hz hM
 go_enter Tryz.func39,Tryz.ntmps39
 go_wp2_with (go_at_call 82;with_reducible refine (CT.out _ hM0).mono ?_;rintro x w1 ⟨rfl,hb1⟩;have hB1:=hb0.trans (hb1.mono (by simp)))
 go_ret
 exact ⟨rfl,hB1⟩
theorem header_yes (a b cc d e f:ByteArray)(now:Int)(hT:takesB (u6 a b cc d e f)=true)(l:List Ck)(v nx:Value)(jb:Nat)(w:World)(hz:USize 40000 a b cc d e f)(hM:MaxAt w)(hv:SlK ckL 9 w v l)(hJ:AtL w jb [v,nx])
 (hl:l.length<=1000) (hsz:∀ c∈l,c.d.size<=100000/\c.p.size<=100000) (hits out:List Ck) (hh:l.filter (hitB a b d now)=hits) (hS:SortTo hits out)
 (hol:out.length<=1000) (hos:∀ c∈out,c.n.size<=100000/\c.v.size<=100000) (R:ByteArray) (hR:R.data.toList=joinL out) :
 Calls Tryz.prog 14 #[.pointer (some ⟨jb,0,none⟩),urlA a b cc d e f,.int .i64 now] w fun x w'=>x = .returned (.string R)/\Below w.heap.size w w':=
 header_of a b cc d e f now w jb out hol hos R hR fun w' hb=>match_yes a b cc d e f now hT l v nx jb w' hz (hM.below hb lr) (hv.below hb lr) (hJ.below hb hJ.1) hl hsz hits out hh hS
theorem header_no (a b cc d e f:ByteArray)(now:Int)(hT:takesB (u6 a b cc d e f)=false)(jb:Nat)(w:World)(hz:USize 40000 a b cc d e f)(hM:MaxAt w):
 Calls Tryz.prog 14 #[.pointer (some ⟨jb,0,none⟩),urlA a b cc d e f,.int .i64 now] w fun x w'=>x = .returned (.string ⟨#[]⟩)/\Below w.heap.size w w':=
 header_of a b cc d e f now w jb [] (by decide) (by simp) ⟨#[]⟩ rfl fun w' hb=>(match_no a b cc d e f now hT jb w' hz (hM.below hb lr)).mono fun x w'' h=>⟨_,h.1,World.ownsRow_nil _ _ _ _,h.2⟩
end Go.Proofs.YtjdhaacmlpegoaaGreatDoor
namespace Go.Proofs.YtjdhaacmlpegoaaGreatDoor
set_option linter.unusedVariables false
set_option linter.unusedSimpArgs false
open Go.RowKit
end Go.Proofs.YtjdhaacmlpegoaaGreatDoor
namespace Go.Proofs.YtjdhaacmlpegoaaGreatDoor
set_option linter.unusedVariables false
set_option linter.unusedSimpArgs false
open Go.RowKit
end Go.Proofs.YtjdhaacmlpegoaaGreatDoor
