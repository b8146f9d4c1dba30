/- Part 40 of what the proof needs: YK2. -/
import Derived.Test.YtjdhaacmlpegoaaGreatDoorP39
import Derived.Test.YtjdhaacmlpegoaaGreatDoorP01
set_option maxRecDepth 20000
set_option maxHeartbeats 16000000
namespace Go.Proofs.YtjdhaacmlpegoaaGreatDoor
open Go.RowKit
set_option linter.unusedSimpArgs false
set_option linter.unusedVariables false
theorem all_ne {α:Type}{f:α->Bool}{l:List α}{x:α}(hx:x∈l)(h:¬ f x=true):l.all f=false:=by
 rw [Bool.eq_false_iff]
 intro e
 exact h (List.all_eq_true.1 e _ hx)
theorem all_snoc {α:Type}{f:α->Bool}{l:List α}{k:Nat}(h:k<l.length)(ha:(l.take k).all f=true):(l.take (k+1)).all f=f l[k]:=by
 rw [List.take_succ_eq_append_getElem h,List.all_append,ha];simp
theorem few4_yes (w:World)(vj:Value)(J:List Ck)(nx:Int)(vc:Value)(lx:List Ee)(now tk:Int)(me ur og:ByteArray)(mo:Int)(vq:Value)(qh:List Hd)(qb:ByteArray)(ck:Bool)(vo:Value)(lo:List (Value × Op4))
 (HW:WIn w vj J vc lx) (HQ:QIn w ur og vq qh qb) (HO:OIn w vo lo)
 (h1:J.length<=8) (h2:lx.length<=8) (h3:¬ nx<0) (h4:¬ 1125899906842624<nx) (h5:lo.length<=20) (h6:attrB44 qh=true) (h7:ur.size+og.size+qb.size<=400) (R:Bool) (hR:(J.all ckB4 && ((lx.map (·.2)).all enB4 && (lo.map (·.2)).all opB4))=R) :
 Calls Tryz.prog 12 #[.agg #[vj,.int .i64 nx,vc,.int .i64 now],.agg #[.int .i64 tk,.string me,.string ur,.string og,.int .i64 mo,vq,.string qb,.bool ck],vo] w fun e w'=>e = .returned (.bool R)/\Below w.heap.size w w':=by
 obtain ⟨hj,hc,hr,hzj,hzc⟩:=HW
 obtain ⟨hq,hzq,hz1a,hz1b,hz1c⟩:=HQ
 obtain ⟨ho,hoh,hzo⟩:=HO
 have hlj:=slk_len hj
 have hlc:=slk_len hc
 have hlo:=slk_len ho
 have HCJ:=Lib.hid (slk_at hj)
 have HCC:=Lib.hid (slk_at hc)
 have HCO:=Lib.hid (slk_at ho)
 obtain ⟨ja,jc,rfl,_⟩:=hj.shape
 obtain ⟨ca,cc,rfl,_⟩:=hc.shape
 obtain ⟨oa,oc,rfl,_⟩:=ho.shape
 obtain ⟨qa,qc,rfl,_⟩:=hq.shape
 have hb0:Below w.heap.size w ((w.alloc (.cells [.slice ja J.length jc,.int .i64 nx,.slice ca lx.length cc,.int .i64 now].toArray 27)).alloc (.cells [.int .i64 tk,.string me,.string ur,.string og,.int .i64 mo,.slice qa qh.length qc,.string qb,.bool ck].toArray 30)):=((Below.refl _ w).alloc lr _).alloc (by simp) _
 have W0:=(AtL.new w [.slice ja J.length jc,.int .i64 nx,.slice ca lx.length cc,.int .i64 now] 27).alloc (.cells [.int .i64 tk,.string me,.string ur,.string og,.int .i64 mo,.slice qa qh.length qc,.string qb,.bool ck].toArray 30)
 have Q0:=AtL.new (w.alloc (.cells [.slice ja J.length jc,.int .i64 nx,.slice ca lx.length cc,.int .i64 now].toArray 27)) [.int .i64 tk,.string me,.string ur,.string og,.int .i64 mo,.slice qa qh.length qc,.string qb,.bool ck] 30
 rw [show (w.alloc (.cells [.slice ja J.length jc,.int .i64 nx,.slice ca lx.length cc,.int .i64 now].toArray 27)).heap.size=w.heap.size+1 by simp] at Q0
 have CQ:=Lib.hid (fun (w':World) (hb:Below w.heap.size w w')=>attrs44_is qh (.slice qa qh.length qc) w' (hq.below hb lr) hzq (attrB44 qh) rfl)
 have HRD:=Lib.hid hr
 have HOH:=Lib.hid hoh
 have HZJ:=Lib.hid hzj
 have HZC:=Lib.hid hzc
 have HZO:=Lib.hid hzo
 clear hj hc hr hq ho hoh hzj hzc hzq hzo
 obtain ⟨w0,hw0⟩:∃ w0:World,((w.alloc (.cells [.slice ja J.length jc,.int .i64 nx,.slice ca lx.length cc,.int .i64 now].toArray 27)).alloc (.cells [.int .i64 tk,.string me,.string ur,.string og,.int .i64 mo,.slice qa qh.length qc,.string qb,.bool ck].toArray 30))=w0:=⟨_,rfl⟩
 obtain ⟨W,hW⟩:∃ W,w.heap.size=W:=⟨_,rfl⟩
 obtain ⟨Q,hQ⟩:∃ Q,W+1=Q:=⟨_,rfl⟩
 have HWW:=Lib.hid hW
 rw [hw0] at hb0 W0 Q0
 rw [hW] at W0 Q0
 rw [hQ] at Q0
 have a_:=W0.o4
 have q_:=Q0.o8
 have al:=W0.lt
 have ql:=Q0.lt
 have g1:¬ (8:Int)<(J.length:Int):=by omega
 have g2:¬ (8:Int)<(lx.length:Int):=by omega
 have g5:¬ (20:Int)<(lo.length:Int):=by omega
 rw [h6] at CQ
 have g7:(ur.size:Int)+(og.size:Int)+(qb.size:Int)<=(400:Int):=by omega
 have HG:Hid (wrap64 (wrap64 ((ur.size:Int)+(og.size:Int))+(qb.size:Int))<=(400:Int)):=Lib.hid (by rw [ew3 hz1a hz1b hz1c];omega)
 have HR:=Lib.hid hR
 have H1:=Lib.hid h1
 have H2:=Lib.hid h2
 have H5:=Lib.hid h5
 clear h6 h7 g7 hR hz1a hz1b hz1c
 go_enter Tryz.func12,Tryz.ntmps12
 go_wp2_with (first
  | (go_at_call 22;(with_reducible refine (CQ.out _ hb0).mono ?_);rintro e1 w1 ⟨rfl,hb1⟩;have hB0:=hb0.trans (hb1.mono hb0.size);have Q1:=Q0.next hb1;have W1:=W0.next hb1;clear q_ a_;have q_:=Q1.o8;have a_:=W1.o4;have ql1:=Q1.lt;have al1:=W1.lt)
  | fail)
 ·exact absurd (Int.lt_of_lt_of_le (by assumption) HG.out) (Int.lt_irrefl _)
 clear q_ a_
 go_loopw [65] (fun iv wr=>∃ k:Nat,k<=J.length/\iv = .int .i64 k/\Hid ((J.take k).all ckB4=true)/\Below w.heap.size w wr/\Hid (AtL wr W [.slice ja J.length jc,.int .i64 nx,.slice ca lx.length cc,.int .i64 now])) (fun iv _=>J.length - (intOf iv).toNat)
 case atStart=>exact ⟨0,Nat.zero_le _,rfl,Lib.hid rfl,hB0,Lib.hid W1⟩
 case round=>
  obtain ⟨kk,hk,rfl,HA,hbw,HWr⟩:=hrel
  by_cases hlt:kk<J.length
  ·obtain ⟨b0,off,cap,he,hb0',hcell⟩:=HCJ.out (by omega)
   injection he with e1 e2 e3
   have hcel:∀ j u,(ckL J[kk])[j]? = some u->wr.cell? ⟨b0,off+kk * 9+j,none⟩=some u:=fun j u hu=>(brl hbw _ _ hb0').trans (hcell kk hlt j u hu)
   have hzz:=HZJ.out _ (List.getElem_mem hlt)
   have hst:=all_snoc hlt HA.out
   have hmem:J[kk]∈J:=List.getElem_mem hlt
   obtain ⟨y,hy⟩:∃ y,J[kk]=y:=⟨_,rfl⟩
   rw [hy] at hcel hzz hst hmem
   obtain ⟨yn,yv,yd,yp,yh,ys,yi,yx,yc⟩:=y
   have z1:yn.size<=140737488355328:=hzz.1
   have z2:yv.size<=140737488355328:=hzz.2.1
   have z3:yd.size<=140737488355328:=hzz.2.2.1
   have z4:yp.size<=140737488355328:=hzz.2.2.2
   have c0:=hcel 0 _ rfl
   have c1:=hcel 1 _ rfl
   have c2:=hcel 2 _ rfl
   have c3:=hcel 3 _ rfl
   have c4:=hcel 4 _ rfl
   have c5:=hcel 5 _ rfl
   have c6:=hcel 6 _ rfl
   have c7:=hcel 7 _ rfl
   have c8:=hcel 8 _ rfl
   simp only [Nat.add_zero] at c0
   have HST:=Lib.hid hst
   have HMEM:=Lib.hid hmem
   have hki:(kk:Int)<(J.length:Int):=by omega
   have hal:Below w.heap.size w (wr.alloc (.cells #[.string yn,.string yv,.string yd,.string yp,.bool yh,.bool ys,.bool yi,.int .i64 yx,.int .i64 yc] 88)):=hbw.alloc hbw.size _
   have HWn:=Lib.hid (HWr.out.alloc (.cells #[.string yn,.string yv,.string yd,.string yp,.bool yh,.bool ys,.bool yi,.int .i64 yx,.int .i64 yc] 88))
   have HE4:Hid (wrap64 (wrap64 (wrap64 ((yn.size:Int)+(yv.size:Int))+(yd.size:Int))+(yp.size:Int))=(yn.size:Int)+(yv.size:Int)+(yd.size:Int)+(yp.size:Int)):=Lib.hid (ew4 z1 z2 z3 z4)
   clear hcel hzz hst hmem hy hcell z1 z2 z3 z4
   subst e1 e3
   clear e2
   go_wp2_with fail
   ·have hx:(300:Int)<wrap64 (wrap64 (wrap64 ((yn.size:Int)+(yv.size:Int))+(yd.size:Int))+(yp.size:Int)):=by assumption
    rw [HE4.out] at hx
    have HNO:Hid (J.all ckB4=false):=Lib.hid (all_ne HMEM.out (fun e=>by have h:=of_decide_eq_true e;simp only at h;omega))
    go_ret
    refine ⟨ret_bool ?_,by first | exact hal | (rw [<-HWW.out];exact hal)⟩
    rw [<-HR.out,HNO.out];rfl
   ·have hx:wrap64 (wrap64 (wrap64 ((yn.size:Int)+(yv.size:Int))+(yd.size:Int))+(yp.size:Int))<=(300:Int):=by assumption
    rw [HE4.out] at hx
    have HOK:Hid ((J.take (kk+1)).all ckB4=true):=Lib.hid (by rw [HST.out];exact decide_eq_true (by show yn.size+yv.size+yd.size+yp.size<=300;omega))
    clear hx
    go_roundw
    case rel=>exact ⟨kk+1,by omega,by go_num,HOK,hal,HWn⟩
    case measure=>simp [intOf];omega
  ·obtain rfl:kk=J.length:=by omega
   have HALL:Hid (J.all ckB4=true):=Lib.hid (by have:=HA.out;rwa [List.take_length] at this)
   have W2:=HWr.out
   clear HA HWr
   have a_:=W2.o4
   have al2:=W2.lt
   go_wp2_with fail
   clear a_ W2 al2
   go_loopw [89] (fun iv wr=>∃ k:Nat,k<=lx.length/\iv = .int .i64 k/\Hid ((lx.take k).all (fun x=>enB4 x.2)=true)/\Below w.heap.size w wr) (fun iv _=>lx.length - (intOf iv).toNat)
   case atStart=>exact ⟨0,Nat.zero_le _,rfl,Lib.hid rfl,hbw⟩
   case round=>
    obtain ⟨kk,hk,rfl,HA,hbw⟩:=hrel
    by_cases hlt:kk<lx.length
    ·obtain ⟨b0,off,cap,he,hb0',hcell⟩:=HCC.out (by omega)
     injection he with e1 e2 e3
     have hcel:∀ j u,(eeC lx[kk])[j]? = some u->wr.cell? ⟨b0,off+kk * 6+j,none⟩=some u:=fun j u hu=>(brl hbw _ _ hb0').trans (hcell kk hlt j u hu)
     have hzz:=HZC.out _ (List.getElem_mem hlt)
     have hrd:=HRD.out _ (List.getElem_mem hlt)
     have hst:=all_snoc hlt HA.out
     have hmem:lx[kk]∈lx:=List.getElem_mem hlt
     obtain ⟨y,hy⟩:∃ y,lx[kk]=y:=⟨_,rfl⟩
     rw [hy] at hcel hzz hst hmem hrd
     obtain ⟨⟨yu,yv,ys,yh,yb,yt⟩,en⟩:=y
     have eu:yu=en.u:=hrd.u
     have eb:yb=en.bo:=hrd.bo
     have hv:=hrd.va
     have hh:=hrd.hd
     simp only at hv hh
     obtain ⟨va,vk,rfl,_⟩:=hv.shape
     obtain ⟨ha,hk2,rfl,_⟩:=hh.shape
     obtain ⟨B1,hB1⟩:∃ B1,attrB44 en.hd=B1:=⟨_,rfl⟩
     obtain ⟨B2,hB2⟩:∃ B2,attrB44 en.va=B2:=⟨_,rfl⟩
     have CH:=Lib.hid (fun (w':World) (hb:Below w.heap.size w w')=>attrs44_is en.hd _ w' (hh.below hb lr) hzz.2 B1 hB1)
     have CV:=Lib.hid (fun (w':World) (hb:Below w.heap.size w w')=>attrs44_is en.va _ w' (hv.below hb lr) hzz.1 B2 hB2)
     have hval:enB4 en=(B1 && (B2 && (decide (yb.size<=500) && decide (yu.size<=300)))):=by unfold enB4;rw [hB1,hB2,eu,eb]
     have hst2:(lx.take (kk+1)).all (fun x=>enB4 x.2)=(B1 && (B2 && (decide (yb.size<=500) && decide (yu.size<=300)))):=hst.trans hval
     have hno:(B1 && (B2 && (decide (yb.size<=500) && decide (yu.size<=300))))=false->(lx.map (·.2)).all enB4=false:=fun e=>all_ne (List.mem_map_of_mem hmem) (fun e2=>by rw [hval,e] at e2;cases e2)
     have c0:=hcel 0 _ rfl
     have c1:=hcel 1 _ rfl
     have c2:=hcel 2 _ rfl
     have c3:=hcel 3 _ rfl
     have c4:=hcel 4 _ rfl
     have c5:=hcel 5 _ rfl
     simp only [Nat.add_zero] at c0
     have HST:=Lib.hid hst2
     have HNO:=Lib.hid hno
     have hki:(kk:Int)<(lx.length:Int):=by omega
     have hal:Below w.heap.size w (wr.alloc (.cells #[.string yu,.slice va en.va.length vk,.int .i64 ys,.slice ha en.hd.length hk2,.string yb,.int .i64 yt] 90)):=hbw.alloc hbw.size _
     have X0:=AtL.new wr [.string yu,.slice va en.va.length vk,.int .i64 ys,.slice ha en.hd.length hk2,.string yb,.int .i64 yt] 90
     clear hcel hzz hst hmem hy hcell hst2 hno hval hrd eu eb hv hh hB1 hB2
     subst e1 e3
     clear e2
     cases B1 with
     | false=>
       have HNN:=Lib.hid (HNO.out rfl)
       go_wp2_with (first
        | (go_at_call 22;(with_reducible refine (CH.out _ hal).mono ?_);rintro e1 w1 ⟨rfl,hb1⟩;have hC1:=hal.trans (hb1.mono hal.size);have X1:=X0.next hb1;have x0:=X1.c 0 rfl;have x1:=X1.c 1 rfl;have x2:=X1.c 2 rfl;have x3:=X1.c 3 rfl;have x4:=X1.c 4 rfl;have x5:=X1.c 5 rfl;have xl1:=X1.lt)
        | (go_at_call 22;(with_reducible refine (CV.out _ hC1).mono ?_);rintro e2 w2 ⟨rfl,hb2⟩;have hC2:=hC1.trans (hb2.mono hC1.size);have X2:=X1.next hb2;clear x0 x1 x2 x3 x4 x5;have x0:=X2.c 0 rfl;have x1:=X2.c 1 rfl;have x2:=X2.c 2 rfl;have x3:=X2.c 3 rfl;have x4:=X2.c 4 rfl;have x5:=X2.c 5 rfl;have xl2:=X2.lt)
        | fail)
       go_ret
       refine ⟨ret_bool ?_,by first | exact hC1 | (rw [<-HWW.out];exact hC1)⟩
       rw [<-HR.out,HALL.out,HNN.out];rfl
     | true=>
       cases B2 with
       | false=>
         have HNN:=Lib.hid (HNO.out rfl)
         go_wp2_with (first
          | (go_at_call 22;(with_reducible refine (CH.out _ hal).mono ?_);rintro e1 w1 ⟨rfl,hb1⟩;have hC1:=hal.trans (hb1.mono hal.size);have X1:=X0.next hb1;have x0:=X1.c 0 rfl;have x1:=X1.c 1 rfl;have x2:=X1.c 2 rfl;have x3:=X1.c 3 rfl;have x4:=X1.c 4 rfl;have x5:=X1.c 5 rfl;have xl1:=X1.lt)
          | (go_at_call 22;(with_reducible refine (CV.out _ hC1).mono ?_);rintro e2 w2 ⟨rfl,hb2⟩;have hC2:=hC1.trans (hb2.mono hC1.size);have X2:=X1.next hb2;clear x0 x1 x2 x3 x4 x5;have x0:=X2.c 0 rfl;have x1:=X2.c 1 rfl;have x2:=X2.c 2 rfl;have x3:=X2.c 3 rfl;have x4:=X2.c 4 rfl;have x5:=X2.c 5 rfl;have xl2:=X2.lt)
          | fail)
         go_ret
         refine ⟨ret_bool ?_,by first | exact hC2 | (rw [<-HWW.out];exact hC2)⟩
         rw [<-HR.out,HALL.out,HNN.out];rfl
       | true=>
         by_cases h5b:yb.size<=500
         ·have g5b:¬ (500:Int)<(yb.size:Int):=by omega
          by_cases h3u:yu.size<=300
          ·have g3u:¬ (300:Int)<(yu.size:Int):=by omega
           have HOK:Hid ((lx.take (kk+1)).all (fun x=>enB4 x.2)=true):=Lib.hid (by rw [HST.out,decide_eq_true h5b,decide_eq_true h3u];rfl)
           go_wp2_with (first
            | (go_at_call 22;(with_reducible refine (CH.out _ hal).mono ?_);rintro e1 w1 ⟨rfl,hb1⟩;have hC1:=hal.trans (hb1.mono hal.size);have X1:=X0.next hb1;have x0:=X1.c 0 rfl;have x1:=X1.c 1 rfl;have x2:=X1.c 2 rfl;have x3:=X1.c 3 rfl;have x4:=X1.c 4 rfl;have x5:=X1.c 5 rfl;have xl1:=X1.lt)
            | (go_at_call 22;(with_reducible refine (CV.out _ hC1).mono ?_);rintro e2 w2 ⟨rfl,hb2⟩;have hC2:=hC1.trans (hb2.mono hC1.size);have X2:=X1.next hb2;clear x0 x1 x2 x3 x4 x5;have x0:=X2.c 0 rfl;have x1:=X2.c 1 rfl;have x2:=X2.c 2 rfl;have x3:=X2.c 3 rfl;have x4:=X2.c 4 rfl;have x5:=X2.c 5 rfl;have xl2:=X2.lt)
            | fail)
           go_roundw
           case rel=>exact ⟨kk+1,by omega,by go_num,HOK,hC2⟩
           case measure=>simp [intOf];omega
          ·have g3u:(300:Int)<(yu.size:Int):=by omega
           have HNN:=Lib.hid (HNO.out (by rw [decide_eq_true h5b,decide_eq_false h3u];rfl))
           go_wp2_with (first
            | (go_at_call 22;(with_reducible refine (CH.out _ hal).mono ?_);rintro e1 w1 ⟨rfl,hb1⟩;have hC1:=hal.trans (hb1.mono hal.size);have X1:=X0.next hb1;have x0:=X1.c 0 rfl;have x1:=X1.c 1 rfl;have x2:=X1.c 2 rfl;have x3:=X1.c 3 rfl;have x4:=X1.c 4 rfl;have x5:=X1.c 5 rfl;have xl1:=X1.lt)
            | (go_at_call 22;(with_reducible refine (CV.out _ hC1).mono ?_);rintro e2 w2 ⟨rfl,hb2⟩;have hC2:=hC1.trans (hb2.mono hC1.size);have X2:=X1.next hb2;clear x0 x1 x2 x3 x4 x5;have x0:=X2.c 0 rfl;have x1:=X2.c 1 rfl;have x2:=X2.c 2 rfl;have x3:=X2.c 3 rfl;have x4:=X2.c 4 rfl;have x5:=X2.c 5 rfl;have xl2:=X2.lt)
            | fail)
           go_ret
           refine ⟨ret_bool ?_,by first | exact hC2 | (rw [<-HWW.out];exact hC2)⟩
           rw [<-HR.out,HALL.out,HNN.out];rfl
         ·have g5b:(500:Int)<(yb.size:Int):=by omega
          have HNN:=Lib.hid (HNO.out (by rw [decide_eq_false h5b];rfl))
          go_wp2_with (first
           | (go_at_call 22;(with_reducible refine (CH.out _ hal).mono ?_);rintro e1 w1 ⟨rfl,hb1⟩;have hC1:=hal.trans (hb1.mono hal.size);have X1:=X0.next hb1;have x0:=X1.c 0 rfl;have x1:=X1.c 1 rfl;have x2:=X1.c 2 rfl;have x3:=X1.c 3 rfl;have x4:=X1.c 4 rfl;have x5:=X1.c 5 rfl;have xl1:=X1.lt)
           | (go_at_call 22;(with_reducible refine (CV.out _ hC1).mono ?_);rintro e2 w2 ⟨rfl,hb2⟩;have hC2:=hC1.trans (hb2.mono hC1.size);have X2:=X1.next hb2;clear x0 x1 x2 x3 x4 x5;have x0:=X2.c 0 rfl;have x1:=X2.c 1 rfl;have x2:=X2.c 2 rfl;have x3:=X2.c 3 rfl;have x4:=X2.c 4 rfl;have x5:=X2.c 5 rfl;have xl2:=X2.lt)
           | fail)
          go_ret
          refine ⟨ret_bool ?_,by first | exact hC2 | (rw [<-HWW.out];exact hC2)⟩
          rw [<-HR.out,HALL.out,HNN.out];rfl
    ·obtain rfl:kk=lx.length:=by omega
     have HALL2:Hid ((lx.map (·.2)).all enB4=true):=Lib.hid (by have:=HA.out;rw [List.take_length] at this;rw [List.all_map];exact this)
     clear HA
     go_wp2_with fail
     go_loopw [118] (fun iv wr=>∃ k:Nat,k<=lo.length/\iv = .int .i64 k/\Hid ((lo.take k).all (fun x=>opB4 x.2)=true)/\Below w.heap.size w wr) (fun iv _=>lo.length - (intOf iv).toNat)
     case atStart=>exact ⟨0,Nat.zero_le _,rfl,Lib.hid rfl,hbw⟩
     case round=>
      obtain ⟨kk,hk,rfl,HA,hbw⟩:=hrel
      by_cases hlt:kk<lo.length
      ·obtain ⟨b0,off,cap,he,hb0',hcell⟩:=HCO.out (by omega)
       injection he with e1 e2 e3
       have hcel:∀ j u,(opC lo[kk])[j]? = some u->wr.cell? ⟨b0,off+kk * 4+j,none⟩=some u:=fun j u hu=>(brl hbw _ _ hb0').trans (hcell kk hlt j u hu)
       have hzz:=HZO.out _ (List.getElem_mem hlt)
       have hh:=HOH.out _ (List.getElem_mem hlt)
       have hst:=all_snoc hlt HA.out
       have hmem:lo[kk]∈lo:=List.getElem_mem hlt
       obtain ⟨y,hy⟩:∃ y,lo[kk]=y:=⟨_,rfl⟩
       rw [hy] at hcel hzz hst hmem hh
       obtain ⟨yv,en⟩:=y
       simp only at hh hzz
       obtain ⟨ha,hk2,rfl,_⟩:=hh.shape
       obtain ⟨B1,hB1⟩:∃ B1,attrB44 en.hs=B1:=⟨_,rfl⟩
       have CH:=Lib.hid (fun (w':World) (hb:Below w.heap.size w w')=>attrs44_is en.hs _ w' (hh.below hb lr) hzz B1 hB1)
       have hval:opB4 en=(B1 && decide (en.bo.size<=500)):=by unfold opB4;rw [hB1]
       have hst2:(lo.take (kk+1)).all (fun x=>opB4 x.2)=(B1 && decide (en.bo.size<=500)):=hst.trans hval
       have hno:(B1 && decide (en.bo.size<=500))=false->(lo.map (·.2)).all opB4=false:=fun e=>all_ne (List.mem_map_of_mem hmem) (fun e2=>by rw [hval,e] at e2;cases e2)
       have c0:=hcel 0 _ rfl
       have c1:=hcel 1 _ rfl
       have c2:=hcel 2 _ rfl
       have c3:=hcel 3 _ rfl
       simp only [Nat.add_zero] at c0
       obtain ⟨ek,est,ehs,ebo⟩:=en
       simp only at c0 c1 c2 c3
       have HST:=Lib.hid hst2
       have HNO:=Lib.hid hno
       have hki:(kk:Int)<(lo.length:Int):=by omega
       have hal:Below w.heap.size w (wr.alloc (.cells #[.int .u8 ek,.int .i64 est,.slice ha ehs.length hk2,.string ebo] 32)):=hbw.alloc hbw.size _
       have X0:=AtL.new wr [.int .u8 ek,.int .i64 est,.slice ha ehs.length hk2,.string ebo] 32
       clear hcel hzz hst hmem hy hcell hst2 hno hval hh hB1
       subst e1 e3
       clear e2
       cases B1 with
       | false =>
         have HNN:=Lib.hid (HNO.out rfl)
         go_wp2_with (first
          | (go_at_call 22;(with_reducible refine (CH.out _ hal).mono ?_);rintro e1 w1 ⟨rfl,hb1⟩;have hC1:=hal.trans (hb1.mono hal.size);have X1:=X0.next hb1;have x0:=X1.c 0 rfl;have x1:=X1.c 1 rfl;have x2:=X1.c 2 rfl;have x3:=X1.c 3 rfl;have xl1:=X1.lt)
          | fail)
         go_ret
         refine ⟨ret_bool ?_,by first | exact hC1 | (rw [<-HWW.out];exact hC1)⟩
         rw [<-HR.out,HALL.out,HALL2.out,HNN.out];rfl
       | true =>
         by_cases h5b:ebo.size<=500
         ·have g5b:¬ (500:Int)<(ebo.size:Int):=by omega
          have HOK:Hid ((lo.take (kk+1)).all (fun x=>opB4 x.2)=true):=Lib.hid (by rw [HST.out,decide_eq_true h5b];rfl)
          go_wp2_with (first
           | (go_at_call 22;(with_reducible refine (CH.out _ hal).mono ?_);rintro e1 w1 ⟨rfl,hb1⟩;have hC1:=hal.trans (hb1.mono hal.size);have X1:=X0.next hb1;have x0:=X1.c 0 rfl;have x1:=X1.c 1 rfl;have x2:=X1.c 2 rfl;have x3:=X1.c 3 rfl;have xl1:=X1.lt)
           | fail)
          go_roundw
          case rel=>exact ⟨kk+1,by omega,by go_num,HOK,hC1⟩
          case measure=>simp [intOf];omega
         ·have g5b:(500:Int)<(ebo.size:Int):=by omega
          have HNN:=Lib.hid (HNO.out (by rw [decide_eq_false h5b];rfl))
          go_wp2_with (first
           | (go_at_call 22;(with_reducible refine (CH.out _ hal).mono ?_);rintro e1 w1 ⟨rfl,hb1⟩;have hC1:=hal.trans (hb1.mono hal.size);have X1:=X0.next hb1;have x0:=X1.c 0 rfl;have x1:=X1.c 1 rfl;have x2:=X1.c 2 rfl;have x3:=X1.c 3 rfl;have xl1:=X1.lt)
           | fail)
          go_ret
          refine ⟨ret_bool ?_,by first | exact hC1 | (rw [<-HWW.out];exact hC1)⟩
          rw [<-HR.out,HALL.out,HALL2.out,HNN.out];rfl
      ·obtain rfl:kk=lo.length:=by omega
       have HALL3:Hid ((lo.map (·.2)).all opB4=true):=Lib.hid (by have:=HA.out;rw [List.take_length] at this;rw [List.all_map];exact this)
       clear HA
       go_wp2_with fail
       go_ret
       refine ⟨ret_bool ?_,by first | exact hbw | (rw [<-HWW.out];exact hbw)⟩
       rw [<-HR.out,HALL.out,HALL2.out,HALL3.out];rfl
theorem few4_is (w:World)(vj:Value)(J:List Ck)(nx:Int)(vc:Value)(lx:List Ee)(now tk:Int)(me ur og:ByteArray)(mo:Int)(vq:Value)(qh:List Hd)(qb:ByteArray)(ck:Bool)(vo:Value)(lo:List (Value × Op4))
 (HW:WIn w vj J vc lx) (HQ:QIn w ur og vq qh qb) (HO:OIn w vo lo)
 (R:Bool) (hR:few4 J nx (lx.map (·.2)) qh ur og qb (lo.map (·.2))=R) :
 Calls Tryz.prog 12 #[.agg #[vj,.int .i64 nx,vc,.int .i64 now],.agg #[.int .i64 tk,.string me,.string ur,.string og,.int .i64 mo,vq,.string qb,.bool ck],vo] w fun e w'=>e = .returned (.bool R)/\Below w.heap.size w w':=by
 have hd:∀ (p:Prop) [Decidable p] (b:Bool),¬ p->(decide p && b)=false:=fun p _ b h=>by rw [decide_eq_false h];rfl
 have hlx:(lx.map (·.2)).length=lx.length:=List.length_map ..
 have hlo:(lo.map (·.2)).length=lo.length:=List.length_map ..
 have hbad:¬ (J.length<=8/\lx.length<=8/\0<=nx/\nx<=1125899906842624/\lo.length<=20)->false=R:=fun h=>by
  rw [<-hR];unfold few4;rw [hlx,hlo];exact (hd _ _ h).symm
 by_cases h1:8<J.length
 ·rw [<-hbad (by omega)];exact few4_n1 w vj J nx vc lx now tk me ur og mo vq qh qb ck vo lo HW HQ HO h1
 by_cases h2:8<lx.length
 ·rw [<-hbad (by omega)];exact few4_n2 w vj J nx vc lx now tk me ur og mo vq qh qb ck vo lo HW HQ HO (by omega) h2
 by_cases h3:nx<0
 ·rw [<-hbad (by omega)];exact few4_n3 w vj J nx vc lx now tk me ur og mo vq qh qb ck vo lo HW HQ HO (by omega) (by omega) h3
 by_cases h4:1125899906842624<nx
 ·rw [<-hbad (by omega)];exact few4_n4 w vj J nx vc lx now tk me ur og mo vq qh qb ck vo lo HW HQ HO (by omega) (by omega) h3 h4
 by_cases h5:20<lo.length
 ·rw [<-hbad (by omega)];exact few4_n5 w vj J nx vc lx now tk me ur og mo vq qh qb ck vo lo HW HQ HO (by omega) (by omega) h3 h4 h5
 have hgo:(attrB44 qh && (decide (ur.size+og.size+qb.size<=400) && (J.all ckB4 && ((lx.map (·.2)).all enB4 && (lo.map (·.2)).all opB4))))=R:=by
  rw [<-hR];unfold few4;rw [hlx,hlo,decide_eq_true (show J.length<=8/\lx.length<=8/\0<=nx/\nx<=1125899906842624/\lo.length<=20 by omega)];rfl
 cases h6:attrB44 qh with
 | false=>
   rw [h6] at hgo
   rw [<-hgo]
   exact few4_n6 w vj J nx vc lx now tk me ur og mo vq qh qb ck vo lo HW HQ HO (by omega) (by omega) h3 h4 (by omega) h6
 | true=>
   rw [h6] at hgo
   by_cases h7:400<ur.size+og.size+qb.size
   ·rw [decide_eq_false (show ¬ ur.size+og.size+qb.size<=400 by omega)] at hgo
    rw [<-hgo]
    exact few4_n7 w vj J nx vc lx now tk me ur og mo vq qh qb ck vo lo HW HQ HO (by omega) (by omega) h3 h4 (by omega) h6 h7
   ·rw [decide_eq_true (show ur.size+og.size+qb.size<=400 by omega)] at hgo
    exact few4_yes w vj J nx vc lx now tk me ur og mo vq qh qb ck vo lo HW HQ HO (by omega) (by omega) h3 h4 (by omega) h6 (by omega) R hgo
end Go.Proofs.YtjdhaacmlpegoaaGreatDoor
