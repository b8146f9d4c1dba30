/- Part 49 of what the proof needs: YR YS YT. -/
import Derived.Test.YtjdhaacmlpegoaaGreatDoorP48
import Derived.Deep.RegionHeld3
import Derived.Test.YtjdhaacmlpegoaaGreatDoorP21
import Derived.Test.YtjdhaacmlpegoaaGreatDoorP01
import Derived.Test.YtjdhaacmlpegoaaGreatDoorP40
set_option maxRecDepth 20000
set_option maxHeartbeats 16000000
namespace Go.Proofs.YtjdhaacmlpegoaaGreatDoor
open Go.RowKit
set_option linter.unusedSimpArgs false
set_option linter.unusedVariables false
theorem run_is (w:World)(vj:Value)(J:List Ck)(nx:Int)(vc:Value)(lx:List Ee)(now tk:Int)(me ur og:ByteArray)(mo:Int)(vq:Value)(qh:List Hd)(qb:ByteArray)(ck:Bool)(vo:Value)(lo:List (Value × Op4))(hM:MaxAt w)(hG:0<w.heap.size)
 (HW:WIn w vj J vc lx) (HQ:QIn w ur og vq qh qb) (HO:OIn w vo lo)
 (hS:SOk (newS tk me ur og mo qh qb ck)) (hJ:JOk J) (hn1:0<=nx) (hn2:nx<=1125899906842624) (hC:COk 20 100 (lx.map (·.2))) (hop:∀ x∈lo,OpOk x.2/\x.2.k<256) (hlo:lo.length<=40) (hset:∀ x∈lo,(∃ h∈x.2.hs,isH h scN=true)->SetC) (r:Rn) (hR:runF now (lo.map (·.2)) (startF now (newS tk me ur og mo qh qb ck) (J,nx) (lx.map (·.2)))=r) :
 Calls Tryz.prog 13 #[.agg #[vj,.int .i64 nx,vc,.int .i64 now],.agg #[.int .i64 tk,.string me,.string ur,.string og,.int .i64 mo,vq,.string qb,.bool ck],vo] w (RunQ w now r):=by
 obtain ⟨hj,hc,hr,hzj,hzc⟩:=HW
 obtain ⟨hq,hzq,hz1a,hz1b,hz1c⟩:=HQ
 obtain ⟨ho,hoh,hzo⟩:=HO
 have HCO:=Lib.hid (slk_at ho)
 obtain ⟨ja,jc,rfl,_⟩:=hj.shape
 obtain ⟨ca,cc,rfl,_⟩:=hc.shape
 obtain ⟨oa,oc,rfl,_⟩:=ho.shape
 obtain ⟨qa,qc,rfl,_⟩:=hq.shape
 have hb0:Below w.heap.size w ((((w.alloc (.cells [.slice ja J.length jc,.int .i64 nx,.slice ca lx.length cc,.int .i64 now].toArray 27)).alloc (.cells [.int .i64 tk,.string me,.string ur,.string og,.int .i64 mo,.slice qa qh.length qc,.string qb,.bool ck].toArray 30)).alloc (.cells fz.toArray 40)).alloc (.cells wz.toArray 27)):=((((Below.refl _ w).alloc lr _).alloc (by simp) _).alloc (by simp;omega) _).alloc (by simp;omega) _
 have W0:=((((AtL.new w [.slice ja J.length jc,.int .i64 nx,.slice ca lx.length cc,.int .i64 now] 27).alloc (.cells [.int .i64 tk,.string me,.string ur,.string og,.int .i64 mo,.slice qa qh.length qc,.string qb,.bool ck].toArray 30)).alloc (.cells fz.toArray 40)).alloc (.cells wz.toArray 27))
 have Q0:=((AtL.new (w.alloc (.cells [.slice ja J.length jc,.int .i64 nx,.slice ca lx.length cc,.int .i64 now].toArray 27)) [.int .i64 tk,.string me,.string ur,.string og,.int .i64 mo,.slice qa qh.length qc,.string qb,.bool ck] 30).alloc (.cells fz.toArray 40)).alloc (.cells wz.toArray 27)
 have R6:=(AtL.new ((w.alloc (.cells [.slice ja J.length jc,.int .i64 nx,.slice ca lx.length cc,.int .i64 now].toArray 27)).alloc (.cells [.int .i64 tk,.string me,.string ur,.string og,.int .i64 mo,.slice qa qh.length qc,.string qb,.bool ck].toArray 30)) fz 40).alloc (.cells wz.toArray 27)
 have R8:=AtL.new (((w.alloc (.cells [.slice ja J.length jc,.int .i64 nx,.slice ca lx.length cc,.int .i64 now].toArray 27)).alloc (.cells [.int .i64 tk,.string me,.string ur,.string og,.int .i64 mo,.slice qa qh.length qc,.string qb,.bool ck].toArray 30)).alloc (.cells fz.toArray 40)) wz 27
 obtain ⟨w0,hw0⟩:∃ w0:World,((((w.alloc (.cells [.slice ja J.length jc,.int .i64 nx,.slice ca lx.length cc,.int .i64 now].toArray 27)).alloc (.cells [.int .i64 tk,.string me,.string ur,.string og,.int .i64 mo,.slice qa qh.length qc,.string qb,.bool ck].toArray 30)).alloc (.cells fz.toArray 40)).alloc (.cells wz.toArray 27))=w0:=⟨_,rfl⟩
 have hsz0:w0.heap.size=w.heap.size+4:=by rw [<-hw0];simp
 rw [hw0] at hb0 W0 Q0 R6 R8
 rw [show (w.alloc (.cells [.slice ja J.length jc,.int .i64 nx,.slice ca lx.length cc,.int .i64 now].toArray 27)).heap.size=w.heap.size+1 by simp] at Q0
 rw [show ((w.alloc (.cells [.slice ja J.length jc,.int .i64 nx,.slice ca lx.length cc,.int .i64 now].toArray 27)).alloc (.cells [.int .i64 tk,.string me,.string ur,.string og,.int .i64 mo,.slice qa qh.length qc,.string qb,.bool ck].toArray 30)).heap.size=w.heap.size+1+1 by simp] at R6
 rw [show (((w.alloc (.cells [.slice ja J.length jc,.int .i64 nx,.slice ca lx.length cc,.int .i64 now].toArray 27)).alloc (.cells [.int .i64 tk,.string me,.string ur,.string og,.int .i64 mo,.slice qa qh.length qc,.string qb,.bool ck].toArray 30)).alloc (.cells fz.toArray 40)).heap.size=w.heap.size+1+1+1 by simp] at R8
 have hj0:=hj.below hb0 lr
 have hJl:=hJ.len
 have hqn:qh.length<=1000000:=by have:=hS.ql;have e:(newS tk me ur og mo qh qb ck).qh=qh:=rfl;rw [e] at this;omega
 have CE:=Lib.hid (fun (w':World) (hb:Below w.heap.size w w') (hs:w.heap.size<w'.heap.size)=>entries_is lx (.slice ca lx.length cc) w' w.heap.size hs (hc.below hb lr) (fun x hx=>(hr x hx).below hb lr) (fun x hx=>by have h:=hC.ok x.2 (List.mem_map_of_mem hx);have:=h.hd.len;have:=h.va.1;omega) (by have:=hC.len;rw [List.length_map] at this;omega) _ rfl)
 have CQ:=Lib.hid (fun (w':World) (hb:Below w.heap.size w w')=>lcp4_is qh (.slice qa qh.length qc) w' (hq.below hb lr) hqn)
 have HM:=Lib.hid hM
 have HB0:=Lib.hid hb0
 have HHS:=Lib.hid hS
 have HHJ:=Lib.hid hJ
 have HHC:=Lib.hid hC
 have HOP:=Lib.hid hop
 have HSE:=Lib.hid hset
 have HOH:=Lib.hid hoh
 have HRR:=Lib.hid hR
 have HNX:=Lib.hid (And.intro hn1 hn2)
 clear hj hc hr hq ho hM hS hJ hC hop hset hoh hR hzj hzc hzq hz1a hz1b hz1c hzo hn1 hn2 hqn
 obtain ⟨Wb,hWb⟩:∃ Wb,w.heap.size=Wb:=⟨_,rfl⟩
 have HWB:=Lib.hid hWb
 rw [hWb] at W0 Q0 R6 R8 hsz0 hG
 have a0:=W0.c 0 rfl;have a1:=W0.c 1 rfl;have a2:=W0.c 2 rfl;have a3:=W0.c 3 rfl
 have al:=W0.lt
 have HONE:=Lib.hid (one9s J)
 have hb9:Below w0.heap.size w0 (w0.alloc (.cells #[] 88)):=(Below.refl _ w0).alloc lr _
 have HSZ0:=Lib.hid hsz0
 clear hb0 hsz0
 go_enter Tryz.func13,Tryz.ntmps13
 go_upto_region 1 with fail
 go_cut [9] from 16 to 24 (fun c9 w'=>JarN w0 J nx c9 w')
 case first=>
  by_cases h0:J=[]
  ·subst h0
   go_region_held3 (fun w'=>w'.cell? ⟨Wb,0,none⟩=some (.slice ja 0 jc)/\w'.cell? ⟨Wb,1,none⟩=some (.int .i64 nx)) (go_keep)
    (first
      | (refine step_app00 slC _ (by rfl) (.tmp 16) (.tmp 19) (by rfl) w0.heap.size ja jc (by rfl) (by rfl) ?_)
      | (refine step_app00 slC _ (by rfl) (.tmp 16) (.tmp 19) (by rfl) (w0.heap.size+1) ja jc (by rfl) (by rfl) ?_)
      | fail)
   all_goals
    go_wp2_with fail
    go_meet
    case rel=>
     first
      | (have h:=jarn_mk (nx:=nx) (l:=[]) (own_z0 w0 88 9) hb9;have h:=h.drew;rw [show (w0.alloc (.cells #[] 88)).heap.size=w0.heap.size+1 by simp] at h;exact h)
      | exact jarn_e w0 nx
      | fail
  ·have hpos:0<J.length:=List.length_pos_iff.2 h0
   obtain ⟨b,off,rfl,hb1,hcell⟩:∃ b off:Nat,ja=some ⟨b,off,none⟩/\b<w0.heap.size/\∀ j u,(cellsK ckL J)[j]? = some u->w0.cell? ((⟨b,off,none⟩:Addr).add j)=some u:=by
    rcases hj0 with ⟨h,_⟩ | ⟨_,b,off,c,e,_,_,h4,h5⟩
    ·exact absurd h h0
    ·injection e with e1 _ _
     refine ⟨b,off,e1,h4,fun j u hu=>?_⟩
     obtain ⟨i,hi,q,rfl,hq⟩:=cellsK_inv ckL_len J j u hu
     rw [add_none,<-Nat.add_assoc]
     exact h5 i hi q u hq
   have HC:=Lib.hid (fun (W:World) (hB:Below w0.heap.size w0 W)=>(fun j u hu=>by
    have h:=hcell j u hu
    rw [add_none] at h ⊢
    exact (brl hB _ _ hb1).trans h:∀ j u,(cellsK ckL J)[j]? = some u->W.cell? ((⟨b,off,none⟩:Addr).add j)=some u))
   have HLC:=Lib.hid (cellsK_len ckL_len J)
   have b1:Below w0.heap.size w0 (w0.alloc (.cells #[] 88)).drew:=hb9.drew
   have b2:Below w0.heap.size w0 ((w0.alloc (.cells #[] 88)).alloc (.cells #[.slice none 0 0,.int .i64 0] 24)).drew:=(hb9.alloc hb9.size _).drew
   have hbj:=(Below.refl _ w0).alloc lr (.cells #[.slice none 0 0,.int .i64 0] 24)
   have b3:Below w0.heap.size w0 ((w0.alloc (.cells #[.slice none 0 0,.int .i64 0] 24)).alloc (.cells #[] 88)).drew:=(hbj.alloc hbj.size _).drew
   have j2:=(AtL.new (w0.alloc (.cells #[] 88)) [.slice none 0 0,.int .i64 0] 24).drew
   have j3:=((AtL.new w0 [.slice none 0 0,.int .i64 0] 24).alloc (.cells #[] 88)).drew
   rw [show (w0.alloc (.cells #[] 88)).heap.size=w0.heap.size+1 by simp] at j2
   clear hcell h0 hj0 hbj
   go_region_held3 (fun w'=>w'.cell? ⟨Wb,0,none⟩=some (.slice (some ⟨b,off,none⟩) J.length jc)/\w'.cell? ⟨Wb,1,none⟩=some (.int .i64 nx)) (first | go_keep | exact ⟨a0b,a1b⟩ | exact ⟨cell_set2 a0b (by omega),cell_set2 a1b (by omega)⟩)
    (first
      | (refine step_appS slC _ (by rfl) (.tmp 16) (.tmp 19) (by rfl) w0.heap.size _ (by rfl) (jar_o1 w0) (cellsK ckL J) ⟨b,off,none⟩ J.length jc (by rfl) (HC.out _ b1) HLC.out HONE.out hpos (by omega) (by omega) b1.size ?_;intro g cap2 w2 o2 g2 at2;have hB2:Below w0.heap.size w0 w2:=b1.grown g2 b1.size (fun k hk=>by simp only [Value.ownBlock,Option.some.injEq] at hk;omega);have a0b:=(brl hB2 _ _ al).trans a0;have a1b:=(brl hB2 _ _ al).trans a1;have HO2:=Lib.hid o2;clear o2 g2 at2)
      | (refine step_appS slC _ (by rfl) (.tmp 16) (.tmp 19) (by rfl) w0.heap.size _ (by rfl) (jar_o2 w0) (cellsK ckL J) ⟨b,off,none⟩ J.length jc (by rfl) (HC.out _ b2) HLC.out HONE.out hpos (by omega) (by omega) b2.size ?_;intro g cap2 w2 o2 g2 at2;have hB2:Below w0.heap.size w0 w2:=b2.grown g2 b2.size (fun k hk=>by simp only [Value.ownBlock,Option.some.injEq] at hk;omega);have a0b:=(brl hB2 _ _ al).trans a0;have a1b:=(brl hB2 _ _ al).trans a1;have HO2:=Lib.hid o2;have J2:=j2.grown g2 (by simp [Value.ownBlock]);have i0:=J2.c 0 rfl;have i1:=J2.c 1 rfl;have f0:=J2.f 0 rfl;have f1:=J2.f 1 rfl;have il:=J2.lt;have hjg:(Value.slice (some ⟨g,0,none⟩) J.length cap2).ownBlock≠some (w0.heap.size+1):=(fun e=>by simp only [Value.ownBlock,Option.some.injEq] at e at2;simp at at2;omega);have HJ2:=Lib.hid J2;clear o2 g2 at2 J2)
      | (refine step_appS slC _ (by rfl) (.tmp 16) (.tmp 19) (by rfl) w0.heap.size _ (by rfl) (jar_o3 w0) (cellsK ckL J) ⟨b,off,none⟩ J.length jc (by rfl) (HC.out _ b3) HLC.out HONE.out hpos (by omega) (by omega) b3.size ?_;intro g cap2 w2 o2 g2 at2;have hB2:Below w0.heap.size w0 w2:=b3.grown g2 b3.size (fun k hk=>by simp only [Value.ownBlock,Option.some.injEq] at hk;omega);have a0b:=(brl hB2 _ _ al).trans a0;have a1b:=(brl hB2 _ _ al).trans a1;have HO2:=Lib.hid o2;have J2:=j3.grown g2 (by simp [Value.ownBlock]);have i0:=J2.c 0 rfl;have i1:=J2.c 1 rfl;have f0:=J2.f 0 rfl;have f1:=J2.f 1 rfl;have il:=J2.lt;have hjg:(Value.slice (some ⟨g,0,none⟩) J.length cap2).ownBlock≠some w0.heap.size:=(fun e=>by simp only [Value.ownBlock,Option.some.injEq] at e at2;simp at at2;omega);have HJ2:=Lib.hid J2;clear o2 g2 at2 J2)
      | (trace "none fits";fail)
      | fail)
   all_goals
    go_wp2_with fail
    go_meet
    case rel=>
     first
      | exact jarn_mk HO2.out hB2
      | exact (jarn_mk HO2.out hB2).drew
      | exact jarn_s (by omega) HJ2.out HO2.out hjg hB2
      | fail
 case rest=>
  obtain ⟨jb,v',rfl,hjb,HJ1,hb1⟩:=hcut
  rw [HSZ0.out] at hjb HJ1
  obtain ⟨xja,xjc,rfl,_⟩:=own_reads HJ1.own
  have HB1:=Lib.hid (HB0.out.trans (hb1.mono HB0.out.size))
  have hs1:Wb+4<=wc.heap.size:=by have:=hb1.size;have:=HSZ0.out;omega
  have W1:=W0.next hb1
  have Q1:=Q0.next hb1
  have R61:=R6.next hb1
  have R81:=R8.next hb1
  clear a0 a1 a2 a3 al hb9 hj0 W0 Q0 R6 R8
  have a0:=W1.c 0 rfl;have a1:=W1.c 1 rfl;have a2:=W1.c 2 rfl;have a3:=W1.c 3 rfl
  have q_:=Q1.o8
  have al:=W1.lt
  have ql:=Q1.lt
  have hB1s:w.heap.size<=wc.heap.size:=HB1.out.size
  have hs1w:w.heap.size<wc.heap.size:=by have:=HWB.out;omega
  go_upto_region 5 with (first
   | (go_at_call 32;(with_reducible refine (CE.out wc HB1.out hs1w).mono ?_);rintro e2 w2 hq2;obtain ⟨ea,ek,l2,rfl,RI2,hnw2,hes2,hb2⟩:=hq2;have W2:=W1.next hb2;have Q2:=Q1.next hb2;have R62:=R61.next hb2;have R82:=R81.next hb2;have ha3:=(Below.refl _ w2).alloc lr (.cells [.slice ea l2.length ek].toArray 79);have ha4:=ha3.alloc (by simp) (.cells (envL jb w2.heap.size now).toArray 83);have hB4:=HB1.out.trans ((hb2.trans (ha4.mono hb2.size)).mono hB1s);have K4:=(AtL.new w2 [.slice ea l2.length ek] 79).alloc (.cells (envL jb w2.heap.size now).toArray 83);have V4:=AtL.new (w2.alloc (.cells [.slice ea l2.length ek].toArray 79)) (envL jb w2.heap.size now) 83;clear a0 a1 a2 a3 q_;have a0:=W2.c 0 rfl;have a1:=W2.c 1 rfl;have a2:=W2.c 2 rfl;have a3:=W2.c 3 rfl;have q_:=Q2.o8;have al2:=W2.lt;have ql2:=Q2.lt)
   | (go_at_call 33;(with_reducible refine (CQ.out _ hB4).mono ?_);rintro e5 w5 hq5;obtain ⟨xa,xk,rfl,hs5,hb5,hn5⟩:=cloq_open hq5;have W5:=(W2.next ha4).next hb5;have Q5:=(Q2.next ha4).next hb5;have R65:=(R62.next ha4).next hb5;have R85:=(R82.next ha4).next hb5;have K5:=K4.next hb5;have V5:=V4.next hb5;clear a0 a1 a2 a3 q_;have q_:=Q5.o8;have g0:=Q5.f 0 rfl;have g1:=Q5.f 1 rfl;have g2:=Q5.f 2 rfl;have g3:=Q5.f 3 rfl;have g4:=Q5.f 4 rfl;have g5:=Q5.f 5 rfl;have g6:=Q5.f 6 rfl;have g7:=Q5.f 7 rfl;have ql5:=Q5.lt)
   | fail)
  have hB5:=hB4.trans (hb5.mono hB4.size)
  have hb25:=ha4.trans (hb5.mono ha4.size)
  rw [show (w2.alloc (.cells [.slice ea l2.length ek].toArray 79)).heap.size=w2.heap.size+1 by simp] at V5
  have hG4:0<Wb+4:=by omega
  have E5:=env_new (HM.out.below hB5 lr) hG4 HJ1 hjb hs1 RI2 hnw2 hb2 K5 hb25
  have k56:Kp w5.heap.size (fun b=>b=Wb+1) w5 (w5.setCell ⟨Wb+1,5,none⟩ (.slice xa qh.length xk)):=(Kp.refl w5.heap.size (fun b=>b=Wb+1) w5).setCell ⟨Wb+1,5,none⟩ (.inl rfl) (.slice xa qh.length xk)
  have E6:=EnvP.low (R:=Wb+1) E5 (show Wb+1<Wb+4 by omega) (by omega) (by omega) k56
  have Q6:AtL (w5.setCell ⟨Wb+1,5,none⟩ (.slice xa qh.length xk)) (Wb+1) [.int .i64 tk,.string me,.string ur,.string og,.int .i64 mo,.slice xa qh.length xk,.string qb,.bool ck]:=Q5.set 5 (.slice xa qh.length xk)
  have hls2:Wb+4<=w2.heap.size:=Nat.le_trans hs1 hb2.size
  have V6:=V5.far ⟨Wb+1,5,none⟩ (.slice xa qh.length xk) (show Wb+1≠w2.heap.size+1 by omega)
  have W6:=W5.far ⟨Wb+1,5,none⟩ (.slice xa qh.length xk) (show Wb+1≠Wb by omega)
  have R66:=R65.far ⟨Wb+1,5,none⟩ (.slice xa qh.length xk) (show Wb+1≠Wb+1+1 by omega)
  have R86:=R85.far ⟨Wb+1,5,none⟩ (.slice xa qh.length xk) (show Wb+1≠Wb+1+1+1 by omega)
  have hB6:Below w.heap.size w (w5.setCell ⟨Wb+1,5,none⟩ (.slice xa qh.length xk)):=hB5.setCell (p:=⟨Wb+1,5,none⟩) (by show w.heap.size<=Wb+1;have:=HWB.out;omega) (.slice xa qh.length xk)
  have hs4:Wb+4<=w5.heap.size:=Nat.le_trans hls2 hb25.size
  have hq6:=slk_cell hs5 ⟨Wb+1,5,none⟩ (.slice xa qh.length xk) (fun b' off n k e=>by have h1:=hn5 b' off n k e;have h2:=ha4.size;show b'≠Wb+1;omega)
  have hsz6:(w5.setCell ⟨Wb+1,5,none⟩ (.slice xa qh.length xk)).heap.size=w5.heap.size:=World.size_setCell _ _ _
  obtain ⟨w6,hw6⟩:∃ w6,w5.setCell ⟨Wb+1,5,none⟩ (.slice xa qh.length xk)=w6:=⟨_,rfl⟩
  rw [hw6] at E6 Q6 V6 W6 R66 R86 hB6 hq6 hsz6
  rw [hw6]
  obtain ⟨o,ho⟩:∃ o,beginF J now (newS tk me ur og mo qh qb ck) (lx.map (·.2))=o:=⟨_,rfl⟩
  have CB:=Lib.hid (@Begin_is ⟨fun b=>b<Wb+4⟩ w6 jb w2.heap.size (Wb+4) _ _ J nx l2 20 100 E6 tk me ur og mo (.slice xa qh.length xk) qh qb ck hq6 HHS.out HHJ.out (by rw [hes2];exact HHC.out) (by omega) (by omega) now o (by rw [hes2];exact ho))
  have hph:o.s.ph=1\/o.s.ph=3\/o.s.ph=4:=by rw [<-ho];exact (beginF_send J now (S:=newS tk me ur og mo qh qb ck) (lx.map (·.2)) rfl).1
  have HPH:=Lib.hid hph
  have HO:=Lib.hid ho
  have hVM:¬ MuP jb w2.heap.size (.slice xja J.length xjc) (.slice ea l2.length ek) (w2.heap.size+1):=by
   have h1:=HJ1.at_.lt
   have h2:=hb2.size
   rintro (e | e | e | e)
   ·omega
   ·omega
   ·have:=(HJ1.own.lt _ e).2;omega
   ·have:=(RI2.own.lt _ e).2;omega
  have hVB:∀ b,MuP jb w2.heap.size (.slice xja J.length xjc) (.slice ea l2.length ek) b->Wb+4<=b:=by
   rintro b (e | e | e | e)
   ·omega
   ·omega
   ·exact own_base HJ1.own e
   ·have:=own_base RI2.own e;omega
  have hV6:w2.heap.size+1<w6.heap.size:=by have:=V6.lt;exact this
  have RF6:Hid (RunF w jb w2.heap.size (w2.heap.size+1) now [.slice ja J.length jc,.int .i64 nx,.slice ca lx.length cc,.int .i64 now] w6):=Lib.hid (by
   have e:=HWB.out
   subst e
   exact ⟨hB6,V6,W6,R66,R86⟩)
  have HRUN:Hid (∀ (x:Ending) (w7:World),@BeginR ⟨fun b=>b<Wb+4⟩ w6 jb w2.heap.size (Wb+4) (.slice xja J.length xjc) J nx (.slice ea l2.length ek) o x w7->∃ (L:List Value) (ea:Option Addr) (n ek:Nat),x = .returned (.tuple #[.agg L.toArray,.slice ea n ek])/\w6.heap.size<=w7.heap.size/\(L.length=23/\L.all (·.oneCell')=true)/\RunA w jb w2.heap.size w7.heap.size (w2.heap.size+1) now [.slice ja J.length jc,.int .i64 nx,.slice ca lx.length cc,.int .i64 now] ⟨o.s,(J,nx),o.c,o.ev⟩ (.slice ea n ek) ((w7.alloc (.cells fz.toArray 40)).setCells w7.heap.size 0 L)):=Lib.hid (by
   have e:=HWB.out
   subst e
   intro x w7 q
   obtain ⟨va,vk,wa,wk,ea,n,ek,h1,h2,h3⟩:=BeginR.run hph RF6.out hV6 hVM (by omega) hVB q
   exact ⟨fsV o.s (.slice va o.s.qh.length vk) (.slice wa o.s.hs.length wk),ea,n,ek,h1,h2,⟨rfl,rfl⟩,h3 _ (Below.sets (k:=w7.heap.size) lr (o:=0) _ ((Below.refl _ w7).alloc lr (.cells fz.toArray 40))) (AtL.sets (AtL.new w7 fz 40) rfl)⟩)
  clear RF6
  clear hw6 ho hph hVM hVB E5 k56 W5 Q5 R65 R85 K5 V5 hB5 hb25 q_ g0 g1 g2 g3 g4 g5 g6 g7 ql5 E6 hq6 RI2 hnw2 hes2 hb2 W2 Q2 R62 R82 ha3 ha4 hB4 K4 V4 hs5 hb5 hn5 al2 ql2 W1 Q1 R61 R81 al ql W6 R66 R86 HJ1 hb1
  have q_:=Q6.o8
  have ql6:=Q6.lt
  have v0:=V6.c 0 rfl;have v1:=V6.c 1 rfl;have v2:=V6.c 2 rfl
  have vl6:=V6.lt
  go_upto_region 6 with (first
   | (go_at_call 30;(with_reducible refine CB.out.mono ?_);rintro e7 w7 hq7;obtain ⟨L,ea7,en7,ek7,rfl,hs67,hl7,HA7⟩:=HRUN.out _ _ hq7;have HL:=Lib.hid hl7;have HA7:=Lib.hid HA7;have Z8:=AtL.new w7 fz 40;clear hq7 hl7)
   | (refine wpList_store_at rfl 40 _ _ rfl w7.heap.size L rfl rfl Z8 HL.out.1 (by rw [HL.out.1];kernel_rfl) HL.out.2 ?_)
   | fail)
  obtain ⟨w8,hw8⟩:∃ w8:World,(w7.alloc (.cells fz.toArray 40)).setCells w7.heap.size 0 L=w8:=⟨_,rfl⟩
  obtain ⟨s1,hs1e⟩:∃ s1,w7.heap.size=s1:=⟨_,rfl⟩
  obtain ⟨cb,hcb⟩:∃ cb,w2.heap.size=cb:=⟨_,rfl⟩
  obtain ⟨r0,hr0⟩:∃ r0:Rn,(⟨o.s,(J,nx),o.c,o.ev⟩:Rn)=r0:=⟨_,rfl⟩
  rw [hw8,hs1e,hcb,hr0] at HA7
  rw [hw8,hs1e,hcb]
  have hst:startF now (newS tk me ur og mo qh qb ck) (J,nx) (lx.map (·.2))=r0:=by
   rw [<-hr0,<-HO.out];rfl
  have hok0:=startF_ok (now:=now) HHS.out rfl (j:=(J,nx)) HHJ.out HNX.out.1 HNX.out.2 HHC.out
  rw [hst] at hok0
  have HOK0:=Lib.hid hok0
  have HRR2:Hid (runF now (lo.map (·.2)) r0=r):=Lib.hid (by rw [<-hst];exact HRR.out)
  have hwb:w.heap.size+4<=cb+1:=by have:=HWB.out;omega
  clear hw8 hs1e hcb hr0 hst hok0 HO HRR q_ v0 v1 v2 ql6 vl6 Q6 V6 Z8 HL HRUN CB hs67 hsz6 HPH hB6 hV6 hG4 hls2 hs4 hs1 hs1w hB1s hjb hG
  go_wp2_with fail
  go_loopw [13,44] (fun v iv wr=>∃ k:Nat,k<=lo.length/\iv = .int .i64 k/\Hid (RunA w jb cb s1 (cb+1) now [.slice ja J.length jc,.int .i64 nx,.slice ca lx.length cc,.int .i64 now] (runF now ((lo.take k).map (·.2)) r0) v wr)) (fun _ iv _=>lo.length - (intOf iv).toNat)
  case atStart=>exact ⟨0,Nat.zero_le _,rfl,HA7⟩
  case round=>
   obtain ⟨k,hk,rfl,HR⟩:=hrel
   by_cases hlt:k<lo.length
   ·have hokk:=runF_ok (now:=now) ((lo.take k).map (·.2)) 0 r0 (fun y hy=>by
     obtain ⟨z,hz,rfl⟩:=List.mem_map.1 hy
     exact (HOP.out z (List.mem_of_mem_take hz)).1) (by rw [List.length_map,List.length_take];omega) HOK0.out
    rw [List.length_map,List.length_take,Nat.min_eq_left hk,Nat.zero_add] at hokk
    have hsn:runF now ((lo.take (k+1)).map (·.2)) r0=opF now lo[k].2 (runF now ((lo.take k).map (·.2)) r0):=by
     rw [List.take_succ_eq_append_getElem hlt,List.map_append,List.map_cons,List.map_nil,runF_snoc]
    obtain ⟨rk,hrk⟩:∃ rk,runF now ((lo.take k).map (·.2)) r0=rk:=⟨_,rfl⟩
    rw [hrk] at hokk hsn HR
    obtain ⟨b0,off,cap,he,hb0',hcell⟩:=HCO.out (by omega)
    injection he with e1 e2 e3
    have hop1:=HOP.out _ (List.getElem_mem hlt)
    have hoh1:=HOH.out _ (List.getElem_mem hlt)
    have hse1:=HSE.out _ (List.getElem_mem hlt)
    have hbw:Below w.heap.size w wr:=by obtain ⟨_,_,_,_,_,_,_,_,RF,_⟩:=HR.out;exact RF.b
    have hcel:∀ j u,(opC lo[k])[j]? = some u->wr.cell? ⟨b0,off+k * 4+j,none⟩=some u:=fun j u hu=>(brl hbw _ _ hb0').trans (hcell k hlt j u hu)
    obtain ⟨y,hy⟩:∃ y,lo[k]=y:=⟨_,rfl⟩
    rw [hy] at hcel hop1 hoh1 hsn hse1
    obtain ⟨yv,⟨ek,est,ehs,ebo⟩⟩:=y
    have HSE1:=Lib.hid hse1
    clear hse1
    simp only at hop1 hoh1
    obtain ⟨ha,hk2,rfl,_⟩:=hoh1.shape
    have c0:=hcel 0 _ rfl
    have c1:=hcel 1 _ rfl
    have c2:=hcel 2 _ rfl
    have c3:=hcel 3 _ rfl
    simp only [Nat.add_zero] at c0
    simp only at c0 c1 c2 c3
    have HSN:=Lib.hid hsn
    have HOKK:=Lib.hid hokk
    have HOP1:=Lib.hid hop1
    have HOH1:=Lib.hid hoh1
    have HBW:=Lib.hid hbw
    have hki:(k:Int)<(lo.length:Int):=by omega
    have X0:=AtL.new wr [.int .u8 ek,.int .i64 est,.slice ha ehs.length hk2,.string ebo] 32
    have HAR:=Lib.hid (HR.out.below ((Below.refl _ wr).alloc lr (.cells [.int .u8 ek,.int .i64 est,.slice ha ehs.length hk2,.string ebo].toArray 32)))
    have HRW:=HR
    clear hcel hop1 hoh1 hsn hokk hrk hcell hbw hy HR
    subst e1 e3
    clear e2
    go_upto_region 11 with fail
    obtain ⟨wa,hwa⟩:∃ wa:World,wr.alloc (.cells #[.int .u8 ek,.int .i64 est,.slice ha ehs.length hk2,.string ebo] 32)=wa:=⟨_,rfl⟩
    obtain ⟨Xb,hXb⟩:∃ Xb,wr.heap.size=Xb:=⟨_,rfl⟩
    have hX0:AtL wa Xb [.int .u8 ek,.int .i64 est,.slice ha ehs.length hk2,.string ebo]:=by rw [<-hwa,<-hXb];exact X0
    have hAR:RunA w jb cb s1 (cb+1) now [.slice ja J.length jc,.int .i64 nx,.slice ca lx.length cc,.int .i64 now] rk u13 wa:=by rw [<-hwa];exact HAR.out
    have hwra:Below wr.heap.size wr wa:=by rw [<-hwa];exact (Below.refl _ wr).alloc lr _
    have V0:AtL wa (cb+1) (envL jb cb now):=by obtain ⟨_,_,_,_,_,_,_,_,RF,_⟩:=hAR;exact RF.v
    have HBA:Hid (Below w.heap.size w wa):=by obtain ⟨_,_,_,_,_,_,_,_,RF,_⟩:=hAR;exact Lib.hid RF.b
    rw [hwa,hXb]
    have HXB:=Lib.hid hXb
    have hlen:∀ r':Rn,r'=opF now ⟨ek,est,ehs,ebo⟩ rk->r'.ev.length<=1000:=fun r' e=>by
     rw [e]
     have:=(opF_ok (now:=now) HOP1.out.1 (by omega) HOKK.out).e
     omega
    have HLEN:=Lib.hid hlen
    have HA:=Lib.hid hAR
    have HWRA:=Lib.hid hwra
    clear X0 HAR hwa hXb hAR hlen hwra c0 c1 c2 c3
    have x_:=hX0.o4
    have v0:=V0.c 0 rfl;have v1:=V0.c 1 rfl;have v2:=V0.c 2 rfl
    have xl:=hX0.lt
    have vl:=V0.lt
    have hmod:ek % 5=0\/ek % 5=1\/ek % 5=2\/ek % 5=3\/ek % 5=4:=by omega
    rcases hmod with h5 | h5 | h5 | h5 | h5
    ·have e0:((ek:Int) % 5 == 0)=true:=beq_iff_eq.2 (by omega)
     have CHd:=Lib.hid (fun (w4:World) (hb:Below wr.heap.size wr w4) (u:Value) (hu:SlK hdC 2 w4 u ehs) (hn:∀ b off n k,u = .slice (some ⟨b,off,none⟩) n k->wr.heap.size<=b)=>run_head HRW.out HOKK.out (by omega) ⟨ek,est,ehs,ebo⟩ HOP1.out.1 HSE1.out h5 hb hu hn)
     have CP:=Lib.hid (fun (w':World) (hb:Below w.heap.size w w')=>lcp4_is ehs (.slice ha ehs.length hk2) w' (HOH1.out.below hb lr) (Nat.le_trans HOP1.out.1.hs.len (by decide)))
     have hnX:u13.ownBlock≠some Xb:=fun e=>by have h1:=HRW.out.olt e;have h2:=HXB.out;omega
     have hnV:u13.ownBlock≠some (cb+1):=fun e=>by have h1:=HRW.out.obase e;omega
     have hXr:wr.heap.size<=Xb:=Nat.le_of_eq HXB.out
     have hws:=HBA.out.size
     have hdr:Below wr.heap.size wr wa.drew:=HWRA.out.drew
     have hdr2:Below w.heap.size w wa.drew:=HBA.out.drew
     clear h5
     go_upto_region 12 with fail
     clear x_ v0 v1 v2
     go_region_held3 (fun w'=>(w'.cell? ⟨Xb,1,none⟩=some (.int .i64 est)/\w'.cell? ⟨Xb,2,none⟩=some (.slice ha ehs.length hk2))/\w'.cell? ⟨cb+1,0,none⟩=some (.pointer (some ⟨jb,0,none⟩))/\w'.cell? ⟨cb+1,1,none⟩=some (.pointer (some ⟨cb,0,none⟩))/\w'.cell? ⟨cb+1,2,none⟩=some (.int .i64 now))
      (first | with_reducible exact xv_mk X6 V6 | with_reducible exact xv_mk X5 V5 | with_reducible exact xv_mk X4 V4 | exact xv_mk hX0.drew V0.drew | go_keep)
      (first
        | (go_at_call 33;have T1:=CP.out wa.drew hdr2;(with_reducible refine T1.mono ?_);rintro e4 w4 hq4;obtain ⟨xa2,xk2,rfl,hs4,hb4,hn4⟩:=cloq_open hq4;have X4:=hX0.drew.next hb4;have V4:=V0.drew.next hb4;have xl4:=X4.lt;have vl4:=V4.lt;have hdr4:Below wr.heap.size wr w4:=hdr.trans (hb4.mono hdr.size);have hn4':∀ b off n k,Value.slice xa2 ehs.length xk2 = .slice (some ⟨b,off,none⟩) n k->wr.heap.size<=b:=(fun b off n k e=>Nat.le_trans hdr.size (hn4 b off n k e));have HS4:=Lib.hid hs4;have HN4:=Lib.hid hn4';clear hs4 hn4 hn4' hb4 hq4)
        | (go_at_call 31;have T2:=CHd.out w4 hdr4 _ HS4.out HN4.out;(with_reducible refine T2.mono ?_);rintro e5 w5 hq5;have X5:=hq5.2 Xb _ X4 (.inl hXr);have V5:=hq5.2 (cb+1) _ V4 (.inr rfl);obtain ⟨⟨qa,qn,qc,qe,rfl,hqe,hB5⟩,-⟩:=hq5;have xl5:=X5.lt;have vl5:=V5.lt;have HB4:=Lib.hid hB5;have HQE:=Lib.hid hqe;clear hB5 hqe)
        | (refine RunB.stepR slEv (by decide) HB4.out (by rw [<-HQE.out];exact HLEN.out _ rfl) (by rfl) (.tmp 56) (.tmp 63) (by rfl) (by rfl) (by rfl) ?_;intro v6 w6 hA6 hfr6;have X6:=hfr6 Xb _ X5 hnX;have V6:=hfr6 (cb+1) _ V5 hnV;have xl6:=X6.lt;have vl6:=V6.lt;have HA5:=Lib.hid hA6;clear hA6 hfr6)
        | fail)
     all_goals
      go_wp2_with fail
      go_roundw
      case rel=>exact ⟨k+1,by omega,by go_num,Lib.hid (by rw [HSN.out];have h:=HA5.out;rw [<-HQE.out] at h;exact h)⟩
      case measure=>simp [intOf];omega
    ·have HC:=Lib.hid (run_data HA.out HOKK.out ⟨ek,est,ehs,ebo⟩ HOP1.out.1 h5)
     have e0:((ek:Int) % 5 == 0)=false:=beq_eq_false_iff_ne.2 (by omega)
     have e1:((ek:Int) % 5 == 1)=true:=beq_iff_eq.2 (by omega)
     clear h5
     go_wp2_with (first
      | (go_at_call 34;(with_reducible refine HC.out.mono ?_);rintro e4 w4 hq4;obtain ⟨qa,qn,qc,qe,rfl,hqe,hB4⟩:=hq4;have HB4:=Lib.hid hB4;have HQE:=Lib.hid hqe;clear hB4 hqe)
      | (refine RunB.step slEv (by decide) HB4.out (by rw [<-HQE.out];exact HLEN.out _ rfl) (by rfl) (.tmp 67) (.tmp 71) (by rfl) (by rfl) (by rfl) ?_;intro v5 w5 hA5 _;have HA5:=Lib.hid hA5;clear hA5)
      | fail)
     go_roundw
     case rel=>exact ⟨k+1,by omega,by go_num,Lib.hid (by rw [HSN.out];have h:=HA5.out;rw [<-HQE.out] at h;exact h)⟩
     case measure=>simp [intOf];omega
    ·have HC:=Lib.hid (run_end HA.out HOKK.out (by omega) ⟨ek,est,ehs,ebo⟩ h5)
     have e0:((ek:Int) % 5 == 0)=false:=beq_eq_false_iff_ne.2 (by omega)
     have e1:((ek:Int) % 5 == 1)=false:=beq_eq_false_iff_ne.2 (by omega)
     have e2:((ek:Int) % 5 == 2)=true:=beq_iff_eq.2 (by omega)
     clear h5
     go_wp2_with (first
      | (go_at_call 35;(with_reducible refine HC.out.mono ?_);rintro e4 w4 hq4;obtain ⟨qa,qn,qc,qe,rfl,hqe,hB4⟩:=hq4;have HB4:=Lib.hid hB4;have HQE:=Lib.hid hqe;clear hB4 hqe)
      | (refine RunB.step slEv (by decide) HB4.out (by rw [<-HQE.out];exact HLEN.out _ rfl) (by rfl) (.tmp 75) (.tmp 77) (by rfl) (by rfl) (by rfl) ?_;intro v5 w5 hA5 _;have HA5:=Lib.hid hA5;clear hA5)
      | fail)
     go_roundw
     case rel=>exact ⟨k+1,by omega,by go_num,Lib.hid (by rw [HSN.out];have h:=HA5.out;rw [<-HQE.out] at h;exact h)⟩
     case measure=>simp [intOf];omega
    ·have HC:=Lib.hid (run_Lost HA.out ⟨ek,est,ehs,ebo⟩ h5)
     have e0:((ek:Int) % 5 == 0)=false:=beq_eq_false_iff_ne.2 (by omega)
     have e1:((ek:Int) % 5 == 1)=false:=beq_eq_false_iff_ne.2 (by omega)
     have e2:((ek:Int) % 5 == 2)=false:=beq_eq_false_iff_ne.2 (by omega)
     have e3:((ek:Int) % 5 == 3)=true:=beq_iff_eq.2 (by omega)
     clear h5
     go_wp2_with (first
      | (go_at_call 36;(with_reducible refine HC.out.mono ?_);rintro e4 w4 hq4;obtain ⟨qa,qn,qc,qe,rfl,hqe,hB4⟩:=hq4;have HB4:=Lib.hid hB4;have HQE:=Lib.hid hqe;clear hB4 hqe)
      | (refine RunB.step slEv (by decide) HB4.out (by rw [<-HQE.out];exact HLEN.out _ rfl) (by rfl) (.tmp 81) (.tmp 82) (by rfl) (by rfl) (by rfl) ?_;intro v5 w5 hA5 _;have HA5:=Lib.hid hA5;clear hA5)
      | fail)
     go_roundw
     case rel=>exact ⟨k+1,by omega,by go_num,Lib.hid (by rw [HSN.out];have h:=HA5.out;rw [<-HQE.out] at h;exact h)⟩
     case measure=>simp [intOf];omega
    ·have HC:=Lib.hid (run_Abort HA.out ⟨ek,est,ehs,ebo⟩ h5)
     have e0:((ek:Int) % 5 == 0)=false:=beq_eq_false_iff_ne.2 (by omega)
     have e1:((ek:Int) % 5 == 1)=false:=beq_eq_false_iff_ne.2 (by omega)
     have e2:((ek:Int) % 5 == 2)=false:=beq_eq_false_iff_ne.2 (by omega)
     have e3:((ek:Int) % 5 == 3)=false:=beq_eq_false_iff_ne.2 (by omega)
     clear h5
     go_wp2_with (first
      | (go_at_call 37;(with_reducible refine HC.out.mono ?_);rintro e4 w4 hq4;obtain ⟨qa,qn,qc,qe,rfl,hqe,hB4⟩:=hq4;have HB4:=Lib.hid hB4;have HQE:=Lib.hid hqe;clear hB4 hqe)
      | (refine RunB.step slEv (by decide) HB4.out (by rw [<-HQE.out];exact HLEN.out _ rfl) (by rfl) (.tmp 51) (.tmp 52) (by rfl) (by rfl) (by rfl) ?_;intro v5 w5 hA5 _;have HA5:=Lib.hid hA5;clear hA5)
      | fail)
     go_roundw
     case rel=>exact ⟨k+1,by omega,by go_num,Lib.hid (by rw [HSN.out];have h:=HA5.out;rw [<-HQE.out] at h;exact h)⟩
     case measure=>simp [intOf];omega
   ·obtain rfl:k=lo.length:=by omega
    rw [List.take_length,HRR2.out] at HR
    obtain ⟨sva,svk,swa,swk,fea,fn,fek,fja,fjk,fca,fn2,fck,hv,S2,J2,C2,W2,R6,R8,⟨hg1,hg2,hg3⟩,HQ⟩:=HR.out.fin
    subst hv
    rw [HWB.out] at W2 R6 R8 hg1 hg2 hg3
    have R6:AtL wr (Wb+1+1) fz:=R6
    have R8:AtL wr (Wb+1+1+1) wz:=R8
    have HQF:Hid (∀ w',Kp wr.heap.size (fun b=>b=Wb+1+1\/b=Wb+1+1+1) wr w'->RunQ w now r (.returned (.tuple #[.agg (fsV r.s (.slice sva r.s.qh.length svk) (.slice swa r.s.hs.length swk)).toArray,.slice fea fn fek,.agg #[.slice fja r.j.1.length fjk,.int .i64 r.j.2,.slice fca fn2 fck,.int .i64 now]])) w'):=Lib.hid (by have e:=HWB.out;subst e;exact HQ)
    obtain ⟨LS,hLS⟩:∃ LS,fsV r.s (.slice sva r.s.qh.length svk) (.slice swa r.s.hs.length swk)=LS:=⟨_,rfl⟩
    have hll:LS.length=23:=by rw [<-hLS];rfl
    have HONE2:=Lib.hid (show ∀ v∈LS,v.oneCell'=true by rw [<-hLS];exact List.all_eq_true.1 rfl)
    rw [hLS] at S2 HQF
    have S3:=S2.drew
    have J3:=J2.drew
    have C3:=C2.drew
    have W3:=W2.drew
    have R63:=R6.drew
    have R83:=R8.drew
    have n1:Wb+1+1≠s1:=by omega
    have n2:Wb+1+1≠jb:=by omega
    have n3:Wb+1+1≠cb:=by omega
    have n4:Wb+1+1≠Wb:=by omega
    have n5:Wb+1+1≠Wb+1+1+1:=by omega
    have m1:Wb+1+1+1≠s1:=by omega
    have m2:Wb+1+1+1≠jb:=by omega
    have m3:Wb+1+1+1≠cb:=by omega
    have m4:Wb+1+1+1≠Wb:=by omega
    have S4:=AtL.farSets n1 (o:=0) LS S3
    have J4:=AtL.farSets n2 (o:=0) LS J3
    have C4:=AtL.farSets n3 (o:=0) LS C3
    have W4:=AtL.farSets n4 (o:=0) LS W3
    have R84:=AtL.farSets n5 (o:=0) LS R83
    have R64:=AtL.sets (vs:=LS) R63 hll
    clear hLS HQ S2 J2 C2 W2 R6 R8
    go_upto_region 20 with fail
    have d_:=R83.o4;have g0:=R83.f 0 rfl;have g1:=R83.f 1 rfl;have g2:=R83.f 2 rfl;have g3:=R83.f 3 rfl
    have e0:=R84.c 0 rfl;have e1:=R84.c 1 rfl;have e2:=R84.c 2 rfl;have e3:=R84.c 3 rfl;have h0:=R84.f 0 rfl;have h1:=R84.f 1 rfl;have h2:=R84.f 2 rfl;have h3:=R84.f 3 rfl
    have rl3:=R83.lt
    have rl4:=R84.lt
    have huS:=Tryz.underlying40
    have hiS:(Tryz.prog.info? 40).map (·.size)=some LS.length:=by rw [hll];kernel_rfl
    have hone:=HONE2.out
    refine wp_region_held_drew (S:=(fun w'=>(w'.rangeAt s1 0 LS/\w'.there (Wb+1+1) 0 23)/\(w'.cell? ⟨jb,0,none⟩=some (.slice fja r.j.1.length fjk)/\w'.cell? ⟨jb,1,none⟩=some (.int .i64 r.j.2))/\w'.cell? ⟨cb,0,none⟩=some (.slice fca fn2 fck)/\w'.cell? ⟨Wb,3,none⟩=some (.int .i64 now))) (by kernel_rfl) (endS_mk S3 R63 rfl J3 C3 W3) (fun hHeld=>?_)
    refine' wpAnyH_take (i:=0) (oi:=_) (v:=_) (by simp only [List.getElem?_toArray,List.getElem?_cons_succ,List.getElem?_cons_zero];rfl) (by kernel_rfl) (by kernel_rfl) (by kernel_rfl) (by intro _ _ _ h;exact h) (yieldsIf_load_mid (by rfl) _ _ rfl _ _ rfl _ _ (fun w' hw'=>hw'.1.1) huS rfl hiS) (by assumption) ?_
    simp only [Act.put,List.setIfInBounds_toArray,List.set_cons_zero,List.set_cons_succ]
    refine tkH 1 ?_
    simp only [Act.put,List.setIfInBounds_toArray,List.set_cons_zero,List.set_cons_succ]
    refine tkH 2 ?_
    simp only [Act.put,List.setIfInBounds_toArray,List.set_cons_zero,List.set_cons_succ]
    refine tkH 3 ?_
    simp only [Act.put,List.setIfInBounds_toArray,List.set_cons_zero,List.set_cons_succ]
    refine tkH 4 ?_
    simp only [Act.put,List.setIfInBounds_toArray,List.set_cons_zero,List.set_cons_succ]
    refine tkH 5 ?_
    simp only [Act.put,List.setIfInBounds_toArray,List.set_cons_zero,List.set_cons_succ]
    refine tkH 6 ?_
    simp only [Act.put,List.setIfInBounds_toArray,List.set_cons_zero,List.set_cons_succ]
    refine tkH 7 ?_
    simp only [Act.put,List.setIfInBounds_toArray,List.set_cons_zero,List.set_cons_succ]
    have S5:=AtL.farSets m1 (o:=0) [.slice fja r.j.1.length fjk,.int .i64 r.j.2,.slice fca fn2 fck,.int .i64 now] S4
    have J5:=AtL.farSets m2 (o:=0) [.slice fja r.j.1.length fjk,.int .i64 r.j.2,.slice fca fn2 fck,.int .i64 now] J4
    have C5:=AtL.farSets m3 (o:=0) [.slice fja r.j.1.length fjk,.int .i64 r.j.2,.slice fca fn2 fck,.int .i64 now] C4
    have W5:=AtL.farSets m4 (o:=0) [.slice fja r.j.1.length fjk,.int .i64 r.j.2,.slice fca fn2 fck,.int .i64 now] W4
    have R65:=AtL.farSets (Ne.symm n5) (o:=0) [.slice fja r.j.1.length fjk,.int .i64 r.j.2,.slice fca fn2 fck,.int .i64 now] R64
    have R85:=AtL.sets (vs:=[.slice fja r.j.1.length fjk,.int .i64 r.j.2,.slice fca fn2 fck,.int .i64 now]) R84 rfl
    have hKp:=(((Kp.of_below (M:=fun b=>b=Wb+1+1\/b=Wb+1+1+1) ((Below.refl wr.heap.size wr).drew) lr).sets' (k:=Wb+1+1) (.inl (.inl rfl)) 0 LS).sets' (k:=Wb+1+1+1) (.inl (.inr rfl)) 0 [.slice fja r.j.1.length fjk,.int .i64 r.j.2,.slice fca fn2 fck,.int .i64 now])
    have HKP:=Lib.hid hKp
    have t6:=R63.there 23 rfl
    have t8:=R84.there 4 rfl
    have hiW:(Tryz.prog.info? 27).map (·.size)=some 4:=by kernel_rfl
    rw [<-hll] at t6
    clear hKp d_ g0 g1 g2 g3 e0 e1 e2 e3 h0 h1 h2 h3
    refine held_store 8 _ 40 (.tmp 6) (.tmp 85) (Wb+1+1) 0 LS (by kernel_rfl) (by simp only [List.getElem?_toArray,List.getElem?_cons_succ,List.getElem?_cons_zero];rfl) (by rfl) rfl rfl rfl t6 hiS hone (endS_mk S4 R64 hll J4 C4 W4) (fun hHeld=>?_)
    simp only [Act.put,List.setIfInBounds_toArray,List.set_cons_zero,List.set_cons_succ]
    refine tkH 9 ?_
    simp only [Act.put,List.setIfInBounds_toArray,List.set_cons_zero,List.set_cons_succ]
    refine held_store 10 _ 27 (.tmp 8) (.tmp 92) (Wb+1+1+1) 0 [.slice fja r.j.1.length fjk,.int .i64 r.j.2,.slice fca fn2 fck,.int .i64 now] (by kernel_rfl) (by simp only [List.getElem?_toArray,List.getElem?_cons_succ,List.getElem?_cons_zero];rfl) (by rfl) rfl rfl rfl t8 hiW (List.all_eq_true.1 rfl) (endS_mk S5 R65 hll J5 C5 W5) (fun hHeld=>?_)
    simp only [Act.put,List.setIfInBounds_toArray,List.set_cons_zero,List.set_cons_succ]
    refine wpAnyH_done (by kernel_rfl) ?_ _
    go_wp2_with fail
    exact bodyPost_ret (retctc_run (vs:=LS) (us:=[.slice fja r.j.1.length fjk,.int .i64 r.j.2,.slice fca fn2 fck,.int .i64 now]) Tryz.results13 (by rw [hll];exact Tryz.sizeOf40) Tryz.isAgg40 Tryz.sizeOf27 Tryz.isAgg27 _ _ _ _ _ rfl rfl rfl R65 R85) rfl (HQF.out _ HKP.out)
structure RunM (r:Rn)(ev:Value)(l:List (Value × Ev))(vj vc:Value)(lx:List Ee)(w:World):Prop where
 ev:SlK evC 7 w ev l
 eq:l.map (·.2)=r.ev
 hs:∀ y∈l,SlK hdC 2 w y.1 y.2.hs
 ja:SlK ckL 9 w vj r.j.1
 ca:SlK eeC 6 w vc lx
 rd:∀ x∈lx,Rd w x.1 x.2
 ce:lx.map (·.2)=r.c
theorem RunM.below {r:Rn}{ev:Value}{l:List (Value × Ev)}{vj vc:Value}{lx:List Ee}{w w':World}(h:RunM r ev l vj vc lx w)(k:Below w.heap.size w w'):RunM r ev l vj vc lx w':=
 ⟨h.ev.below k lr,h.eq,fun y hy=>(h.hs y hy).below k lr,h.ja.below k lr,h.ca.below k lr,fun x hx=>(h.rd x hx).below k lr,h.ce⟩
structure RunL (w:World)(now:Int)(r:Rn)(s:Nat)(L:List Value)(ev:Value)(l:List (Value × Ev))(vj vc:Value)(lx:List Ee)(w8:World):Prop where
 st:AtL w8 s L
 wd:AtL w8 (s+1) [vj,.int .i64 r.j.2,vc,.int .i64 now]
 le:w.heap.size<=s
 pre:∃ w3:World,w3.heap.size=s/\RunM r ev l vj vc lx w3/\Below s w3 w8
 ls:∃ (va:Option Addr) (vk:Nat) (wa:Option Addr) (wk:Nat),L=fsV r.s (.slice va r.s.qh.length vk) (.slice wa r.s.hs.length wk)/\SlK hdC 2 w8 (.slice va r.s.qh.length vk) r.s.qh/\SlK hdC 2 w8 (.slice wa r.s.hs.length wk) r.s.hs
 ev:SlK evC 7 w8 ev l
 eq:l.map (·.2)=r.ev
 hs:∀ y∈l,SlK hdC 2 w8 y.1 y.2.hs
 ja:SlK ckL 9 w8 vj r.j.1
 ca:SlK eeC 6 w8 vc lx
 rd:∀ x∈lx,Rd w8 x.1 x.2
 ce:lx.map (·.2)=r.c
 bl:Below w.heap.size w w8
theorem RunL.ph {w w8:World}{now:Int}{r:Rn}{s:Nat}{L:List Value}{ev:Value}{l:List (Value × Ev)}{vj vc:Value}{lx:List Ee}(h:RunL w now r s L ev l vj vc lx w8):w8.cell? ⟨s,8,none⟩=some (.int .i64 r.s.ph):=by
 obtain ⟨va,vk,wa,wk,e,_⟩:=h.ls
 exact h.st.c 8 (by rw [e];rfl)
def lawW (w3:World)(L V:List Value):World:=(((w3.alloc (.cells fz.toArray 40)).alloc (.cells wz.toArray 27)).setCells w3.heap.size 0 L).setCells (w3.heap.size+1) 0 V
theorem lawW_at (w3:World):AtL ((w3.alloc (.cells fz.toArray 40)).alloc (.cells wz.toArray 27)) w3.heap.size fz:=(AtL.new w3 fz 40).alloc (.cells wz.toArray 27)
theorem lawW_at2 (w3:World)(L:List Value):AtL (((w3.alloc (.cells fz.toArray 40)).alloc (.cells wz.toArray 27)).setCells w3.heap.size 0 L) (w3.heap.size+1) wz:=by
 have h:=AtL.new (w3.alloc (.cells fz.toArray 40)) wz 27
 rw [show (w3.alloc (.cells fz.toArray 40)).heap.size=w3.heap.size+1 by simp] at h
 exact AtL.farSets (by omega) (o:=0) L h
theorem RunQ.law {w:World}{now:Int}{r:Rn}{x:Ending}{w3:World}(h:RunQ w now r x w3):
 ∃ (L V:List Value) (ea:Option Addr) (n ek:Nat) (l:List (Value × Ev)) (vj vc:Value) (lx:List Ee),x = .returned (.tuple #[.agg L.toArray,.slice ea n ek,.agg V.toArray])/\n=l.length/\(L.length=23/\L.all (·.oneCell')=true)/\(V.length=4/\V.all (·.oneCell')=true)/\RunL w now r w3.heap.size L (.slice ea n ek) l vj vc lx (lawW w3 L V):=by
 obtain ⟨va,vk,wa,wk,ea,ek,l,ja,jk,ca,ck,lx,rfl,⟨hq,hh⟩,⟨hev,hle,hevh⟩,hj,⟨hc,hcr,hce⟩,hb⟩:=h
 have hb2:Below w3.heap.size w3 (lawW w3 (fsV r.s (.slice va r.s.qh.length vk) (.slice wa r.s.hs.length wk)) [.slice ja r.j.1.length jk,.int .i64 r.j.2,.slice ca lx.length ck,.int .i64 now]):=
  Below.sets (k:=w3.heap.size+1) (by omega) (o:=0) _ (Below.sets (k:=w3.heap.size) lr (o:=0) _ (((Below.refl _ w3).alloc lr _).alloc (by simp) _))
 have hwd:AtL (lawW w3 (fsV r.s (.slice va r.s.qh.length vk) (.slice wa r.s.hs.length wk)) [.slice ja r.j.1.length jk,.int .i64 r.j.2,.slice ca lx.length ck,.int .i64 now]) (w3.heap.size+1) [.slice ja r.j.1.length jk,.int .i64 r.j.2,.slice ca lx.length ck,.int .i64 now]:=AtL.sets (lawW_at2 w3 _) rfl
 refine ⟨_,[.slice ja r.j.1.length jk,.int .i64 r.j.2,.slice ca lx.length ck,.int .i64 now],ea,l.length,ek,l,.slice ja r.j.1.length jk,.slice ca lx.length ck,lx,rfl,rfl,⟨rfl,rfl⟩,⟨rfl,rfl⟩,⟨?_,hwd,hb.size,⟨w3,rfl,⟨SlK.of_own evC_len hev,hle,hevh,hj,hc,hcr,hce⟩,hb2⟩,⟨va,vk,wa,wk,rfl,hq.below hb2 lr,hh.below hb2 lr⟩,SlK.of_own evC_len (own_below hev hb2 lr),hle,fun y hy=>(hevh y hy).below hb2 lr,hj.below hb2 lr,hc.below hb2 lr,fun x hx=>(hcr x hx).below hb2 lr,hce,hb.trans (hb2.mono hb.size)⟩⟩
 exact AtL.farSets (by omega) (o:=0) _ (AtL.sets (lawW_at w3) rfl)
theorem slk_tail {α:Type}{enc:α->List Value}{k:Nat}{w:World}{b off c:Nat}{z:α}{l:List α}(h:SlK enc k w (.slice (some ⟨b,off,none⟩) (l.length+1) c) (z :: l)):SlK enc k w (.slice (some ⟨b,off+k,none⟩) l.length (c - 1)) l:=by
 rcases h with ⟨h,_⟩ | ⟨_,b2,off2,c2,hv,h1,h2,h3,h4⟩
 ·cases h
 ·injection hv with e1 e2 e3
  injection e1 with e1
  injection e1 with e1 e4
  subst e1 e3 e4
  rw [List.length_cons] at h1
  by_cases h0:l=[]
  ·subst h0
   exact .inl ⟨rfl,_,_,rfl,by omega⟩
  ·exact .inr ⟨h0,_,_,_,rfl,by omega,by omega,h3,fun i hi j u hu=>by
    have:=h4 (i+1) (by rw [List.length_cons];omega) j u (by simpa using hu)
    rw [show off+k+i * k+j=off+(i+1) * k+j by rw [Nat.add_mul];omega]
    exact this⟩
theorem SlK.of_at {α:Type}{enc:α->List Value}{k':Nat}(hk:∀ x,(enc x).length=k'){w:World}{b:Nat}{l:List α}{vs:List Value}(h:AtL w b vs)(he:vs=cellsK enc l)(h0:l≠[])(hl:l.length<=maxLen):SlK enc k' w (.slice (some ⟨b,0,none⟩) l.length l.length) l:=
 .inr ⟨h0,b,0,l.length,rfl,lr,hl,h.lt,fun i hi j u hu=>by rw [Nat.zero_add];exact h.c _ (by rw [he];exact cellsK_get hk l i hi j u hu)⟩
theorem WIn.zero (w:World):WIn w (.slice none 0 0) [] (.slice none 0 0) []:=⟨slk_nil4 w,slk_nil4 w,fun x hx=>(by cases hx),fun x hx=>(by cases hx),fun x hx=>(by cases hx)⟩
theorem few4_op {J:List Ck}{nx:Int}{es:List En}{qh:List Hd}{ur og qb:ByteArray}{ops:List Op4}(h:few4 J nx es qh ur og qb ops=true):∀ o∈ops,o.bo.size<=500/\HOk 8 o.hs:=by
 unfold few4 at h
 simp only [Bool.and_eq_true,decide_eq_true_eq,List.all_eq_true] at h
 obtain ⟨_,_,_,_,_,h10⟩:=h
 intro o ho
 have:=h10 o ho
 unfold opB4 at this
 simp only [Bool.and_eq_true,decide_eq_true_eq] at this
 exact ⟨this.2,(attr_hok this.1).1⟩
theorem OIn.row {w:World}{k:Nat}{vs:List Value}{lo:List (Value × Op4)}(h:AtL w k vs)(he:vs=cellsK opC lo)(h0:lo≠[])(hl:lo.length<=maxLen)(hv:∀ x∈lo,SlK hdC 2 w x.1 x.2.hs)(hz:∀ x∈lo,WtH x.2.hs):OIn w (.slice (some ⟨k,0,none⟩) lo.length lo.length) lo:=
 ⟨SlK.of_at opC_len h he h0 hl,hv,hz⟩
theorem wth_nil:WtH []:=fun x hx=>by cases hx
end Go.Proofs.YtjdhaacmlpegoaaGreatDoor
