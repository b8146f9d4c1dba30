/- Part 22 of what the proof needs: XY TI XZ TK YK. -/
import Derived.Test.YtjdhaacmlpegoaaGreatDoorU21
set_option maxRecDepth 20000
set_option maxHeartbeats 16000000
set_option linter.unusedSimpArgs false
set_option linter.unusedVariables false
namespace Go.Proofs.YtjdhaacmlpegoaaGreatDoor
open Go.RowKit
abbrev rqL (S:FSt)(vh:Value):List Value:=[.int .i64 S.tk,.string S.me,.string S.ur,.string S.og,.int .i64 S.mo,vh,.string S.qb,.bool S.ck]
theorem ru8_mk {W w':World}{R U:Nat}{r0 r1 r2 r3 r4 r5 r6 r7 a b c d e f:Value}(h:AtL W R [r0,r1,r2,r3,r4,r5,r6,r7])(h2:AtL W U [a,b,c,d,e,f])(hb:Below W.heap.size W w'):w'.cell? ⟨R,4,none⟩=some r4/\w'.cell? ⟨R,3,none⟩=some r3/\w'.cell? ⟨U,0,none⟩=some a/\w'.cell? ⟨U,1,none⟩=some b/\w'.cell? ⟨U,2,none⟩=some c/\w'.cell? ⟨U,3,none⟩=some d/\w'.cell? ⟨U,4,none⟩=some e/\w'.cell? ⟨U,5,none⟩=some f:=
 have h':=h.next hb
 have k':=h2.next hb
 ⟨h'.c 4 rfl,h'.c 3 rfl,k'.c 0 rfl,k'.c 1 rfl,k'.c 2 rfl,k'.c 3 rfl,k'.c 4 rfl,k'.c 5 rfl⟩
theorem N21{p:Prop}(h:p:=by
 have A9:=(HA8.out.url hsV (bs ra) (bs rb) (bs rc) (bs rd) (bs re) (bs rf)).set (S':={ { S with a:=bs ra,b:=bs rb,c:=bs rc,d:=bs rd,e:=bs re,f:=bs rf } with sm:=S.me }) hsV 15 (.string S.me) (fun _ _=>rfl) rfl rfl
 have A9:RedA w s0 jb cb B vj J nx vc S2 C V now vc lx ((setU6 w8 s0 (bs ra) (bs rb) (bs rc) (bs rd) (bs re) (bs rf)).setCell ⟨s0,15,none⟩ (.string S.me)):=by rw [<-HS2.out];exact A9
 obtain ⟨w9,hw9⟩:∃ w9:World,(setU6 w8 s0 (bs ra) (bs rb) (bs rc) (bs rd) (bs re) (bs rf)).setCell ⟨s0,15,none⟩ (.string S.me)=w9:=⟨_,rfl⟩
 rw [hw9] at A9
 rw [show (((((((w8.setCell ⟨s0,9,none⟩ (.string (bs ra))).setCell ⟨s0,10,none⟩ (.string (bs rb))).setCell ⟨s0,11,none⟩ (.string (bs rc))).setCell ⟨s0,12,none⟩ (.string (bs rd))).setCell ⟨s0,13,none⟩ (.string (bs re))).setCell ⟨s0,14,none⟩ (.string (bs rf))).setCell ⟨s0,15,none⟩ (.string S.me))=w9 from hw9]
 clear hw9
 clear z_
 clear y_ u0 u1 u2 u3 u4 u5 r_ zl ul rl
 have A9d:=A9.below (Kc w9).drew
 have V9:=A9.v
 have HA9:=Kb A9d
 have v_:=V9.o3
 have vl:=V9.lt
 clear A9 A9d
 go_wp2_with (first
  | ((with_reducible refine (CS8.out w9.drew HA9.out.f).mono ?_);rintro e13 w13 hq13;have HQ:=Kb (HA9.out.fin hq13);obtain ⟨oa,on,oc,rfl⟩:=stepq_shape hq13)
  | fail)
 go_ret
 have hq:=HQ.out
 rw [HC2.out,HE.out] at hq
 exact hq
 ):p:=h
theorem N55{p:Prop}(h:p:=by
 go_wp2_with (first
  | ((with_reducible refine (CF.out _ _ _ _ HA5.out.f _).mono ?_);rintro e9 w9 hq9;have HQ:=Kb (HA5.out.fin hq9);obtain ⟨oa,on,oc,rfl⟩:=stepq_shape hq9)
  | fail
  )
 go_ret
 first
  |have hq:=HQ.out
   rw [HC2.out,HE.out] at hq
   exact hq
  |have hq:=HQ.out;rw [HC2.out,HE.out] at hq;exact hq
 ):p:=h
theorem M7{p:Prop}(h:p:=by
 have U8:=U7.next h78
 have R8:=R7.next h78
 have A8:=HA7.out.below h78
 obtain ⟨vh8,wh8,S8,_,_⟩:=A8.f.cells
 have S8:AtL w8 s0 (fsC S.tk S.me S.ur S.og S.mo vh8 S.qb S.ck S.ph S.a S.b S.c S.d S.e S.f S.sm S.ho S.ch S.hi S.st wh8 S.sb S.er):=S8
 have HA8:=Kb A8
 clear r_ u0 u1 u2 u3 u4 u5 U7 R7 A8
 try clear rl7 ul7
 have z_:=S8.o23;have y_:=S8.of23
 have u0:=U8.c 0 rfl;have u1:=U8.c 1 rfl;have u2:=U8.c 2 rfl;have u3:=U8.c 3 rfl;have u4:=U8.c 4 rfl;have u5:=U8.c 5 rfl
 have r_:=R8.o8
 have zl:=S8.lt
 have ul:=U8.lt
 have rl:=R8.lt
 have CS8:=Kb (fun (w':World) (F':FIn w' s0 jb cb B vj J nx vc lx S2)=>send_all HJ.out now hm 11 n S2 w' vc lx HSK.out (by have h:=HS20.out;omega) HCK.out (by omega) F')
 go_upto_region 9 with fail
 go_region_with fail
 all_goals
  exact N21
 ):p:=h
theorem begin_is [Prot]{w:World}{s0 jb cb B:Nat}{vj:Value}{J:List Ck}{nx:Int}{vc:Value}{lx:List Ee}{S:FSt}{n m:Nat}(F:FIn w s0 jb cb B vj J nx vc lx S)(hS:SOk S)(hJ:JOk J)(hC:COk n m (lx.map (·.2)))(hn:n<=880)(hm:m<=800)(hh0:S.ho=0)(now:Int)(o:Out)(ho:beginF J now S (lx.map (·.2))=o):
 Calls Tryz.prog 70 #[.pointer (some ⟨s0,0,none⟩),envA jb cb now] w (StepQ w s0 jb cb B vj J nx vc o):=by
 have hal:=(Kc w).alloc lr (.cells (envL jb cb now).toArray 83);have V1:=AtL.new w (envL jb cb now) 83;have F1:=F.below hal;have hsV:s0≠w.heap.size:=by have:=F.env.ls;omega
 have hls:=F.env.ls;obtain ⟨C,hC2⟩:=Ka (lx.map (·.2));have A1:RedA w s0 jb cb B vj J nx vc S C w.heap.size now vc lx (w.alloc (.cells (envL jb cb now).toArray 83)):=⟨F1,hC2,Kp.of_below hal lr,fun _ _ e=>e,V1⟩
 rw [hC2] at ho;have HCK:=Kb hC;have HC2:=Kb hC2;have HSK0:=Kb hS;have HJ:=Kb hJ;have HH0:=Kb hh0;clear hC hC2 hJ hh0;obtain ⟨w1,hw1⟩:∃ w1:World,w.alloc (.cells (envL jb cb now).toArray 83)=w1:=⟨_,rfl⟩
 obtain ⟨V,hV⟩:=Ka w.heap.size;rw [hw1] at A1 F1 V1 hal;rw [hV] at A1 V1 hsV hls;have hsz1:w1.heap.size=V+1:=by rw [<-hw1,<-hV];simp
 obtain ⟨va,vk,wa,wk,S1,_,_⟩:=A1.f.st;have S1:AtL w1 s0 (fsC S.tk S.me S.ur S.og S.mo (.slice va S.qh.length vk) S.qb S.ck S.ph S.a S.b S.c S.d S.e S.f S.sm S.ho S.ch S.hi S.st (.slice wa S.hs.length wk) S.sb S.er):=S1;have hal2:=(Kc w1).alloc lr (.cells (rqL S (.slice va S.qh.length vk)).toArray 30);have R2:=AtL.new w1 (rqL S (.slice va S.qh.length vk)) 30;have A2:=A1.below hal2;obtain ⟨w2,hw2⟩:∃ w2:World,w1.alloc (.cells (rqL S (.slice va S.qh.length vk)).toArray 30)=w2:=⟨_,rfl⟩
 obtain ⟨R,hR⟩:=Ka w1.heap.size;rw [hw2] at A2 R2;rw [hR] at R2;have hsR:s0≠R:=by omega
 have HA2:=Kb A2;clear F1 hal hal2 A1 A2 F hsz1 V1 hls;have CF:=Kb (fun (w':World) (vc':Value) (lx':List Ee) (S':FSt) (F':FIn w' s0 jb cb B vj J nx vc' lx' S') (e:Int)=>fail_is F' e);obtain ⟨K,hK⟩:=Ka (knownB S.me);have CK:=Kb (fun (w':World)=>known_is S.me w' K hK);have hur:S.ur.size<=300000:=by have:=hS.ur;omega
 clear hS;unfold beginF at ho;rw [hK] at ho;clear hK;by_cases hmo:S.mo<1\/4<S.mo
 ·have HE:Hid (failO S C 1=o):=Kb (by rw [<-ho,Kf (by omega)]);have HA5:=HA2;clear ho;rcases hmo with h1 | h1
  ·
   go_enter Tryz.func70,Tryz.ntmps70
   have z_:=S1.o23
   have zl:=S1.lt
   have r_:=R2.o8
   have rl:=R2.lt
   exact N55
  ·have h2:¬ S.mo<1:=by omega
   go_enter Tryz.func70,Tryz.ntmps70;have z_:=S1.o23;have zl:=S1.lt;have r_:=R2.o8;have rl:=R2.lt
   exact N55
 ·have h1:¬ S.mo<1:=by omega
  have h2:¬ 4<S.mo:=by omega
  clear hmo;cases K with
  | false=>
    have HE:Hid (failO S C 1=o):=Kb (by rw [<-ho,Kf (.inr (.inr rfl))]);clear ho;go_enter Tryz.func70,Tryz.ntmps70;have z_:=S1.o23;have zl:=S1.lt;have r_:=R2.o8;have rl:=R2.lt
    go_wp2_with (first
     | ((with_reducible refine (CK.out _).mono ?_);rintro e3 w3 ⟨rfl,hb3⟩;have HA5:=Kb (HA2.out.below hb3);have R3:=R2.next hb3;clear r_;have r_:=R3.o8;have rl3:=R3.lt)
     | ((with_reducible refine (CF.out _ _ _ _ HA5.out.f _).mono ?_);rintro e9 w9 hq9;have HQ:=Kb (HA5.out.fin hq9);obtain ⟨oa,on,oc,rfl⟩:=stepq_shape hq9)
     | fail
     )
    go_ret;have hq:=HQ.out;rw [HC2.out,HE.out] at hq;exact hq
  | true=>
    rw [Ke (by rintro (h | h | h);exact h1 h;exact h2 h;cases h)] at ho
    cases hP:parseL S.ur.data.toList with
    | none=>
      rw [hP] at ho
      have HE:Hid (failO S C 4=o):=Kb ho
      have CP:=Kb (fun (w':World) (hM:MaxAt w')=>parse_none S.ur w' hur hM hP)
      clear ho hP
      go_enter Tryz.func70,Tryz.ntmps70
      have z_:=S1.o23
      have zl:=S1.lt
      have r_:=R2.o8
      have rl:=R2.lt
      go_wp2_with (first
       | ((with_reducible refine (CK.out _).mono ?_);rintro e3 w3 ⟨rfl,hb3⟩;have HA3:=Kb (HA2.out.below hb3);have R3:=R2.next hb3;clear r_;have r_:=R3.o8;have rl3:=R3.lt)
       | ((with_reducible refine (CP.out w3 HA3.out.f.env.mx).mono ?_);rintro e4 w4 ⟨rfl,hb4⟩;have HA5:=Kb ((HA3.out.below hb4).below ((Kc w4).alloc lr (.cells #[.string ⟨#[]⟩,.string ⟨#[]⟩,.string ⟨#[]⟩,.string ⟨#[]⟩,.string ⟨#[]⟩,.string ⟨#[]⟩] 37))))
       | ((with_reducible refine (CF.out _ _ _ _ HA5.out.f _).mono ?_);rintro e9 w9 hq9;have HQ:=Kb (HA5.out.fin hq9);obtain ⟨oa,on,oc,rfl⟩:=stepq_shape hq9)
       | fail
       )
      go_ret
      have hq:=HQ.out
      rw [HC2.out,HE.out] at hq
      exact hq
    | some r=>
      rw [hP] at ho
      simp only at ho
      have HPU:=Kb hP
      obtain ⟨ra,rb,rc,rd,re,rf⟩:=r
      have CP:=Kb (fun (w':World) (hM:MaxAt w')=>parse_some S.ur w' hur hM (bs ra) (bs rb) (bs rc) (bs rd) (bs re) (bs rf) hP)
      obtain ⟨WB,hWB⟩:=Ka (webB (bs ra))
      have CWe:=Kb (fun (w':World)=>web_is (bs ra) (bs rb) (bs rc) (bs rd) (bs re) (bs rf) w' WB hWB)
      have hwo:(if WB=false then failO S C 4 else if (decide (S.mo=2) && fgB (putU S (ra,rb,rc,rd,re,rf)))=true then failO S C 15 else sendF J now 11 { putU S (ra,rb,rc,rd,re,rf) with sm:=S.me } C)=o:=by rw [<-hWB];exact ho
      clear ho hP hWB
      cases WB with
      | false=>
        have HE:Hid (failO S C 4=o):=Kb (by rw [<-hwo,Kf rfl])
        clear hwo
        go_enter Tryz.func70,Tryz.ntmps70
        have z_:=S1.o23
        have zl:=S1.lt
        have r_:=R2.o8
        have rl:=R2.lt
        go_wp2_with (first
         | ((with_reducible refine (CK.out _).mono ?_);rintro e3 w3 ⟨rfl,hb3⟩;have HA3:=Kb (HA2.out.below hb3);have R3:=R2.next hb3;clear r_;have r_:=R3.o8;have rl3:=R3.lt)
         | ((with_reducible refine (CP.out w3 HA3.out.f.env.mx).mono ?_);rintro e4 w4 ⟨rfl,hb4⟩;have HA4:=Kb (HA3.out.below hb4);have ha4:=(Kc w4).alloc lr (.cells [.string (bs ra),.string (bs rb),.string (bs rc),.string (bs rd),.string (bs re),.string (bs rf)].toArray 37);have U4:=AtL.new w4 [.string (bs ra),.string (bs rb),.string (bs rc),.string (bs rd),.string (bs re),.string (bs rf)] 37;have u0:=U4.c 0 rfl;have u1:=U4.c 1 rfl;have u2:=U4.c 2 rfl;have u3:=U4.c 3 rfl;have u4:=U4.c 4 rfl;have u5:=U4.c 5 rfl;have ul4:=U4.lt)
         | ((with_reducible refine (CWe.out _).mono ?_);rintro e8 w8 ⟨rfl,hb8⟩;have HA5:=Kb (HA4.out.below (ha4.trans (hb8.mono ha4.size))))
         | ((with_reducible refine (CF.out _ _ _ _ HA5.out.f _).mono ?_);rintro e9 w9 hq9;have HQ:=Kb (HA5.out.fin hq9);obtain ⟨oa,on,oc,rfl⟩:=stepq_shape hq9)
         | fail
         )
        go_ret
        have hq:=HQ.out
        rw [HC2.out,HE.out] at hq
        exact hq
      | true=>
        have hwo:(if (decide (S.mo=2) && fgB (putU S (ra,rb,rc,rd,re,rf)))=true then failO S C 15 else sendF J now 11 { putU S (ra,rb,rc,rd,re,rf) with sm:=S.me } C)=o:=by have h:=hwo;rw [Ke (show ¬ ((true:Bool)=false) by decide)] at h;exact h
        go_enter Tryz.func70,Tryz.ntmps70
        have z_:=S1.o23
        have zl:=S1.lt
        have r_:=R2.o8
        have rl:=R2.lt
        go_upto_region 7 with (first
         | ((with_reducible refine (CK.out _).mono ?_);rintro e3 w3 ⟨rfl,hb3⟩;have HA3:=Kb (HA2.out.below hb3);have R3:=R2.next hb3;clear r_;have r_:=R3.o8;have rl3:=R3.lt)
         | ((with_reducible refine (CP.out w3 HA3.out.f.env.mx).mono ?_);rintro e4 w4 ⟨rfl,hb4⟩;have HA4:=Kb (HA3.out.below hb4);have ha4:=(Kc w4).alloc lr (.cells [.string (bs ra),.string (bs rb),.string (bs rc),.string (bs rd),.string (bs re),.string (bs rf)].toArray 37);have U4:=AtL.new w4 [.string (bs ra),.string (bs rb),.string (bs rc),.string (bs rd),.string (bs re),.string (bs rf)] 37;have u0:=U4.c 0 rfl;have u1:=U4.c 1 rfl;have u2:=U4.c 2 rfl;have u3:=U4.c 3 rfl;have u4:=U4.c 4 rfl;have u5:=U4.c 5 rfl;have ul4:=U4.lt)
         | ((with_reducible refine (CWe.out _).mono ?_);rintro e7 w7 ⟨rfl,hb7⟩;have hB7:=ha4.trans (hb7.mono ha4.size);have HA7:=Kb (HA4.out.below hB7);have U7:=U4.next hb7;have R7:=R3.next (Kd hb4 hB7))
         | fail)
        obtain ⟨U,hU⟩:=Ka w4.heap.size
        rw [hU] at U7
        try rw [hU]
        have hsU:s0≠U:=by have:=HA4.out.f.env.ls;omega
        clear hU R3 U4 ul4 rl3 rl zl r_ u0 u1 u2 u3 u4 u5 R2 S1 ha4 hB7 hb7 hb4 hb3 HA4 HA3
        clear z_
        have r_:=R7.o8
        have u0:=U7.c 0 rfl;have u1:=U7.c 1 rfl;have u2:=U7.c 2 rfl;have u3:=U7.c 3 rfl;have u4:=U7.c 4 rfl;have u5:=U7.c 5 rfl
        have rl7:=R7.lt
        have ul7:=U7.lt
        obtain ⟨S2,hS2⟩:∃ S2:FSt,{ putU S (ra,rb,rc,rd,re,rf) with sm:=S.me }=S2:=⟨_,rfl⟩
        have hok2:SOk S2:=by rw [<-hS2];exact HSK0.out.putU HPU.out _
        have HSK:=Kb hok2
        have HS20:Hid (S2.ho=0):=Kb (by rw [<-hS2];exact HH0.out)
        have HS2:Hid ({ { S with a:=bs ra,b:=bs rb,c:=bs rc,d:=bs rd,e:=bs re,f:=bs rf } with sm:=S.me }=S2):=Kb hS2
        have hzu:USize 40000 (bs ra) (bs rb) (bs rc) (bs rd) (bs re) (bs rf):=(show SOk { putU S (ra,rb,rc,rd,re,rf) with sm:=S.me } from HSK0.out.putU HPU.out _).u4
        rw [hS2] at hwo
        obtain ⟨O,hO⟩:=Ka (bs (orgL (u6 (bs ra) (bs rb) (bs rc) (bs rd) (bs re) (bs rf))))
        have CO:=Kb (fun (w':World) (hM:MaxAt w')=>origin_is (bs ra) (bs rb) (bs rc) (bs rd) (bs re) (bs rf) O w' hzu.a hzu.b hzu.c hzu.d hzu.e hzu.f hM (by rw [<-hO];rfl))
        obtain ⟨b0,hb0⟩:=Ka (O.toList == S.og.toList)
        have hfg:fgB (putU S (ra,rb,rc,rd,re,rf)) = !b0:=by
         show (!(orgL (u6 (bs ra) (bs rb) (bs rc) (bs rd) (bs re) (bs rf)) == S.og.data.toList)) = !b0
         rw [<-hb0,<-hO,Kt,Kt,bs_list]
        rw [hfg] at hwo
        clear hS2 hok2 hzu hO hfg
        by_cases h3:S.mo=2
        ·have h2b:(S.mo == 2)=true:=by rw [h3];rfl
         rw [Kx h3] at hwo
         clear h3
         have HWO:=Kb hwo
         clear hwo
         go_region_held3 (fun w'=>w'.cell? ⟨R,4,none⟩=some (.int .i64 S.mo)/\w'.cell? ⟨R,3,none⟩=some (.string S.og)/\w'.cell? ⟨U,0,none⟩=some (.string (bs ra))/\w'.cell? ⟨U,1,none⟩=some (.string (bs rb))/\w'.cell? ⟨U,2,none⟩=some (.string (bs rc))/\w'.cell? ⟨U,3,none⟩=some (.string (bs rd))/\w'.cell? ⟨U,4,none⟩=some (.string (bs re))/\w'.cell? ⟨U,5,none⟩=some (.string (bs rf)))
          (first | exact ru8_mk R7 U7 (Kc w7).drew | exact ru8_mk R7 U7 h78 | go_keep)
          (first | ((with_reducible refine (CO.out w7.drew (HA7.out.f.env.mx.below (Kc w7).drew lr)).mono ?_);rintro e8 w8 ⟨rfl,hbb8⟩;have h78:Below w7.heap.size w7 w8:=(Below.refl w7.heap.size w7).drew.trans hbb8) | fail)
         cases b0 with
         | false=>
           have HA5:=Kb (HA7.out.below h78)
           have HE:Hid (failO S C 15=o):=Kb (by rw [<-HWO.out,Kf (by decide)])
           exact N55
         | true=>
           have HE:Hid (sendF J now 11 S2 C=o):=Kb (by rw [<-HWO.out,Ke (by decide)])
           exact M7
        ·have h2b:(S.mo == 2)=false:=Ki.2 h3
         rw [Kj h3] at hwo
         clear h3
         have HE:Hid (sendF J now 11 S2 C=o):=Kb (by rw [<-hwo,Ke (by simp)])
         clear hwo
         go_quiet (fail)
         obtain ⟨w8,hw8⟩:∃ w8:World,w7.drewN nq=w8:=⟨_,rfl⟩
         have h78:Below w7.heap.size w7 w8:=by rw [<-hw8];exact drewn_below _ _ _
         rw [hw8]
         clear hw8
         exact M7
theorem N63{p:Prop}(h:p:=by
 have hl:(loadCells ⟨k,0,none⟩ vs.length).run P W = .ok vs.toArray W:=run_loadCells_list (P:=P) W ⟨k,0,none⟩ vs (fun j v hv=>by rw [Addr.add_lit,Jm];exact hA.c j hv);have hl2:(loadCellsFrom ⟨k,0,none⟩ 0 vs.length #[]).run P W = .ok vs.toArray W:=by simpa [loadCells] using hl
 first
  |rw [Xg] at h2 h3;simp [results,hr,h2,h3,go_sem,ha,hz,hl2]
  |have hm:(loadCells ⟨k2,0,none⟩ us.length).run P W = .ok us.toArray W:=run_loadCells_list (P:=P) W ⟨k2,0,none⟩ us (fun j v hv=>by rw [Addr.add_lit,Jm];exact hB.c j hv);have hm2:(loadCellsFrom ⟨k2,0,none⟩ 0 us.length #[]).run P W = .ok us.toArray W:=by simpa [loadCells] using hm
   rw [Xg] at h2 h3 h4;simp [results,hr,h2,h3,h4,go_sem,ha,hz,hl2,ha2,hz2,hm2]
 ):p:=h
theorem retct_run {P:Program}{fn:Func}{q T r:Nat}(hr:fn.results = #[.cell q T,.tmp r]){vs:List Value}(hz:∀ w,(Go.sizeOf T).run P w = .ok vs.length w)(ha:∀ w,(isAgg T).run P w = .ok true w)(tmps:Array Value)(W:World)(k:Nat)(x:Value)(h2:tmps.getD q undef = .pointer (some ⟨k,0,none⟩))(h3:tmps.getD r undef=x)(hA:AtL W k vs):
 (results fn tmps).run P W = .ok (.tuple #[.agg vs.toArray,x]) W:=by
 exact N63
theorem AtL.setsFrom {k:Nat}:∀ {W:World} {o:Nat} (pre rest vs:List Value),AtL W k (pre ++ rest)->pre.length=o->vs.length=rest.length->AtL (W.setCells k o vs) k (pre ++ vs)
 | W,o,pre,[],[],h,_,_=>h
 | W, o, pre, r :: rs, v :: vs, h, ho, hl => by
   have h1:AtL (W.setCell ⟨k,o,none⟩ v) k (pre ++ v :: rs):=by
    have h2:=h.set o v
    rw [List.set_append,Ke (by omega),show o - pre.length=0 by omega] at h2
    exact h2
   have h3:AtL (W.setCell ⟨k,o,none⟩ v) k ((pre ++ [v]) ++ rs):=by simpa using h1
   have h4:=AtL.setsFrom (o:=o+1) (pre ++ [v]) rs vs h3 (by simp [ho]) (by simpa using hl)
   simpa [World.setCells] using h4
theorem AtL.sets {k:Nat}{W:World}{vs us:List Value}(h:AtL W k us)(hl:vs.length=us.length):AtL (W.setCells k 0 vs) k vs:=AtL.setsFrom [] us vs h rfl hl
theorem AtL.farSets {k q:Nat}{ls:List Value}(hk:k≠q):∀ {W:World} {o:Nat} (vs:List Value),AtL W q ls->AtL (W.setCells k o vs) q ls
 | _,_,[],h=>h
 | _,_,_ :: vs,h=>AtL.farSets hk vs (h.far _ _ hk)
theorem Below.sets {B k:Nat}{w:World}(hp:B<=k):∀ {W:World} {o:Nat} (vs:List Value),Below B w W->Below B w (W.setCells k o vs)
 | _,_,[],h=>h
 | _,_,_ :: vs,h=>Below.sets hp vs (h.setCell (p:=⟨k,_,none⟩) hp _)
theorem AtL.range {W:World}{k:Nat}{vs:List Value}(h:AtL W k vs):W.rangeAt k 0 vs:=fun j v hv=>by rw [Jm];exact h.c j hv
theorem AtL.there {W:World}{k:Nat}{vs:List Value}(h:AtL W k vs)(n:Nat)(hn:n=vs.length):W.there k 0 n:=fun j hj=>by
 subst hn
 rw [Jm]
 exact ⟨by rw [h.c j (Jd hj)];rfl,h.f j (Jd hj)⟩
theorem wpList_load_at {P:Program}{ops:Array Oper}{rest:List Oper}{op:Oper}{a:Act}{w:World}{Q:Exit->Act->World->Prop}(hgd:op.guard=none)(ty:TypeId)(x:Operand)(ho:op.op = .load ty x)(b:Nat)(hx:a.eval x = .pointer (some ⟨b,0,none⟩)){cs:List Value}(hA:AtL w b cs){d:TypeDesc}(hu:P.underlying ty=some d)(hd:d.isRow=true)(hi:(P.info? ty).map (·.size)=some cs.length)
 (h:wpList P ops Q rest (a.put op.dst (.agg cs.toArray)) w):wpList P ops Q (op :: rest) a w:=wpList_load_mid hgd ty x ho b 0 hx cs d hA.range hu hd hi h
theorem wpList_store_at {P:Program}{ops:Array Oper}{rest:List Oper}{op:Oper}{a:Act}{w:World}{Q:Exit->Act->World->Prop}(hgd:op.guard=none)(ty:TypeId)(x y:Operand)(ho:op.op = .store ty x y)(b:Nat)(cs:List Value)(hx:a.eval x = .pointer (some ⟨b,0,none⟩))(hy:a.eval y = .agg cs.toArray){us:List Value}(hA:AtL w b us)(hl:cs.length=us.length)(hi:(P.info? ty).map (·.size)=some cs.length)(h1:cs.all (·.oneCell')=true)
 (h:wpList P ops Q rest (a.put op.dst undef) (w.setCells b 0 cs)):wpList P ops Q (op :: rest) a w:=
 wpList_store_mid hgd ty x y ho b 0 cs.toArray hx hy (by simpa using hA.there _ hl) (by simpa using hi) (all_oneCell_toArray (Jv.1 h1)) h
def MuP (jb cb:Nat)(vj vc:Value)(b:Nat):Prop:=b=jb\/b=cb\/vj.ownBlock=some b\/vc.ownBlock=some b
structure EnvP [Prot](w:World)(jb cb B:Nat)(vj vc:Value)(J:List Ck)(nx:Int)(lx:List Ee):Prop where
 mx:MaxAt w
 gm:0<B
 bj:B<=jb
 bc:B<=cb
 jc:jb≠cb
 jar:JarIn w jb B vj J nx
 ca:CaIn w cb B vc lx
 jcb:vj.ownBlock≠some cb
 cj:vc.ownBlock≠some jb
 jr:∀ g,vj.ownBlock=some g->vc.ownBlock≠some g
 far:∀ x∈lx,FarM (Px (MuP jb cb vj vc)) x.2.va x.1.vv/\FarM (Px (MuP jb cb vj vc)) x.2.hd x.1.hv
 px:∀ b,Prot.x b->b<w.heap.size
section
variable {w w' : World} {s0 jb cb B R : Nat} {vj vc : Value} {J : List Ck} {nx : Int} {lx : List Ee} {X : Nat → Prop}
theorem EnvP.lj [Prot](h:EnvP w jb cb B vj vc J nx lx):jb<w.heap.size:=h.jar.at_.lt
theorem EnvP.lc [Prot](h:EnvP w jb cb B vj vc J nx lx):cb<w.heap.size:=h.ca.at_.lt
theorem EnvP.mlt [Prot](h:EnvP w jb cb B vj vc J nx lx):∀ b,MuP jb cb vj vc b->b<w.heap.size:=by
 rintro b (rfl | rfl | e | e)
 ·exact h.lj
 ·exact h.lc
 ·exact (h.jar.own.lt b e).2
 ·exact (h.ca.own.lt b e).2
theorem EnvP.mk' [Prot](h:EnvP w jb cb B vj vc J nx lx)(k:Below w.heap.size w w')(h1:w.heap.size<=s0)(h2:s0<w'.heap.size)(hX:∀ b,X b->Prot.x b\/w.heap.size<=b)(hX2:∀ b,X b->b<w'.heap.size): @EnvIn ⟨X⟩ w' s0 jb cb B vj vc J nx lx:=by
 have hj:=h.lj;have hc:=h.lc;have hbj:=h.bj;have far:∀ (hs:List Hd) (u:Value),SlK hdC 2 w u hs->FarM (Px (MuP jb cb vj vc)) hs u->FarM (@Px ⟨X⟩ (Mu s0 jb cb vj vc)) hs u:=fun hs u hs1 hf h0 b off n c e hm=>by
  have hb:=slk_lt hs1 h0 e;rcases hm with (e1 | e1) | e1
  ·omega
  ·exact hf h0 b off n c e (.inl e1)
  ·rcases hX b e1 with e2 | e2
   ·exact hf h0 b off n c e (.inr e2)
   ·omega
 exact @EnvIn.mk ⟨X⟩ w' s0 jb cb B vj vc J nx lx (h.mx.below k lr) h.gm (by omega) h.bj h.bc h2 (by omega) (by omega) h.jc (h.jar.below k lr) (h.ca.below k lr) (fun e=>by have:=(h.jar.own.lt _ e).2;omega) h.jcb (fun e=>by have:=(h.ca.own.lt _ e).2;omega) h.cj h.jr
  (fun x hx=>⟨far _ _ (h.ca.rd x hx).va (h.far x hx).1,far _ _ (h.ca.rd x hx).hd (h.far x hx).2⟩) hX2
theorem EnvP.of [Prot](h : @EnvIn ⟨X⟩ w s0 jb cb B vj vc J nx lx)(hX:∀ b,Prot.x b->X b)(hR:X R)(hRM:¬ Mu s0 jb cb vj vc R)(hRB:B<=R)(k:Kp w.heap.size (fun b=>b=R) w w'):EnvP w' jb cb B vj vc J nx lx:=by
 obtain ⟨hmx,hgm,hbs,hbj,hbc,hls,hsj,hsc,hjc,hjar,hca,hjs,hjcb,hcs,hcj,hjr,hfar,hpx⟩:=h;have lj:=hjar.at_.lt;have lc:=hca.at_.lt;have lG:0<w.heap.size:=by omega
 refine ⟨?_,hgm,hbj,hbc,hjc,⟨hjar.at_.kp k lj (fun e=>hRM (.inr (.inl e.symm))),own_kp hjar.own k lr (fun g hg e=>hRM (.inr (.inr (.inr (.inl (e ▸ hg)))))),hjar.ne,Kg hjar.le k.size⟩,⟨hca.at_.kp k lc (fun e=>hRM (.inr (.inr (.inl e.symm)))),own_kp hca.own k lr (fun g hg e=>hRM (.inr (.inr (.inr (.inr (e ▸ hg)))))),hca.ne,Kg hca.le k.size,fun x hx=>?_,hca.far⟩,hjcb,hcj,hjr,fun x hx=>⟨fun h0 b off n c e hm=>?_,fun h0 b off n c e hm=>?_⟩,fun b hb=>Ko (hpx b (hX b hb)) k.size⟩
 ·obtain ⟨m,hm⟩:=hmx;exact ⟨m,(k.cell (b:=0) (o:=0) lG (fun e=>by have:=hgm;omega)).trans hm⟩
 ·have hr:=hca.rd x hx;have hf:=hfar x hx;exact ⟨hr.u,hr.st,hr.bo,hr.ti,slk_kp hr.va (fun h0 b off n c e hm=>hf.1 h0 b off n c e (.inr (by rw [show b=R from hm];exact hR))) k lr,slk_kp hr.hd (fun h0 b off n c e hm=>hf.2 h0 b off n c e (.inr (by rw [show b=R from hm];exact hR))) k lr⟩
 ·exact (hfar x hx).1 h0 b off n c e (hm.imp .inr (hX b))
 ·exact (hfar x hx).2 h0 b off n c e (hm.imp .inr (hX b))
theorem hs_of [Prot]{u:Value}{hs:List Hd}(h : @Hs ⟨X⟩ (Mu s0 jb cb vj vc) w u hs)(hX:∀ b,Prot.x b->X b)(hR:X R)(k:Kp w.heap.size (fun b=>b=R) w w'):Hs (MuP jb cb vj vc) w' u hs:=
 ⟨slk_kp h.1 (fun h0 b off n c e hm=>h.2 h0 b off n c e (.inr (by rw [show b=R from hm];exact hR))) k lr,fun h0 b off n c e hm=>h.2 h0 b off n c e (hm.imp .inr (hX b))⟩
theorem evs_of [Prot]{n:Nat}{v:Value}{l:List (Value × Ev)}{evs:List Ev}(h : @Evs ⟨X⟩ (Mu s0 jb cb vj vc) n w v l evs)(hX:∀ b,Prot.x b->X b)(hR:X R)(hn:R<n)(k:Kp w.heap.size (fun b=>b=R) w w'):Evs (MuP jb cb vj vc) n w' v l evs:=
 ⟨@Evs.eq ⟨X⟩ _ _ _ _ _ _ h,own_kp (@Evs.own ⟨X⟩ _ _ _ _ _ _ h) k lr (fun g hg e=>by have:=own_base (@Evs.own ⟨X⟩ _ _ _ _ _ _ h) hg;omega),fun g hg e=>@Evs.far ⟨X⟩ _ _ _ _ _ _ h g hg (.inr e),fun r hr=>hs_of (@Evs.hs ⟨X⟩ _ _ _ _ _ _ h r hr) hX hR k⟩
def BeginR [Prot](w:World)(jb cb B:Nat)(vj:Value)(J:List Ck)(nx:Int)(vc:Value)(o:Out)(x:Ending)(w':World):Prop:=
 ∃ (va : Option Addr) (vk : Nat) (wa : Option Addr) (wk : Nat) (v : Value) (l : List (Value × Ev)) (vc' : Value) (lx : List Ee), x = .returned (.tuple #[.agg (fsV o.s (.slice va o.s.qh.length vk) (.slice wa o.s.hs.length wk)).toArray, v]) ∧ EnvP w' jb cb B vj vc' J nx lx ∧ lx.map (·.2) = o.c ∧ Hs (MuP jb cb vj vc') w' (.slice va o.s.qh.length vk) o.s.qh ∧ Hs (MuP jb cb vj vc') w' (.slice wa o.s.hs.length wk) o.s.hs ∧
   Evs (MuP jb cb vj vc') w.heap.size w' v l o.ev/\Kp w.heap.size (MuP jb cb vj vc) w w'/\(∀ b,b<w.heap.size->MuP jb cb vj vc' b->MuP jb cb vj vc b)/\(o.s.ph=1\/o.s.ph=2->∃ a n,v = .slice a n n)
theorem BeginR.of [Prot]{w0 w6 w9:World}{o:Out}{x:Ending}(hX:∀ b,Prot.x b->X b)(hR:X R)(hRB:B<=R)(hR6:R<w6.heap.size)(h06:Below w0.heap.size w0 w6)(hs0:w0.heap.size<=s0)(hR0:w0.heap.size<=R)(hRs:R≠s0)(hm:∀ b,MuP jb cb vj vc b->b<w0.heap.size)(q : @StepQ ⟨X⟩ w6 s0 jb cb B vj J nx vc o x w9):
 ∃ (va:Option Addr) (vk:Nat) (wa:Option Addr) (wk:Nat) (v:Value),x = .returned v/\AtL w9 s0 (fsV o.s (.slice va o.s.qh.length vk) (.slice wa o.s.hs.length wk))/\¬ Mu s0 jb cb vj vc R/\Kp w6.heap.size (Mu s0 jb cb vj vc) w6 w9/\∀ w',Kp w9.heap.size (fun b=>b=R) w9 w'->BeginR w0 jb cb B vj J nx vc o (.returned (.tuple #[.agg (fsV o.s (.slice va o.s.qh.length vk) (.slice wa o.s.hs.length wk)).toArray,v])) w':=by
 obtain ⟨v,l,vc',lx',rfl,F9,hc9,ev9,K9,M9,hfull⟩:=q;obtain ⟨E9,va,vk,wa,wk,S9,hq9,hh9⟩:=F9;have hRM:∀ vc,(∀ b,b<w6.heap.size->Mu s0 jb cb vj vc b->Mu s0 jb cb vj vc b)->True:=fun _ _=>trivial;have hn0:¬ Mu s0 jb cb vj vc R:=by
  rintro (e | e)
  ·exact hRs e
  ·have:=hm R e;omega
 have hn9:¬ Mu s0 jb cb vj vc' R:=fun e=>hn0 (M9 R hR6 e);refine ⟨va,vk,wa,wk,v,rfl,S9,hn0,K9,fun w' k=>⟨va,vk,wa,wk,v,l,vc',lx',rfl,EnvP.of E9 hX hR hn9 hRB k,hc9,hs_of hq9 hX hR k,hs_of hh9 hX hR k,?_,?_,fun b hb e=>?_,hfull⟩⟩
 ·have h:=evs_of ev9 hX hR hR6 k;exact ⟨h.eq,own_mono h.own h06.size,h.far,h.hs⟩
 ·refine ⟨k.os.trans (K9.os.trans h06.os),k.tape.trans (K9.tape.trans h06.tape),k.output.trans (K9.output.trans h06.output),Kg h06.size (Kg K9.size k.size),fun b hb hn=>?_⟩;have h1:=h06.block b hb;have hb6:b<w6.heap.size:=Ko hb h06.size;have h2:=K9.block b hb6 (by
   rintro (e | e)
   ·omega
   ·exact hn e)
  have h3:=k.block b (Ko hb6 K9.size) (by intro e;have e:b=R:=e;omega);rw [h3,h2,h1]
 ·rcases M9 b (Ko hb h06.size) (.inr e) with e2 | e2
  ·omega
  ·exact e2
end
abbrev fz:List Value:=fsC 0 ⟨#[]⟩ ⟨#[]⟩ ⟨#[]⟩ 0 (.slice none 0 0) ⟨#[]⟩ false 0 ⟨#[]⟩ ⟨#[]⟩ ⟨#[]⟩ ⟨#[]⟩ ⟨#[]⟩ ⟨#[]⟩ ⟨#[]⟩ 0 false false 0 (.slice none 0 0) ⟨#[]⟩ 0
theorem Kp.setsR {n R:Nat}{w:World}(o:Nat)(vs:List Value):Kp n (fun b=>b=R) w (w.setCells R o vs):=Kp.sets (M:=fun b=>b=R) (.inl rfl) vs (Kp.refl n _ w)
theorem Begin_is [Prot]{w:World}{jb cb B:Nat}{vj vc:Value}{J:List Ck}{nx:Int}{lx:List Ee}{n m:Nat}(E:EnvP w jb cb B vj vc J nx lx)(tk:Int)(me ur og:ByteArray)(mo:Int)(vq:Value)(qh:List Hd)(qb:ByteArray)(ck:Bool)(hq:SlK hdC 2 w vq qh)(hS:SOk (newS tk me ur og mo qh qb ck))(hJ:JOk J)(hC:COk n m (lx.map (·.2)))(hn:n<=880)(hm:m<=800)(now:Int)(o:Out)(ho:beginF J now (newS tk me ur og mo qh qb ck) (lx.map (·.2))=o):
 Calls Tryz.prog 30 #[.agg #[.int .i64 tk,.string me,.string ur,.string og,.int .i64 mo,vq,.string qb,.bool ck],envA jb cb now] w (BeginR w jb cb B vj J nx vc o):=by
 obtain ⟨qa,qc,rfl,_⟩:=hq.shape;have hql:qh.length<=1000000:=by have:=hS.ql;have e:(newS tk me ur og mo qh qb ck).qh=qh:=rfl;rw [e] at this;omega
 have hcw:=E.lc;have hBj:=E.bj;have hlj:=E.lj;have hal1:=(Kc w).alloc lr (.cells [.int .i64 tk,.string me,.string ur,.string og,.int .i64 mo,.slice qa qh.length qc,.string qb,.bool ck].toArray 30);have hal2:=hal1.alloc (by simp) (.cells [.pointer (some ⟨jb,0,none⟩),.pointer (some ⟨cb,0,none⟩),.int .i64 now].toArray 83);have hal3:=hal2.alloc (by simp;omega) (.cells fz.toArray 40);have RB3:=((AtL.new w [.int .i64 tk,.string me,.string ur,.string og,.int .i64 mo,.slice qa qh.length qc,.string qb,.bool ck] 30).alloc (.cells [.pointer (some ⟨jb,0,none⟩),.pointer (some ⟨cb,0,none⟩),.int .i64 now].toArray 83)).alloc (.cells fz.toArray 40);have VB3:=(AtL.new (w.alloc (.cells [.int .i64 tk,.string me,.string ur,.string og,.int .i64 mo,.slice qa qh.length qc,.string qb,.bool ck].toArray 30)) [.pointer (some ⟨jb,0,none⟩),.pointer (some ⟨cb,0,none⟩),.int .i64 now] 83).alloc (.cells fz.toArray 40);have RE3:=AtL.new ((w.alloc (.cells [.int .i64 tk,.string me,.string ur,.string og,.int .i64 mo,.slice qa qh.length qc,.string qb,.bool ck].toArray 30)).alloc (.cells [.pointer (some ⟨jb,0,none⟩),.pointer (some ⟨cb,0,none⟩),.int .i64 now].toArray 83)) fz 40;rw [show (w.alloc (.cells [.int .i64 tk,.string me,.string ur,.string og,.int .i64 mo,.slice qa qh.length qc,.string qb,.bool ck].toArray 30)).heap.size=w.heap.size+1 by simp] at VB3;rw [show ((w.alloc (.cells [.int .i64 tk,.string me,.string ur,.string og,.int .i64 mo,.slice qa qh.length qc,.string qb,.bool ck].toArray 30)).alloc (.cells [.pointer (some ⟨jb,0,none⟩),.pointer (some ⟨cb,0,none⟩),.int .i64 now].toArray 83)).heap.size=w.heap.size+1+1 by simp] at RE3;have CCl:=Kb (fun (w':World) (hb:Below w.heap.size w w')=>clo_is qh (.slice qa qh.length qc) w' (hq.below hb lr) hql);have CB:=Kb (fun (X:Nat->Prop) (w':World) (s0:Nat) (F : @FIn ⟨X⟩ w' s0 jb cb B vj J nx vc lx (newS tk me ur og mo qh qb ck))=>@begin_is ⟨X⟩ w' s0 jb cb B vj J nx vc lx (newS tk me ur og mo qh qb ck) n m F hS hJ hC hn hm rfl now o ho);have HE:=Kb E;have r_:=RB3.o8;have rl3:=RB3.lt;clear hS hJ hC ho hq hql E;go_enter Tryz.func30,Tryz.ntmps30
 go_upto_region 3 with (first
  | ((with_reducible refine (CCl.out _ hal3).mono ?_);rintro e4 w4 hq4;obtain ⟨vx,vk,rfl,hs4,hb4,hn4⟩:=cloq_open hq4;have RB4:=RB3.next hb4;have VB4:=VB3.next hb4;have RE4:=RE3.next hb4;have hB4:=hal3.trans (hb4.mono hal3.size);clear r_;have r_:=RB4.o8;have g_:=RB4.of8;have rl4:=RB4.lt;have Z6:=AtL.new (w4.setCell ⟨w.heap.size,5,none⟩ (.slice vx qh.length vk)) fz 40;rw [World.size_setCell] at Z6)
  | (refine wpList_store_at rfl 40 _ _ rfl w4.heap.size (fsV (newS tk me ur og mo qh qb ck) (.slice vx qh.length vk) (.slice none 0 0)) rfl rfl Z6 rfl (by kernel_rfl) rfl ?_)
  | fail)
 have RB5:=RB4.set 5 (.slice vx qh.length vk);have VB5:=VB4.far ⟨w.heap.size,5,none⟩ (.slice vx qh.length vk) (by simp);have RE5:=RE4.far ⟨w.heap.size,5,none⟩ (.slice vx qh.length vk) (by show w.heap.size≠w.heap.size+1+1;omega);have hB5:=hB4.setCell (p:=⟨w.heap.size,5,none⟩) lr (.slice vx qh.length vk);have hs4z:=hB4.size;have hws4:=RE4.lt;have hB6:=Below.sets (k:=w4.heap.size) hs4z (o:=0) (fsV (newS tk me ur og mo qh qb ck) (.slice vx qh.length vk) (.slice none 0 0)) (hB5.alloc (by rw [World.size_setCell];exact hB4.size) (.cells fz.toArray 40));have VB6:=AtL.farSets (k:=w4.heap.size) (by omega) (o:=0) (fsV (newS tk me ur og mo qh qb ck) (.slice vx qh.length vk) (.slice none 0 0)) (VB5.alloc (.cells fz.toArray 40));have RE6:=AtL.farSets (k:=w4.heap.size) (by omega) (o:=0) (fsV (newS tk me ur og mo qh qb ck) (.slice vx qh.length vk) (.slice none 0 0)) (RE5.alloc (.cells fz.toArray 40));have S6:=AtL.sets (vs:=(fsV (newS tk me ur og mo qh qb ck) (.slice vx qh.length vk) (.slice none 0 0))) Z6 rfl;have K46:=Kp.sets (n:=w4.heap.size) (M:=fun b=>b=w.heap.size) (k:=w4.heap.size) (.inr lr) (o:=0) (fsV (newS tk me ur og mo qh qb ck) (.slice vx qh.length vk) (.slice none 0 0)) (((Kp.refl w4.heap.size (fun b=>b=w.heap.size) w4).setCell ⟨w.heap.size,5,none⟩ (.inl rfl) (.slice vx qh.length vk)).below ((Kc _).alloc lr (.cells fz.toArray 40)) (by rw [World.size_setCell];exact lr));have hs6:=slk_kp hs4 (fun _ b off n k e (hm:b=w.heap.size)=>by have:=hn4 b off n k e;simp at this;omega) K46 lr;obtain ⟨w6,hw6⟩:∃ w6:World,((w4.setCell ⟨w.heap.size,5,none⟩ (.slice vx qh.length vk)).alloc (.cells fz.toArray 40)).setCells w4.heap.size 0 (fsV (newS tk me ur og mo qh qb ck) (.slice vx qh.length vk) (.slice none 0 0))=w6:=⟨_,rfl⟩
 obtain ⟨s0,hs0⟩:=Ka w4.heap.size;have hws:w.heap.size+1+1<s0:=by omega
 rw [hw6] at hB6 VB6 RE6 S6 hs6;rw [hs0] at S6;rw [hw6,hs0];have F6 : @FIn ⟨fun b=>Prot.x b\/b=w.heap.size+1+1⟩ w6 s0 jb cb B vj J nx vc lx (newS tk me ur og mo qh qb ck):=by
  have hEn:=HE.out.mk' (X:=fun b=>Prot.x b\/b=w.heap.size+1+1) hB6 (by omega) S6.lt (fun b h=>h.imp id fun e=>by omega) (fun b h=>by
   rcases h with h | h
   ·have:=HE.out.px b h;have:=hB6.size;omega
   ·rw [h];exact RE6.lt)
  refine @FIn.mk ⟨fun b=>Prot.x b\/b=w.heap.size+1+1⟩ _ _ _ _ _ _ _ _ _ _ _ hEn ⟨vx,vk,none,0,S6,⟨hs6,fun _ b off n k e hm=>?_⟩,@Hs.nil ⟨fun b=>Prot.x b\/b=w.heap.size+1+1⟩ _ _⟩;have h1:=hn4 b off n k e;have h2:b<s0:=by rw [<-hs0];exact slk_lt hs4 ‹_› e
  simp at h1;rcases hm with (h | h) | h | h
  ·omega
  ·have:=HE.out.mlt b h;omega
  ·have:=HE.out.px b h;omega
  ·omega
 have CB6:=Kb (CB.out _ w6 s0 F6);have HB6:=Kb hB6;have HM:=Kb HE.out.mlt;clear hw6 hs0 Z6 hws4 VB3 VB4 VB5 RE3 RE4 RE5 RB3 RB4 hB4 hB5 hB6 hb4 hs4 hn4 hal1 hal2 hal3 rl3 rl4 r_ g_ F6 CB K46 hs6 RB5 S6;have v_:=VB6.o3;have vl6:=VB6.lt
 go_wp2_with (first
  | ((with_reducible refine CB6.out.mono ?_);rintro e9 w9 hq9;obtain ⟨va9,vk9,wa9,wk9,v9,rfl,S9,hn9,K9,HFIN⟩:=BeginR.of (fun b h=>.inl h) (.inr rfl) (by omega) RE6.lt HB6.out (by omega) (by omega) (by omega) HM.out hq9;have HF:=Kb HFIN;clear HFIN;have RE9:=RE6.kp K9 RE6.lt hn9)
  | (refine wpList_load_at rfl 40 _ rfl s0 rfl S9 Tryz.underlying40 rfl (by kernel_rfl) ?_)
  | (refine wpList_store_at rfl 40 _ _ rfl (w.heap.size+1+1) (fsV o.s (.slice va9 o.s.qh.length vk9) (.slice wa9 o.s.hs.length wk9)) rfl rfl RE9 rfl (by kernel_rfl) rfl ?_)
  | fail)
 have A:=AtL.sets (vs:=fsV o.s (.slice va9 o.s.qh.length vk9) (.slice wa9 o.s.hs.length wk9)) RE9 rfl;exact bodyPost_ret (retct_run (vs:=fsV o.s (.slice va9 o.s.qh.length vk9) (.slice wa9 o.s.hs.length wk9)) Tryz.results30 Tryz.sizeOf40 Tryz.isAgg40 _ _ _ _ rfl rfl A) rfl (HF.out _ (Kp.setsR 0 _))
abbrev okH44 (h:Hd):Bool:=decide (h.1.size+h.2.size<=300)
def attrB44 (l:List Hd):Bool:=l.all okH44 && decide (l.length<=8)
theorem attrB44_sz {l:List Hd}(h:attrB44 l=true):HdSz l/\l.length<=8:=by unfold attrB44 at h;rw [Jh,Jv,Jb] at h;have h1:∀ x∈l,x.1.size+x.2.size<=300:=fun x hx=>Xh (h.1 x hx);exact ⟨⟨by omega,fun x hx=>by have:=h1 x hx;omega⟩,h.2⟩
theorem attrs44_is (l:List Hd)(v:Value)(w:World)(hv:SlK hdC 2 w v l)(hz:WtH l)(R:Bool)(hR:attrB44 l=R):
 Calls Tryz.prog 22 #[v] w fun e w'=>e = .returned (.bool R)/\Below w.heap.size w w':=by
 have HR:=Kb hR;have HZ:=Kb hz;have hle:l.length<=9223372036854775807:=by
  rcases hv with ⟨rfl,_⟩ | ⟨_,b0,off,cap,he,hc1,hc2,hc3,hcell⟩
  ·exact Kh _
  ·unfold maxLen at hc2;omega
 have HC:Hid (0<l.length->∃ b0 off cap:Nat,v = .slice (some ⟨b0,off,none⟩) l.length cap/\b0<w.heap.size/\∀ kk (h:kk<l.length) j u,(hdC l[kk])[j]? = some u->w.cell? ⟨b0,off+kk * 2+j,none⟩=some u):=Kb (by
  intro h0;rcases hv with ⟨rfl,_⟩ | ⟨_,b0,off,cap,he,hc1,hc2,hc3,hcell⟩
  ·simp at h0
  ·exact ⟨b0,off,cap,he,hc3,hcell⟩)
 obtain ⟨sa,sc,rfl,_⟩:=hv.shape;clear hv hR hz;go_enter Tryz.func22,Tryz.ntmps22;go_wp2_with fail;go_loopw [7] (fun iv wr=>∃ k:Nat,k<=l.length/\iv = .int .i64 k/\Hid ((l.take k).all okH44=true)/\Below w.heap.size w wr) (fun iv _=>l.length - (intOf iv).toNat);case atStart=>exact ⟨0,Kh _,rfl,Kb rfl,Kc _⟩
 case round=>
  obtain ⟨kk,hk,rfl,HA,hbw⟩:=hrel;by_cases hlt:kk<l.length
  ·obtain ⟨b0,off,cap,he,hb0,hcell⟩:=HC.out (by omega);injection he with e1 e2 e3;subst e1 e3;have cc:∀ j u,(hdC l[kk])[j]? = some u->wr.cell? ⟨b0,off+kk * 2+j,none⟩=some u:=fun j u hu=>(brl hbw _ _ hb0).trans (hcell kk hlt j u hu);have hzz:=HZ.out _ (Ky hlt);have hst:(l.take (kk+1)).all okH44=okH44 l[kk]:=by rw [Jf hlt,List.all_append,HA.out];simp
   have hmem:l[kk]∈l:=Ky hlt;obtain ⟨y,hy⟩:=Ka (l[kk]);rw [hy] at cc hzz hst hmem;clear hy hcell e2;obtain ⟨yn,yv⟩:=y;have hz1:yn.size<=140737488355328:=hzz.1;have hz2:yv.size<=140737488355328:=hzz.2;have c0:=cc 0 _ rfl;have c1:=cc 1 _ rfl;simp only [Ku] at c0;have HST:=Kb hst;have HMEM:=Kb hmem;clear cc hzz hst hmem;have hki:(kk:Int)<(l.length:Int):=by omega
   have hal:Below w.heap.size w (wr.alloc (.cells #[.string yn,.string yv] 70)):=hbw.alloc hbw.size _;by_cases hbig:yn.size+yv.size<=300
   ·have g1:¬ (300:Int)<(yn.size:Int)+(yv.size:Int):=by omega
    go_wp2_with fail;go_roundw;case rel=>exact ⟨kk+1,by omega,by go_num,Kb (by rw [HST.out];exact Kx hbig),hal⟩
    case measure=>simp [intOf];omega
   ·have g1:(300:Int)<(yn.size:Int)+(yv.size:Int):=by omega
    go_wp2_with fail;go_ret;refine ⟨ret_bool ?_,hal⟩;rw [<-HR.out];unfold attrB44;have:l.all okH44=false:=by rw [Bool.eq_false_iff];intro h;exact hbig (Xh (Jv.1 h _ HMEM.out))
    rw [this];rfl
  ·obtain rfl:kk=l.length:=by omega
   have hall:l.all okH44=true:=by have:=HA.out;rwa [Jq] at this
   have HALL:=Kb hall;clear hall;go_wp2_with fail;go_ret;refine ⟨ret_bool ?_,hbw⟩;rw [<-HR.out];unfold attrB44;rw [HALL.out,Bool.true_and,Zm,Jb,Jb];omega
abbrev opC (r:Value × Op4):List Value:=[.int .u8 r.2.k,.int .i64 r.2.st,r.1,.string r.2.bo]
theorem opC_len (r:Value × Op4):(opC r).length=4:=rfl
def ckB4 (c:Ck):Bool:=decide (c.n.size+c.v.size+c.d.size+c.p.size<=300)
def enB4 (e:En):Bool:=attrB44 e.hd && (attrB44 e.va && (decide (e.bo.size<=500) && decide (e.u.size<=300)))
def opB4 (o:Op4):Bool:=attrB44 o.hs && decide (o.bo.size<=500)
def few4 (J:List Ck)(nx:Int)(es:List En)(qh:List Hd)(ur og qb:ByteArray)(ops:List Op4):Bool:=
 decide (J.length<=8/\es.length<=8/\0<=nx/\nx<=1125899906842624/\ops.length<=20) && (attrB44 qh && (decide (ur.size+og.size+qb.size<=400) && (J.all ckB4 && (es.all enB4 && ops.all opB4))))
theorem slk_at {α:Type}{enc:α->List Value}{k:Nat}{w:World}{v:Value}{l:List α}(h:SlK enc k w v l):0<l.length->∃ b0 off cap:Nat,v = .slice (some ⟨b0,off,none⟩) l.length cap/\b0<w.heap.size/\∀ kk (h:kk<l.length) j u,(enc l[kk])[j]? = some u->w.cell? ⟨b0,off+kk * k+j,none⟩=some u:=by
 intro h0;rcases h with ⟨rfl,_⟩ | ⟨_,b0,off,cap,he,hc1,hc2,hc3,hcell⟩
 ·simp at h0
 ·exact ⟨b0,off,cap,he,hc3,hcell⟩
theorem slk_len {α:Type}{enc:α->List Value}{k:Nat}{w:World}{v:Value}{l:List α}(h:SlK enc k w v l):l.length<=9223372036854775807:=by
 rcases h with ⟨rfl,_⟩ | ⟨_,b0,off,cap,he,hc1,hc2,hc3,hcell⟩
 ·exact Kh _
 ·unfold maxLen at hc2;omega
abbrev mx47:Nat:=140737488355328
theorem slk_nil4 {α:Type}{enc:α->List Value}{k:Nat}(w:World):SlK enc k w (.slice none 0 0) []:=.inl ⟨rfl,none,0,rfl,Kh _⟩
structure WIn (w:World)(vj:Value)(J:List Ck)(vc:Value)(lx:List Ee):Prop where
 j:SlK ckL 9 w vj J
 c:SlK eeC 6 w vc lx
 r:∀ x∈lx,Rd w x.1 x.2
 zj:∀ c∈J,c.n.size<=mx47/\c.v.size<=mx47/\c.d.size<=mx47/\c.p.size<=mx47
 zc:∀ x∈lx,WtH x.2.va/\WtH x.2.hd
structure QIn (w:World)(ur og:ByteArray)(vq:Value)(qh:List Hd)(qb:ByteArray):Prop where
 q:SlK hdC 2 w vq qh
 z:WtH qh
 z1:ur.size<=mx47
 z2:og.size<=mx47
 z3:qb.size<=mx47
structure OIn (w:World)(vo:Value)(lo:List (Value × Op4)):Prop where
 o:SlK opC 4 w vo lo
 h:∀ x∈lo,SlK hdC 2 w x.1 x.2.hs
 z:∀ x∈lo,WtH x.2.hs
theorem WIn.below {w w':World}{vj vc:Value}{J:List Ck}{lx:List Ee}(h:WIn w vj J vc lx)(hb:Below w.heap.size w w'):WIn w' vj J vc lx:=
 ⟨h.j.below hb lr,h.c.below hb lr,fun x hx=>(h.r x hx).below hb lr,h.zj,h.zc⟩
theorem QIn.below {w w':World}{ur og:ByteArray}{vq:Value}{qh:List Hd}{qb:ByteArray}(h:QIn w ur og vq qh qb)(hb:Below w.heap.size w w'):QIn w' ur og vq qh qb:=⟨h.q.below hb lr,h.z,h.z1,h.z2,h.z3⟩
theorem OIn.below {w w':World}{vo:Value}{lo:List (Value × Op4)}(h:OIn w vo lo)(hb:Below w.heap.size w w'):OIn w' vo lo:=⟨h.o.below hb lr,fun x hx=>(h.h x hx).below hb lr,h.z⟩
theorem OIn.nil (w:World):OIn w (.slice none 0 0) []:=⟨slk_nil4 w,fun x hx=>(by cases hx),fun x hx=>(by cases hx)⟩
structure FewOk (J:List Ck)(nx:Int)(es:List En)(qh:List Hd)(ur og qb:ByteArray)(ops:List Op4):Prop where
 j:JOk J
 n1:0<=nx
 n2:nx<=1125899906842624
 c:COk 20 100 es
 q:∀ (tk:Int) (me:ByteArray) (mo:Int) (ck:Bool),SOk (newS tk me ur og mo qh qb ck)
 o:∀ o∈ops,OpOk o
 l:ops.length<=20
theorem attr_hok {l:List Hd}(h:attrB44 l=true):HOk 8 l/\∀ x∈l,x.1.size+x.2.size<=300:=by unfold attrB44 at h;rw [Jh,Jv,Jb] at h;have h1:∀ x∈l,x.1.size+x.2.size<=300:=fun x hx=>Xh (h.1 x hx);exact ⟨⟨h.2,fun x hx=>by have:=h1 x hx;exact ⟨by omega,by omega,fun _=>by omega⟩⟩,h1⟩
theorem few4_ok {J:List Ck}{nx:Int}{es:List En}{qh:List Hd}{ur og qb:ByteArray}{ops:List Op4}(h:few4 J nx es qh ur og qb ops=true):FewOk J nx es qh ur og qb ops:=by
 unfold few4 at h;simp only [Jh,Jb,Jv] at h;obtain ⟨⟨h1,h2,h3,h4,h5⟩,h6,h7,h8,h9,h10⟩:=h;have ha:=attr_hok h6;refine ⟨⟨by omega,fun c hc=>?_⟩,h3,h4,⟨by omega,fun e he=>?_⟩,fun tk me mo ck=>newS_ok (by have:=ha.1.len;omega) (fun x hx=>by have:=ha.2 x hx;omega) (by omega) (by omega),fun o ho=>?_,h5⟩
 ·have:=h8 c hc;unfold ckB4 at this;rw [Jb] at this;omega
 ·have:=h9 e he;unfold enB4 at this;simp only [Jh,Jb] at this;obtain ⟨a1,a2,a3,a4⟩:=this;exact ⟨(attr_hok a1).1.mono (by omega),(attrB44_sz a2).1,by omega⟩
 ·have:=h10 o ho;unfold opB4 at this;simp only [Jh,Jb] at this;exact ⟨(attr_hok this.1).1,by omega⟩
theorem ew3 {a b c:Nat}(h1:a<=140737488355328)(h2:b<=140737488355328)(h3:c<=140737488355328):wrap64 (wrap64 ((a:Int)+(b:Int))+(c:Int))=(a:Int)+(b:Int)+(c:Int):=by rw [IntWalk.wrap64_in ((a:Int)+(b:Int)) (by omega),IntWalk.wrap64_in ((a:Int)+(b:Int)+(c:Int)) (by omega)]
theorem ew4 {a b c d:Nat}(h1:a<=140737488355328)(h2:b<=140737488355328)(h3:c<=140737488355328)(h4:d<=140737488355328):wrap64 (wrap64 (wrap64 ((a:Int)+(b:Int))+(c:Int))+(d:Int))=(a:Int)+(b:Int)+(c:Int)+(d:Int):=by rw [ew3 h1 h2 h3,IntWalk.wrap64_in ((a:Int)+(b:Int)+(c:Int)+(d:Int)) (by omega)]
theorem N27{p:Prop}(h:p:=by
 go_wp2_with (first
  | ((with_reducible refine (CQ.out _ hb0).mono ?_);rintro e1 w1 ⟨rfl,hb1⟩;have hB0:=Kd hb0 hb1;have Q1:=Q0.next hb1;clear q_;have q_:=Q1.o8;have ql1:=Q1.lt)
  | fail)
 go_ret
 first | exact ⟨ret_bool rfl,hB0⟩ | exact ⟨ret_bool rfl,hb0⟩ | exact ⟨ret_bool rfl,by rw [<-HWW.out];exact hB0⟩ | exact ⟨ret_bool rfl,by rw [<-HWW.out];exact hb0⟩ | fail
 ):p:=h
theorem few4_n1 (w:World)(vj:Value)(J:List Ck)(nx:Int)(vc:Value)(lx:List Ee)(now tk:Int)(me ur og:ByteArray)(mo:Int)(vq:Value)(qh:List Hd)(qb:ByteArray)(ck:Bool)(vo:Value)(lo:List (Value × Op4))
 (HW:WIn w vj J vc lx) (HQ:QIn w ur og vq qh qb) (HO:OIn w vo lo)
 (h1:8<J.length) :
 Calls Tryz.prog 12 #[.agg #[vj,.int .i64 nx,vc,.int .i64 now],.agg #[.int .i64 tk,.string me,.string ur,.string og,.int .i64 mo,vq,.string qb,.bool ck],vo] w fun e w'=>e = .returned (.bool false)/\Below w.heap.size w w':=by
 obtain ⟨hj,hc,hr,hzj,hzc⟩:=HW;obtain ⟨hq,hzq,hz1a,hz1b,hz1c⟩:=HQ;obtain ⟨ho,hoh,hzo⟩:=HO;have hlj:=slk_len hj;have hlc:=slk_len hc;have hlo:=slk_len ho;have HCJ:=Kb (slk_at hj);have HCC:=Kb (slk_at hc);have HCO:=Kb (slk_at ho);obtain ⟨ja,jc,rfl,_⟩:=hj.shape;obtain ⟨ca,cc,rfl,_⟩:=hc.shape;obtain ⟨oa,oc,rfl,_⟩:=ho.shape;obtain ⟨qa,qc,rfl,_⟩:=hq.shape;have hb0:Below w.heap.size w ((w.alloc (.cells [.slice ja J.length jc,.int .i64 nx,.slice ca lx.length cc,.int .i64 now].toArray 27)).alloc (.cells [.int .i64 tk,.string me,.string ur,.string og,.int .i64 mo,.slice qa qh.length qc,.string qb,.bool ck].toArray 30)):=((Kc w).alloc lr _).alloc (by simp) _;have W0:=(AtL.new w [.slice ja J.length jc,.int .i64 nx,.slice ca lx.length cc,.int .i64 now] 27).alloc (.cells [.int .i64 tk,.string me,.string ur,.string og,.int .i64 mo,.slice qa qh.length qc,.string qb,.bool ck].toArray 30);have Q0:=AtL.new (w.alloc (.cells [.slice ja J.length jc,.int .i64 nx,.slice ca lx.length cc,.int .i64 now].toArray 27)) [.int .i64 tk,.string me,.string ur,.string og,.int .i64 mo,.slice qa qh.length qc,.string qb,.bool ck] 30;rw [show (w.alloc (.cells [.slice ja J.length jc,.int .i64 nx,.slice ca lx.length cc,.int .i64 now].toArray 27)).heap.size=w.heap.size+1 by simp] at Q0;have CQ:=Kb (fun (w':World) (hb:Below w.heap.size w w')=>attrs44_is qh (.slice qa qh.length qc) w' (hq.below hb lr) hzq (attrB44 qh) rfl);have HRD:=Kb hr;have HOH:=Kb hoh;have HZJ:=Kb hzj;have HZC:=Kb hzc;have HZO:=Kb hzo;clear hj hc hr hq ho hoh hzj hzc hzq hzo;obtain ⟨w0,hw0⟩:∃ w0:World,((w.alloc (.cells [.slice ja J.length jc,.int .i64 nx,.slice ca lx.length cc,.int .i64 now].toArray 27)).alloc (.cells [.int .i64 tk,.string me,.string ur,.string og,.int .i64 mo,.slice qa qh.length qc,.string qb,.bool ck].toArray 30))=w0:=⟨_,rfl⟩
 obtain ⟨W,hW⟩:=Ka w.heap.size;obtain ⟨Q,hQ⟩:=Ka (W+1);have HWW:=Kb hW;rw [hw0] at hb0 W0 Q0;rw [hW] at W0 Q0;rw [hQ] at Q0;have a_:=W0.o4;have q_:=Q0.o8;have al:=W0.lt;have ql:=Q0.lt;have g1:(8:Int)<(J.length:Int):=by omega
 go_enter Tryz.func12,Tryz.ntmps12
 exact N27
theorem few4_n2 (w:World)(vj:Value)(J:List Ck)(nx:Int)(vc:Value)(lx:List Ee)(now tk:Int)(me ur og:ByteArray)(mo:Int)(vq:Value)(qh:List Hd)(qb:ByteArray)(ck:Bool)(vo:Value)(lo:List (Value × Op4))
 (HW:WIn w vj J vc lx) (HQ:QIn w ur og vq qh qb) (HO:OIn w vo lo)
 (h1:J.length<=8) (h2:8<lx.length) :
 Calls Tryz.prog 12 #[.agg #[vj,.int .i64 nx,vc,.int .i64 now],.agg #[.int .i64 tk,.string me,.string ur,.string og,.int .i64 mo,vq,.string qb,.bool ck],vo] w fun e w'=>e = .returned (.bool false)/\Below w.heap.size w w':=by
 obtain ⟨hj,hc,hr,hzj,hzc⟩:=HW;obtain ⟨hq,hzq,hz1a,hz1b,hz1c⟩:=HQ;obtain ⟨ho,hoh,hzo⟩:=HO;have hlj:=slk_len hj;have hlc:=slk_len hc;have hlo:=slk_len ho;have HCJ:=Kb (slk_at hj);have HCC:=Kb (slk_at hc);have HCO:=Kb (slk_at ho);obtain ⟨ja,jc,rfl,_⟩:=hj.shape;obtain ⟨ca,cc,rfl,_⟩:=hc.shape;obtain ⟨oa,oc,rfl,_⟩:=ho.shape;obtain ⟨qa,qc,rfl,_⟩:=hq.shape;have hb0:Below w.heap.size w ((w.alloc (.cells [.slice ja J.length jc,.int .i64 nx,.slice ca lx.length cc,.int .i64 now].toArray 27)).alloc (.cells [.int .i64 tk,.string me,.string ur,.string og,.int .i64 mo,.slice qa qh.length qc,.string qb,.bool ck].toArray 30)):=((Kc w).alloc lr _).alloc (by simp) _;have W0:=(AtL.new w [.slice ja J.length jc,.int .i64 nx,.slice ca lx.length cc,.int .i64 now] 27).alloc (.cells [.int .i64 tk,.string me,.string ur,.string og,.int .i64 mo,.slice qa qh.length qc,.string qb,.bool ck].toArray 30);have Q0:=AtL.new (w.alloc (.cells [.slice ja J.length jc,.int .i64 nx,.slice ca lx.length cc,.int .i64 now].toArray 27)) [.int .i64 tk,.string me,.string ur,.string og,.int .i64 mo,.slice qa qh.length qc,.string qb,.bool ck] 30;rw [show (w.alloc (.cells [.slice ja J.length jc,.int .i64 nx,.slice ca lx.length cc,.int .i64 now].toArray 27)).heap.size=w.heap.size+1 by simp] at Q0;have CQ:=Kb (fun (w':World) (hb:Below w.heap.size w w')=>attrs44_is qh (.slice qa qh.length qc) w' (hq.below hb lr) hzq (attrB44 qh) rfl);have HRD:=Kb hr;have HOH:=Kb hoh;have HZJ:=Kb hzj;have HZC:=Kb hzc;have HZO:=Kb hzo;clear hj hc hr hq ho hoh hzj hzc hzq hzo;obtain ⟨w0,hw0⟩:∃ w0:World,((w.alloc (.cells [.slice ja J.length jc,.int .i64 nx,.slice ca lx.length cc,.int .i64 now].toArray 27)).alloc (.cells [.int .i64 tk,.string me,.string ur,.string og,.int .i64 mo,.slice qa qh.length qc,.string qb,.bool ck].toArray 30))=w0:=⟨_,rfl⟩
 obtain ⟨W,hW⟩:=Ka w.heap.size;obtain ⟨Q,hQ⟩:=Ka (W+1);have HWW:=Kb hW;rw [hw0] at hb0 W0 Q0;rw [hW] at W0 Q0;rw [hQ] at Q0;have a_:=W0.o4;have q_:=Q0.o8;have al:=W0.lt;have ql:=Q0.lt;have g1:¬ (8:Int)<(J.length:Int):=by omega
 have g2:(8:Int)<(lx.length:Int):=by omega
 go_enter Tryz.func12,Tryz.ntmps12
 exact N27
theorem N16{p:Prop}(h:p:=by
 obtain ⟨hj,hc,hr,hzj,hzc⟩:=HW;obtain ⟨hq,hzq,hz1a,hz1b,hz1c⟩:=HQ;obtain ⟨ho,hoh,hzo⟩:=HO;have hlj:=slk_len hj;have hlc:=slk_len hc;have hlo:=slk_len ho;have HCJ:=Kb (slk_at hj);have HCC:=Kb (slk_at hc);have HCO:=Kb (slk_at ho);obtain ⟨ja,jc,rfl,_⟩:=hj.shape;obtain ⟨ca,cc,rfl,_⟩:=hc.shape;obtain ⟨oa,oc,rfl,_⟩:=ho.shape;obtain ⟨qa,qc,rfl,_⟩:=hq.shape;have hb0:Below w.heap.size w ((w.alloc (.cells [.slice ja J.length jc,.int .i64 nx,.slice ca lx.length cc,.int .i64 now].toArray 27)).alloc (.cells [.int .i64 tk,.string me,.string ur,.string og,.int .i64 mo,.slice qa qh.length qc,.string qb,.bool ck].toArray 30)):=((Kc w).alloc lr _).alloc (by simp) _;have W0:=(AtL.new w [.slice ja J.length jc,.int .i64 nx,.slice ca lx.length cc,.int .i64 now] 27).alloc (.cells [.int .i64 tk,.string me,.string ur,.string og,.int .i64 mo,.slice qa qh.length qc,.string qb,.bool ck].toArray 30);have Q0:=AtL.new (w.alloc (.cells [.slice ja J.length jc,.int .i64 nx,.slice ca lx.length cc,.int .i64 now].toArray 27)) [.int .i64 tk,.string me,.string ur,.string og,.int .i64 mo,.slice qa qh.length qc,.string qb,.bool ck] 30;rw [show (w.alloc (.cells [.slice ja J.length jc,.int .i64 nx,.slice ca lx.length cc,.int .i64 now].toArray 27)).heap.size=w.heap.size+1 by simp] at Q0;have CQ:=Kb (fun (w':World) (hb:Below w.heap.size w w')=>attrs44_is qh (.slice qa qh.length qc) w' (hq.below hb lr) hzq (attrB44 qh) rfl);have HRD:=Kb hr;have HOH:=Kb hoh;have HZJ:=Kb hzj;have HZC:=Kb hzc;have HZO:=Kb hzo;clear hj hc hr hq ho hoh hzj hzc hzq hzo;obtain ⟨w0,hw0⟩:∃ w0:World,((w.alloc (.cells [.slice ja J.length jc,.int .i64 nx,.slice ca lx.length cc,.int .i64 now].toArray 27)).alloc (.cells [.int .i64 tk,.string me,.string ur,.string og,.int .i64 mo,.slice qa qh.length qc,.string qb,.bool ck].toArray 30))=w0:=⟨_,rfl⟩
 obtain ⟨W,hW⟩:=Ka w.heap.size;obtain ⟨Q,hQ⟩:=Ka (W+1);have HWW:=Kb hW;rw [hw0] at hb0 W0 Q0;rw [hW] at W0 Q0;rw [hQ] at Q0;have a_:=W0.o4;have q_:=Q0.o8;have al:=W0.lt;have ql:=Q0.lt;have g1:¬ (8:Int)<(J.length:Int):=by omega
 have g2:¬ (8:Int)<(lx.length:Int):=by omega
 go_enter Tryz.func12,Tryz.ntmps12
 go_wp2_with (first
  | ((with_reducible refine (CQ.out _ hb0).mono ?_);rintro e1 w1 ⟨rfl,hb1⟩;have hB0:=Kd hb0 hb1;have Q1:=Q0.next hb1;clear q_;have q_:=Q1.o8;have ql1:=Q1.lt)
  | fail)
 go_ret
 first | exact ⟨ret_bool rfl,hB0⟩ | exact ⟨ret_bool rfl,hb0⟩ | exact ⟨ret_bool rfl,by rw [<-HWW.out];exact hB0⟩ | exact ⟨ret_bool rfl,by rw [<-HWW.out];exact hb0⟩ | fail
 ):p:=h
theorem few4_n3 (w:World)(vj:Value)(J:List Ck)(nx:Int)(vc:Value)(lx:List Ee)(now tk:Int)(me ur og:ByteArray)(mo:Int)(vq:Value)(qh:List Hd)(qb:ByteArray)(ck:Bool)(vo:Value)(lo:List (Value × Op4))
 (HW:WIn w vj J vc lx) (HQ:QIn w ur og vq qh qb) (HO:OIn w vo lo)
 (h1:J.length<=8) (h2:lx.length<=8) (h3:nx<0) :
 Calls Tryz.prog 12 #[.agg #[vj,.int .i64 nx,vc,.int .i64 now],.agg #[.int .i64 tk,.string me,.string ur,.string og,.int .i64 mo,vq,.string qb,.bool ck],vo] w fun e w'=>e = .returned (.bool false)/\Below w.heap.size w w':=by
 exact N16
theorem few4_n4 (w:World)(vj:Value)(J:List Ck)(nx:Int)(vc:Value)(lx:List Ee)(now tk:Int)(me ur og:ByteArray)(mo:Int)(vq:Value)(qh:List Hd)(qb:ByteArray)(ck:Bool)(vo:Value)(lo:List (Value × Op4))
 (HW:WIn w vj J vc lx) (HQ:QIn w ur og vq qh qb) (HO:OIn w vo lo)
 (h1:J.length<=8) (h2:lx.length<=8) (h3:¬ nx<0) (h4:1125899906842624<nx) :
 Calls Tryz.prog 12 #[.agg #[vj,.int .i64 nx,vc,.int .i64 now],.agg #[.int .i64 tk,.string me,.string ur,.string og,.int .i64 mo,vq,.string qb,.bool ck],vo] w fun e w'=>e = .returned (.bool false)/\Below w.heap.size w w':=by
 exact N16
theorem few4_n5 (w:World)(vj:Value)(J:List Ck)(nx:Int)(vc:Value)(lx:List Ee)(now tk:Int)(me ur og:ByteArray)(mo:Int)(vq:Value)(qh:List Hd)(qb:ByteArray)(ck:Bool)(vo:Value)(lo:List (Value × Op4))
 (HW:WIn w vj J vc lx) (HQ:QIn w ur og vq qh qb) (HO:OIn w vo lo)
 (h1:J.length<=8) (h2:lx.length<=8) (h3:¬ nx<0) (h4:¬ 1125899906842624<nx) (h5:20<lo.length) :
 Calls Tryz.prog 12 #[.agg #[vj,.int .i64 nx,vc,.int .i64 now],.agg #[.int .i64 tk,.string me,.string ur,.string og,.int .i64 mo,vq,.string qb,.bool ck],vo] w fun e w'=>e = .returned (.bool false)/\Below w.heap.size w w':=by
 obtain ⟨hj,hc,hr,hzj,hzc⟩:=HW;obtain ⟨hq,hzq,hz1a,hz1b,hz1c⟩:=HQ;obtain ⟨ho,hoh,hzo⟩:=HO;have hlj:=slk_len hj;have hlc:=slk_len hc;have hlo:=slk_len ho;have HCJ:=Kb (slk_at hj);have HCC:=Kb (slk_at hc);have HCO:=Kb (slk_at ho);obtain ⟨ja,jc,rfl,_⟩:=hj.shape;obtain ⟨ca,cc,rfl,_⟩:=hc.shape;obtain ⟨oa,oc,rfl,_⟩:=ho.shape;obtain ⟨qa,qc,rfl,_⟩:=hq.shape;have hb0:Below w.heap.size w ((w.alloc (.cells [.slice ja J.length jc,.int .i64 nx,.slice ca lx.length cc,.int .i64 now].toArray 27)).alloc (.cells [.int .i64 tk,.string me,.string ur,.string og,.int .i64 mo,.slice qa qh.length qc,.string qb,.bool ck].toArray 30)):=((Kc w).alloc lr _).alloc (by simp) _;have W0:=(AtL.new w [.slice ja J.length jc,.int .i64 nx,.slice ca lx.length cc,.int .i64 now] 27).alloc (.cells [.int .i64 tk,.string me,.string ur,.string og,.int .i64 mo,.slice qa qh.length qc,.string qb,.bool ck].toArray 30);have Q0:=AtL.new (w.alloc (.cells [.slice ja J.length jc,.int .i64 nx,.slice ca lx.length cc,.int .i64 now].toArray 27)) [.int .i64 tk,.string me,.string ur,.string og,.int .i64 mo,.slice qa qh.length qc,.string qb,.bool ck] 30;rw [show (w.alloc (.cells [.slice ja J.length jc,.int .i64 nx,.slice ca lx.length cc,.int .i64 now].toArray 27)).heap.size=w.heap.size+1 by simp] at Q0;have CQ:=Kb (fun (w':World) (hb:Below w.heap.size w w')=>attrs44_is qh (.slice qa qh.length qc) w' (hq.below hb lr) hzq (attrB44 qh) rfl);have HRD:=Kb hr;have HOH:=Kb hoh;have HZJ:=Kb hzj;have HZC:=Kb hzc;have HZO:=Kb hzo;clear hj hc hr hq ho hoh hzj hzc hzq hzo;obtain ⟨w0,hw0⟩:∃ w0:World,((w.alloc (.cells [.slice ja J.length jc,.int .i64 nx,.slice ca lx.length cc,.int .i64 now].toArray 27)).alloc (.cells [.int .i64 tk,.string me,.string ur,.string og,.int .i64 mo,.slice qa qh.length qc,.string qb,.bool ck].toArray 30))=w0:=⟨_,rfl⟩
 obtain ⟨W,hW⟩:=Ka w.heap.size;obtain ⟨Q,hQ⟩:=Ka (W+1);have HWW:=Kb hW;rw [hw0] at hb0 W0 Q0;rw [hW] at W0 Q0;rw [hQ] at Q0;have a_:=W0.o4;have q_:=Q0.o8;have al:=W0.lt;have ql:=Q0.lt;have g1:¬ (8:Int)<(J.length:Int):=by omega
 have g2:¬ (8:Int)<(lx.length:Int):=by omega
 have g5:(20:Int)<(lo.length:Int):=by omega
 go_enter Tryz.func12,Tryz.ntmps12
 exact N27
theorem few4_n6 (w:World)(vj:Value)(J:List Ck)(nx:Int)(vc:Value)(lx:List Ee)(now tk:Int)(me ur og:ByteArray)(mo:Int)(vq:Value)(qh:List Hd)(qb:ByteArray)(ck:Bool)(vo:Value)(lo:List (Value × Op4))
 (HW:WIn w vj J vc lx) (HQ:QIn w ur og vq qh qb) (HO:OIn w vo lo)
 (h1:J.length<=8) (h2:lx.length<=8) (h3:¬ nx<0) (h4:¬ 1125899906842624<nx) (h5:lo.length<=20) (h6:attrB44 qh=false) :
 Calls Tryz.prog 12 #[.agg #[vj,.int .i64 nx,vc,.int .i64 now],.agg #[.int .i64 tk,.string me,.string ur,.string og,.int .i64 mo,vq,.string qb,.bool ck],vo] w fun e w'=>e = .returned (.bool false)/\Below w.heap.size w w':=by
 obtain ⟨hj,hc,hr,hzj,hzc⟩:=HW;obtain ⟨hq,hzq,hz1a,hz1b,hz1c⟩:=HQ;obtain ⟨ho,hoh,hzo⟩:=HO;have hlj:=slk_len hj;have hlc:=slk_len hc;have hlo:=slk_len ho;have HCJ:=Kb (slk_at hj);have HCC:=Kb (slk_at hc);have HCO:=Kb (slk_at ho);obtain ⟨ja,jc,rfl,_⟩:=hj.shape;obtain ⟨ca,cc,rfl,_⟩:=hc.shape;obtain ⟨oa,oc,rfl,_⟩:=ho.shape;obtain ⟨qa,qc,rfl,_⟩:=hq.shape;have hb0:Below w.heap.size w ((w.alloc (.cells [.slice ja J.length jc,.int .i64 nx,.slice ca lx.length cc,.int .i64 now].toArray 27)).alloc (.cells [.int .i64 tk,.string me,.string ur,.string og,.int .i64 mo,.slice qa qh.length qc,.string qb,.bool ck].toArray 30)):=((Kc w).alloc lr _).alloc (by simp) _;have W0:=(AtL.new w [.slice ja J.length jc,.int .i64 nx,.slice ca lx.length cc,.int .i64 now] 27).alloc (.cells [.int .i64 tk,.string me,.string ur,.string og,.int .i64 mo,.slice qa qh.length qc,.string qb,.bool ck].toArray 30);have Q0:=AtL.new (w.alloc (.cells [.slice ja J.length jc,.int .i64 nx,.slice ca lx.length cc,.int .i64 now].toArray 27)) [.int .i64 tk,.string me,.string ur,.string og,.int .i64 mo,.slice qa qh.length qc,.string qb,.bool ck] 30;rw [show (w.alloc (.cells [.slice ja J.length jc,.int .i64 nx,.slice ca lx.length cc,.int .i64 now].toArray 27)).heap.size=w.heap.size+1 by simp] at Q0;have CQ:=Kb (fun (w':World) (hb:Below w.heap.size w w')=>attrs44_is qh (.slice qa qh.length qc) w' (hq.below hb lr) hzq (attrB44 qh) rfl);have HRD:=Kb hr;have HOH:=Kb hoh;have HZJ:=Kb hzj;have HZC:=Kb hzc;have HZO:=Kb hzo;clear hj hc hr hq ho hoh hzj hzc hzq hzo;obtain ⟨w0,hw0⟩:∃ w0:World,((w.alloc (.cells [.slice ja J.length jc,.int .i64 nx,.slice ca lx.length cc,.int .i64 now].toArray 27)).alloc (.cells [.int .i64 tk,.string me,.string ur,.string og,.int .i64 mo,.slice qa qh.length qc,.string qb,.bool ck].toArray 30))=w0:=⟨_,rfl⟩
 obtain ⟨W,hW⟩:=Ka w.heap.size;obtain ⟨Q,hQ⟩:=Ka (W+1);have HWW:=Kb hW;rw [hw0] at hb0 W0 Q0;rw [hW] at W0 Q0;rw [hQ] at Q0;have a_:=W0.o4;have q_:=Q0.o8;have al:=W0.lt;have ql:=Q0.lt;have g1:¬ (8:Int)<(J.length:Int):=by omega
 have g2:¬ (8:Int)<(lx.length:Int):=by omega
 have g5:¬ (20:Int)<(lo.length:Int):=by omega
 rw [h6] at CQ;clear h6;go_enter Tryz.func12,Tryz.ntmps12
 exact N27
theorem few4_n7 (w:World)(vj:Value)(J:List Ck)(nx:Int)(vc:Value)(lx:List Ee)(now tk:Int)(me ur og:ByteArray)(mo:Int)(vq:Value)(qh:List Hd)(qb:ByteArray)(ck:Bool)(vo:Value)(lo:List (Value × Op4))
 (HW:WIn w vj J vc lx) (HQ:QIn w ur og vq qh qb) (HO:OIn w vo lo)
 (h1:J.length<=8) (h2:lx.length<=8) (h3:¬ nx<0) (h4:¬ 1125899906842624<nx) (h5:lo.length<=20) (h6:attrB44 qh=true) (h7:400<ur.size+og.size+qb.size) :
 Calls Tryz.prog 12 #[.agg #[vj,.int .i64 nx,vc,.int .i64 now],.agg #[.int .i64 tk,.string me,.string ur,.string og,.int .i64 mo,vq,.string qb,.bool ck],vo] w fun e w'=>e = .returned (.bool false)/\Below w.heap.size w w':=by
 obtain ⟨hj,hc,hr,hzj,hzc⟩:=HW;obtain ⟨hq,hzq,hz1a,hz1b,hz1c⟩:=HQ;obtain ⟨ho,hoh,hzo⟩:=HO;have hlj:=slk_len hj;have hlc:=slk_len hc;have hlo:=slk_len ho;have HCJ:=Kb (slk_at hj);have HCC:=Kb (slk_at hc);have HCO:=Kb (slk_at ho);obtain ⟨ja,jc,rfl,_⟩:=hj.shape;obtain ⟨ca,cc,rfl,_⟩:=hc.shape;obtain ⟨oa,oc,rfl,_⟩:=ho.shape;obtain ⟨qa,qc,rfl,_⟩:=hq.shape;have hb0:Below w.heap.size w ((w.alloc (.cells [.slice ja J.length jc,.int .i64 nx,.slice ca lx.length cc,.int .i64 now].toArray 27)).alloc (.cells [.int .i64 tk,.string me,.string ur,.string og,.int .i64 mo,.slice qa qh.length qc,.string qb,.bool ck].toArray 30)):=((Kc w).alloc lr _).alloc (by simp) _;have W0:=(AtL.new w [.slice ja J.length jc,.int .i64 nx,.slice ca lx.length cc,.int .i64 now] 27).alloc (.cells [.int .i64 tk,.string me,.string ur,.string og,.int .i64 mo,.slice qa qh.length qc,.string qb,.bool ck].toArray 30);have Q0:=AtL.new (w.alloc (.cells [.slice ja J.length jc,.int .i64 nx,.slice ca lx.length cc,.int .i64 now].toArray 27)) [.int .i64 tk,.string me,.string ur,.string og,.int .i64 mo,.slice qa qh.length qc,.string qb,.bool ck] 30;rw [show (w.alloc (.cells [.slice ja J.length jc,.int .i64 nx,.slice ca lx.length cc,.int .i64 now].toArray 27)).heap.size=w.heap.size+1 by simp] at Q0;have CQ:=Kb (fun (w':World) (hb:Below w.heap.size w w')=>attrs44_is qh (.slice qa qh.length qc) w' (hq.below hb lr) hzq (attrB44 qh) rfl);have HRD:=Kb hr;have HOH:=Kb hoh;have HZJ:=Kb hzj;have HZC:=Kb hzc;have HZO:=Kb hzo;clear hj hc hr hq ho hoh hzj hzc hzq hzo;obtain ⟨w0,hw0⟩:∃ w0:World,((w.alloc (.cells [.slice ja J.length jc,.int .i64 nx,.slice ca lx.length cc,.int .i64 now].toArray 27)).alloc (.cells [.int .i64 tk,.string me,.string ur,.string og,.int .i64 mo,.slice qa qh.length qc,.string qb,.bool ck].toArray 30))=w0:=⟨_,rfl⟩
 obtain ⟨W,hW⟩:=Ka w.heap.size;obtain ⟨Q,hQ⟩:=Ka (W+1);have HWW:=Kb hW;rw [hw0] at hb0 W0 Q0;rw [hW] at W0 Q0;rw [hQ] at Q0;have a_:=W0.o4;have q_:=Q0.o8;have al:=W0.lt;have ql:=Q0.lt;have g1:¬ (8:Int)<(J.length:Int):=by omega
 have g2:¬ (8:Int)<(lx.length:Int):=by omega
 have g5:¬ (20:Int)<(lo.length:Int):=by omega
 rw [h6] at CQ;have g7:(400:Int)<(ur.size:Int)+(og.size:Int)+(qb.size:Int):=by omega
 have g6:(400:Int)<wrap64 (wrap64 ((ur.size:Int)+(og.size:Int))+(qb.size:Int)):=by rw [ew3 hz1a hz1b hz1c];exact g7
 clear h6 h7 g7;go_enter Tryz.func12,Tryz.ntmps12
 exact N27
end Go.Proofs.YtjdhaacmlpegoaaGreatDoor
