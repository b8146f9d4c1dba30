/- Part 45 of what the proof needs: XY. -/
import Derived.Test.YtjdhaacmlpegoaaGreatDoorP42
import Derived.Test.YtjdhaacmlpegoaaGreatDoorP38
import Derived.Test.YtjdhaacmlpegoaaGreatDoorP01
set_option maxRecDepth 20000
set_option maxHeartbeats 16000000
namespace Go.Proofs.YtjdhaacmlpegoaaGreatDoor
open Go.RowKit
set_option linter.unusedSimpArgs false
set_option linter.unusedVariables false
abbrev rqL (S:FS)(vh:Value):List Value:=[.int .i64 S.tk,.string S.me,.string S.ur,.string S.og,.int .i64 S.mo,vh,.string S.qb,.bool S.ck]
theorem ru8_mk {W w':World}{R U:Nat}{r0 r1 r2 r3 r4 r5 r6 r7 a b c d e f:Value}(h:AtL W R [r0,r1,r2,r3,r4,r5,r6,r7])(h2:AtL W U [a,b,c,d,e,f])(hb:Below W.heap.size W w'):w'.cell? ⟨R,4,none⟩=some r4/\w'.cell? ⟨R,3,none⟩=some r3/\w'.cell? ⟨U,0,none⟩=some a/\w'.cell? ⟨U,1,none⟩=some b/\w'.cell? ⟨U,2,none⟩=some c/\w'.cell? ⟨U,3,none⟩=some d/\w'.cell? ⟨U,4,none⟩=some e/\w'.cell? ⟨U,5,none⟩=some f:=
 have h':=h.next hb
 have k':=h2.next hb
 ⟨h'.c 4 rfl,h'.c 3 rfl,k'.c 0 rfl,k'.c 1 rfl,k'.c 2 rfl,k'.c 3 rfl,k'.c 4 rfl,k'.c 5 rfl⟩
theorem begin_is [Prot]{w:World}{s0 jb cb B:Nat}{vj:Value}{J:List Ck}{nx:Int}{vc:Value}{lx:List Ee}{S:FS}{n m:Nat}(F:FIn w s0 jb cb B vj J nx vc lx S)(hS:SOk S)(hJ:JOk J)(hC:COk n m (lx.map (·.2)))(hn:n<=880)(hm:m<=800)(hh0:S.ho=0)(now:Int)(o:Out)(ho:beginF J now S (lx.map (·.2))=o):
 Calls Tryz.prog 70 #[.pointer (some ⟨s0,0,none⟩),envA jb cb now] w (StepQ w s0 jb cb B vj J nx vc o):=by
 have hal:=(Below.refl _ w).alloc lr (.cells (envL jb cb now).toArray 83)
 have V1:=AtL.new w (envL jb cb now) 83
 have F1:=F.below hal
 have hsV:s0≠w.heap.size:=by have:=F.env.ls;omega
 have hls:=F.env.ls
 obtain ⟨C,hC2⟩:∃ C,lx.map (·.2)=C:=⟨_,rfl⟩
 have A1:RedA w s0 jb cb B vj J nx vc S C w.heap.size now vc lx (w.alloc (.cells (envL jb cb now).toArray 83)):=⟨F1,hC2,Kp.of_below hal lr,fun _ _ e=>e,V1⟩
 rw [hC2] at ho
 have HCK:=Lib.hid hC
 have HC2:=Lib.hid hC2
 have HSK0:=Lib.hid hS
 have HJ:=Lib.hid hJ
 have HH0:=Lib.hid hh0
 clear hC hC2 hJ hh0
 obtain ⟨w1,hw1⟩:∃ w1:World,w.alloc (.cells (envL jb cb now).toArray 83)=w1:=⟨_,rfl⟩
 obtain ⟨V,hV⟩:∃ V,w.heap.size=V:=⟨_,rfl⟩
 rw [hw1] at A1 F1 V1 hal
 rw [hV] at A1 V1 hsV hls
 have hsz1:w1.heap.size=V+1:=by rw [<-hw1,<-hV];simp
 obtain ⟨va,vk,wa,wk,S1,_,_⟩:=A1.f.st
 have S1:AtL w1 s0 (fsC S.tk S.me S.ur S.og S.mo (.slice va S.qh.length vk) S.qb S.ck S.ph S.a S.b S.c S.d S.e S.f S.sm S.ho S.ch S.hi S.st (.slice wa S.hs.length wk) S.sb S.er):=S1
 have hal2:=(Below.refl _ w1).alloc lr (.cells (rqL S (.slice va S.qh.length vk)).toArray 30)
 have R2:=AtL.new w1 (rqL S (.slice va S.qh.length vk)) 30
 have A2:=A1.below hal2
 obtain ⟨w2,hw2⟩:∃ w2:World,w1.alloc (.cells (rqL S (.slice va S.qh.length vk)).toArray 30)=w2:=⟨_,rfl⟩
 obtain ⟨R,hR⟩:∃ R,w1.heap.size=R:=⟨_,rfl⟩
 rw [hw2] at A2 R2
 rw [hR] at R2
 have hsR:s0≠R:=by omega
 have HA2:=Lib.hid A2
 clear F1 hal hal2 A1 A2 F hsz1 V1 hls
 have CF:=Lib.hid (fun (w':World) (vc':Value) (lx':List Ee) (S':FS) (F':FIn w' s0 jb cb B vj J nx vc' lx' S') (e:Int)=>fail_is F' e)
 obtain ⟨K,hK⟩:∃ K,knownB S.me=K:=⟨_,rfl⟩
 have CK:=Lib.hid (fun (w':World)=>known_is S.me w' K hK)
 have hur:S.ur.size<=300000:=by have:=hS.ur;omega
 clear hS
 unfold beginF at ho
 rw [hK] at ho
 clear hK
 by_cases hmo:S.mo<1\/4<S.mo
 ·have HE:Hid (failO S C 1=o):=Lib.hid (by rw [<-ho,if_pos (by omega)])
  have HA5:=HA2
  clear ho
  rcases hmo with h1 | h1
  ·
   go_enter Tryz.func70,Tryz.ntmps70
   have z_:=S1.o23
   have zl:=S1.lt
   have r_:=R2.o8
   have rl:=R2.lt
   go_wp2_with (first
    | (go_at_call 76;(with_reducible refine (CF.out _ _ _ _ HA5.out.f _).mono ?_);rintro e9 w9 hq9;have HQ:=Lib.hid (HA5.out.fin hq9);obtain ⟨oa,on,oc,rfl⟩:=stepq_shape hq9)
    | fail
    )
   go_ret
   have hq:=HQ.out
   rw [HC2.out,HE.out] at hq
   exact hq
  ·have h2:¬ S.mo<1:=by omega
   go_enter Tryz.func70,Tryz.ntmps70
   have z_:=S1.o23
   have zl:=S1.lt
   have r_:=R2.o8
   have rl:=R2.lt
   go_wp2_with (first
    | (go_at_call 76;(with_reducible refine (CF.out _ _ _ _ HA5.out.f _).mono ?_);rintro e9 w9 hq9;have HQ:=Lib.hid (HA5.out.fin hq9);obtain ⟨oa,on,oc,rfl⟩:=stepq_shape hq9)
    | fail
    )
   go_ret
   have hq:=HQ.out
   rw [HC2.out,HE.out] at hq
   exact hq
 ·have h1:¬ S.mo<1:=by omega
  have h2:¬ 4<S.mo:=by omega
  clear hmo
  cases K with
  | false=>
    have HE:Hid (failO S C 1=o):=Lib.hid (by rw [<-ho,if_pos (.inr (.inr rfl))])
    clear ho
    go_enter Tryz.func70,Tryz.ntmps70
    have z_:=S1.o23
    have zl:=S1.lt
    have r_:=R2.o8
    have rl:=R2.lt
    go_wp2_with (first
     | (go_at_call 48;(with_reducible refine (CK.out _).mono ?_);rintro e3 w3 ⟨rfl,hb3⟩;have HA5:=Lib.hid (HA2.out.below hb3);have R3:=R2.next hb3;clear r_;have r_:=R3.o8;have rl3:=R3.lt)
     | (go_at_call 76;(with_reducible refine (CF.out _ _ _ _ HA5.out.f _).mono ?_);rintro e9 w9 hq9;have HQ:=Lib.hid (HA5.out.fin hq9);obtain ⟨oa,on,oc,rfl⟩:=stepq_shape hq9)
     | fail
     )
    go_ret
    have hq:=HQ.out
    rw [HC2.out,HE.out] at hq
    exact hq
  | true=>
    rw [if_neg (by rintro (h | h | h);exact h1 h;exact h2 h;cases h)] at ho
    cases hP:parseL S.ur.data.toList with
    | none=>
      rw [hP] at ho
      have HE:Hid (failO S C 4=o):=Lib.hid ho
      have CP:=Lib.hid (fun (w':World) (hM:MaxAt w')=>parse_none S.ur w' hur hM hP)
      clear ho hP
      go_enter Tryz.func70,Tryz.ntmps70
      have z_:=S1.o23
      have zl:=S1.lt
      have r_:=R2.o8
      have rl:=R2.lt
      go_wp2_with (first
       | (go_at_call 48;(with_reducible refine (CK.out _).mono ?_);rintro e3 w3 ⟨rfl,hb3⟩;have HA3:=Lib.hid (HA2.out.below hb3);have R3:=R2.next hb3;clear r_;have r_:=R3.o8;have rl3:=R3.lt)
       | (go_at_call 28;(with_reducible refine (CP.out w3 HA3.out.f.env.mx).mono ?_);rintro e4 w4 ⟨rfl,hb4⟩;have HA5:=Lib.hid ((HA3.out.below hb4).below ((Below.refl _ w4).alloc lr (.cells #[.string ⟨#[]⟩,.string ⟨#[]⟩,.string ⟨#[]⟩,.string ⟨#[]⟩,.string ⟨#[]⟩,.string ⟨#[]⟩] 37))))
       | (go_at_call 76;(with_reducible refine (CF.out _ _ _ _ HA5.out.f _).mono ?_);rintro e9 w9 hq9;have HQ:=Lib.hid (HA5.out.fin hq9);obtain ⟨oa,on,oc,rfl⟩:=stepq_shape hq9)
       | fail
       )
      go_ret
      have hq:=HQ.out
      rw [HC2.out,HE.out] at hq
      exact hq
    | some r=>
      rw [hP] at ho
      simp only at ho
      have HPU:=Lib.hid hP
      obtain ⟨ra,rb,rc,rd,re,rf⟩:=r
      have CP:=Lib.hid (fun (w':World) (hM:MaxAt w')=>parse_some S.ur w' hur hM (bs ra) (bs rb) (bs rc) (bs rd) (bs re) (bs rf) hP)
      obtain ⟨WB,hWB⟩:∃ WB,webB (bs ra)=WB:=⟨_,rfl⟩
      have CWe:=Lib.hid (fun (w':World)=>web_is (bs ra) (bs rb) (bs rc) (bs rd) (bs re) (bs rf) w' WB hWB)
      have hwo:(if WB=false then failO S C 4 else if (decide (S.mo=2) && fgB (putU S (ra,rb,rc,rd,re,rf)))=true then failO S C 15 else sendF J now 11 { putU S (ra,rb,rc,rd,re,rf) with sm:=S.me } C)=o:=by rw [<-hWB];exact ho
      clear ho hP hWB
      cases WB with
      | false=>
        have HE:Hid (failO S C 4=o):=Lib.hid (by rw [<-hwo,if_pos rfl])
        clear hwo
        go_enter Tryz.func70,Tryz.ntmps70
        have z_:=S1.o23
        have zl:=S1.lt
        have r_:=R2.o8
        have rl:=R2.lt
        go_wp2_with (first
         | (go_at_call 48;(with_reducible refine (CK.out _).mono ?_);rintro e3 w3 ⟨rfl,hb3⟩;have HA3:=Lib.hid (HA2.out.below hb3);have R3:=R2.next hb3;clear r_;have r_:=R3.o8;have rl3:=R3.lt)
         | (go_at_call 28;(with_reducible refine (CP.out w3 HA3.out.f.env.mx).mono ?_);rintro e4 w4 ⟨rfl,hb4⟩;have HA4:=Lib.hid (HA3.out.below hb4);have ha4:=(Below.refl _ w4).alloc lr (.cells [.string (bs ra),.string (bs rb),.string (bs rc),.string (bs rd),.string (bs re),.string (bs rf)].toArray 37);have U4:=AtL.new w4 [.string (bs ra),.string (bs rb),.string (bs rc),.string (bs rd),.string (bs re),.string (bs rf)] 37;have u0:=U4.c 0 rfl;have u1:=U4.c 1 rfl;have u2:=U4.c 2 rfl;have u3:=U4.c 3 rfl;have u4:=U4.c 4 rfl;have u5:=U4.c 5 rfl;have ul4:=U4.lt)
         | (go_at_call 50;(with_reducible refine (CWe.out _).mono ?_);rintro e8 w8 ⟨rfl,hb8⟩;have HA5:=Lib.hid (HA4.out.below (ha4.trans (hb8.mono ha4.size))))
         | (go_at_call 76;(with_reducible refine (CF.out _ _ _ _ HA5.out.f _).mono ?_);rintro e9 w9 hq9;have HQ:=Lib.hid (HA5.out.fin hq9);obtain ⟨oa,on,oc,rfl⟩:=stepq_shape hq9)
         | fail
         )
        go_ret
        have hq:=HQ.out
        rw [HC2.out,HE.out] at hq
        exact hq
      | true=>
        have hwo:(if (decide (S.mo=2) && fgB (putU S (ra,rb,rc,rd,re,rf)))=true then failO S C 15 else sendF J now 11 { putU S (ra,rb,rc,rd,re,rf) with sm:=S.me } C)=o:=by have h:=hwo;rw [if_neg (show ¬ ((true:Bool)=false) by decide)] at h;exact h
        go_enter Tryz.func70,Tryz.ntmps70
        have z_:=S1.o23
        have zl:=S1.lt
        have r_:=R2.o8
        have rl:=R2.lt
        go_upto_region 7 with (first
         | (go_at_call 48;(with_reducible refine (CK.out _).mono ?_);rintro e3 w3 ⟨rfl,hb3⟩;have HA3:=Lib.hid (HA2.out.below hb3);have R3:=R2.next hb3;clear r_;have r_:=R3.o8;have rl3:=R3.lt)
         | (go_at_call 28;(with_reducible refine (CP.out w3 HA3.out.f.env.mx).mono ?_);rintro e4 w4 ⟨rfl,hb4⟩;have HA4:=Lib.hid (HA3.out.below hb4);have ha4:=(Below.refl _ w4).alloc lr (.cells [.string (bs ra),.string (bs rb),.string (bs rc),.string (bs rd),.string (bs re),.string (bs rf)].toArray 37);have U4:=AtL.new w4 [.string (bs ra),.string (bs rb),.string (bs rc),.string (bs rd),.string (bs re),.string (bs rf)] 37;have u0:=U4.c 0 rfl;have u1:=U4.c 1 rfl;have u2:=U4.c 2 rfl;have u3:=U4.c 3 rfl;have u4:=U4.c 4 rfl;have u5:=U4.c 5 rfl;have ul4:=U4.lt)
         | (go_at_call 50;(with_reducible refine (CWe.out _).mono ?_);rintro e7 w7 ⟨rfl,hb7⟩;have hB7:=ha4.trans (hb7.mono ha4.size);have HA7:=Lib.hid (HA4.out.below hB7);have U7:=U4.next hb7;have R7:=R3.next (hb4.trans (hB7.mono hb4.size)))
         | fail)
        obtain ⟨U,hU⟩:∃ U,w4.heap.size=U:=⟨_,rfl⟩
        rw [hU] at U7
        try rw [hU]
        have hsU:s0≠U:=by have:=HA4.out.f.env.ls;omega
        clear hU R3 U4 ul4 rl3 rl zl r_ u0 u1 u2 u3 u4 u5 R2 S1 ha4 hB7 hb7 hb4 hb3 HA4 HA3
        clear z_
        have r_:=R7.o8
        have u0:=U7.c 0 rfl;have u1:=U7.c 1 rfl;have u2:=U7.c 2 rfl;have u3:=U7.c 3 rfl;have u4:=U7.c 4 rfl;have u5:=U7.c 5 rfl
        have rl7:=R7.lt
        have ul7:=U7.lt
        obtain ⟨S2,hS2⟩:∃ S2:FS,{ putU S (ra,rb,rc,rd,re,rf) with sm:=S.me }=S2:=⟨_,rfl⟩
        have hok2:SOk S2:=by rw [<-hS2];exact HSK0.out.putU HPU.out _
        have HSK:=Lib.hid hok2
        have HS20:Hid (S2.ho=0):=Lib.hid (by rw [<-hS2];exact HH0.out)
        have HS2:Hid ({ { S with a:=bs ra,b:=bs rb,c:=bs rc,d:=bs rd,e:=bs re,f:=bs rf } with sm:=S.me }=S2):=Lib.hid hS2
        have hzu:USize 40000 (bs ra) (bs rb) (bs rc) (bs rd) (bs re) (bs rf):=(show SOk { putU S (ra,rb,rc,rd,re,rf) with sm:=S.me } from HSK0.out.putU HPU.out _).u4
        rw [hS2] at hwo
        obtain ⟨O,hO⟩:∃ O,bs (orgL (u6 (bs ra) (bs rb) (bs rc) (bs rd) (bs re) (bs rf)))=O:=⟨_,rfl⟩
        have CO:=Lib.hid (fun (w':World) (hM:MaxAt w')=>origin_is (bs ra) (bs rb) (bs rc) (bs rd) (bs re) (bs rf) O w' hzu.a hzu.b hzu.c hzu.d hzu.e hzu.f hM (by rw [<-hO];rfl))
        obtain ⟨b0,hb0⟩:∃ b0,(O.toList == S.og.toList)=b0:=⟨_,rfl⟩
        have hfg:fgB (putU S (ra,rb,rc,rd,re,rf)) = !b0:=by
         show (!(orgL (u6 (bs ra) (bs rb) (bs rc) (bs rd) (bs re) (bs rf)) == S.og.data.toList)) = !b0
         rw [<-hb0,<-hO,ByteArray.toList_eq,ByteArray.toList_eq,bs_list]
        rw [hfg] at hwo
        clear hS2 hok2 hzu hO hfg
        by_cases h3:S.mo=2
        ·have h2b:(S.mo == 2)=true:=by rw [h3];rfl
         rw [decide_eq_true h3] at hwo
         clear h3
         have HWO:=Lib.hid hwo
         clear hwo
         go_region_held3 (fun w'=>w'.cell? ⟨R,4,none⟩=some (.int .i64 S.mo)/\w'.cell? ⟨R,3,none⟩=some (.string S.og)/\w'.cell? ⟨U,0,none⟩=some (.string (bs ra))/\w'.cell? ⟨U,1,none⟩=some (.string (bs rb))/\w'.cell? ⟨U,2,none⟩=some (.string (bs rc))/\w'.cell? ⟨U,3,none⟩=some (.string (bs rd))/\w'.cell? ⟨U,4,none⟩=some (.string (bs re))/\w'.cell? ⟨U,5,none⟩=some (.string (bs rf)))
          (first | exact ru8_mk R7 U7 (Below.refl _ w7).drew | exact ru8_mk R7 U7 h78 | go_keep)
          (first | (go_at_call 29;(with_reducible refine (CO.out w7.drew (HA7.out.f.env.mx.below (Below.refl _ w7).drew lr)).mono ?_);rintro e8 w8 ⟨rfl,hbb8⟩;have h78:Below w7.heap.size w7 w8:=(Below.refl w7.heap.size w7).drew.trans hbb8) | fail)
         cases b0 with
         | false=>
           have HA5:=Lib.hid (HA7.out.below h78)
           have HE:Hid (failO S C 15=o):=Lib.hid (by rw [<-HWO.out,if_pos (by decide)])
           go_wp2_with (first
            | (go_at_call 76;(with_reducible refine (CF.out _ _ _ _ HA5.out.f _).mono ?_);rintro e9 w9 hq9;have HQ:=Lib.hid (HA5.out.fin hq9);obtain ⟨oa,on,oc,rfl⟩:=stepq_shape hq9)
            | fail
            )
           go_ret
           have hq:=HQ.out
           rw [HC2.out,HE.out] at hq
           exact hq
         | true=>
           have HE:Hid (sendF J now 11 S2 C=o):=Lib.hid (by rw [<-HWO.out,if_neg (by decide)])
           have U8:=U7.next h78
           have R8:=R7.next h78
           have A8:=HA7.out.below h78
           obtain ⟨vh8,wh8,S8,_,_⟩:=A8.f.cells
           have S8:AtL w8 s0 (fsC S.tk S.me S.ur S.og S.mo vh8 S.qb S.ck S.ph S.a S.b S.c S.d S.e S.f S.sm S.ho S.ch S.hi S.st wh8 S.sb S.er):=S8
           have HA8:=Lib.hid A8
           clear r_ u0 u1 u2 u3 u4 u5 U7 R7 A8
           try clear rl7 ul7
           have z_:=S8.o23;have y_:=S8.of23
           have u0:=U8.c 0 rfl;have u1:=U8.c 1 rfl;have u2:=U8.c 2 rfl;have u3:=U8.c 3 rfl;have u4:=U8.c 4 rfl;have u5:=U8.c 5 rfl
           have r_:=R8.o8
           have zl:=S8.lt
           have ul:=U8.lt
           have rl:=R8.lt
           have CS8:=Lib.hid (fun (w':World) (F':FIn w' s0 jb cb B vj J nx vc lx S2)=>send_all HJ.out now hm 11 n S2 w' vc lx HSK.out (by have h:=HS20.out;omega) HCK.out (by omega) F')
           go_upto_region 9 with fail
           go_region_with fail
           all_goals
            have A9:=(HA8.out.url hsV (bs ra) (bs rb) (bs rc) (bs rd) (bs re) (bs rf)).set (S':={ { S with a:=bs ra,b:=bs rb,c:=bs rc,d:=bs rd,e:=bs re,f:=bs rf } with sm:=S.me }) hsV 15 (.string S.me) (fun _ _=>rfl) rfl rfl
            have A9:RedA w s0 jb cb B vj J nx vc S2 C V now vc lx ((setU6 w8 s0 (bs ra) (bs rb) (bs rc) (bs rd) (bs re) (bs rf)).setCell ⟨s0,15,none⟩ (.string S.me)):=by rw [<-HS2.out];exact A9
            obtain ⟨w9,hw9⟩:∃ w9:World,(setU6 w8 s0 (bs ra) (bs rb) (bs rc) (bs rd) (bs re) (bs rf)).setCell ⟨s0,15,none⟩ (.string S.me)=w9:=⟨_,rfl⟩
            rw [hw9] at A9
            rw [show (((((((w8.setCell ⟨s0,9,none⟩ (.string (bs ra))).setCell ⟨s0,10,none⟩ (.string (bs rb))).setCell ⟨s0,11,none⟩ (.string (bs rc))).setCell ⟨s0,12,none⟩ (.string (bs rd))).setCell ⟨s0,13,none⟩ (.string (bs re))).setCell ⟨s0,14,none⟩ (.string (bs rf))).setCell ⟨s0,15,none⟩ (.string S.me))=w9 from hw9]
            clear hw9
            clear z_
            clear y_ u0 u1 u2 u3 u4 u5 r_ zl ul rl
            have A9d:=A9.below (Below.refl _ w9).drew
            have V9:=A9.v
            have HA9:=Lib.hid A9d
            have v_:=V9.o3
            have vl:=V9.lt
            clear A9 A9d
            go_wp2_with (first
             | (go_at_call 116;(with_reducible refine (CS8.out w9.drew HA9.out.f).mono ?_);rintro e13 w13 hq13;have HQ:=Lib.hid (HA9.out.fin hq13);obtain ⟨oa,on,oc,rfl⟩:=stepq_shape hq13)
             | fail)
            go_ret
            have hq:=HQ.out
            rw [HC2.out,HE.out] at hq
            exact hq
        ·have h2b:(S.mo == 2)=false:=beq_eq_false_iff_ne.2 h3
         rw [decide_eq_false h3] at hwo
         clear h3
         have HE:Hid (sendF J now 11 S2 C=o):=Lib.hid (by rw [<-hwo,if_neg (by simp)])
         clear hwo
         go_quiet (fail)
         obtain ⟨w8,hw8⟩:∃ w8:World,w7.drewN nq=w8:=⟨_,rfl⟩
         have h78:Below w7.heap.size w7 w8:=by rw [<-hw8];exact drewn_below _ _ _
         rw [hw8]
         clear hw8
         have U8:=U7.next h78
         have R8:=R7.next h78
         have A8:=HA7.out.below h78
         obtain ⟨vh8,wh8,S8,_,_⟩:=A8.f.cells
         have S8:AtL w8 s0 (fsC S.tk S.me S.ur S.og S.mo vh8 S.qb S.ck S.ph S.a S.b S.c S.d S.e S.f S.sm S.ho S.ch S.hi S.st wh8 S.sb S.er):=S8
         have HA8:=Lib.hid A8
         clear r_ u0 u1 u2 u3 u4 u5 U7 R7 A8
         try clear rl7 ul7
         have z_:=S8.o23;have y_:=S8.of23
         have u0:=U8.c 0 rfl;have u1:=U8.c 1 rfl;have u2:=U8.c 2 rfl;have u3:=U8.c 3 rfl;have u4:=U8.c 4 rfl;have u5:=U8.c 5 rfl
         have r_:=R8.o8
         have zl:=S8.lt
         have ul:=U8.lt
         have rl:=R8.lt
         have CS8:=Lib.hid (fun (w':World) (F':FIn w' s0 jb cb B vj J nx vc lx S2)=>send_all HJ.out now hm 11 n S2 w' vc lx HSK.out (by have h:=HS20.out;omega) HCK.out (by omega) F')
         go_upto_region 9 with fail
         go_region_with fail
         all_goals
          have A9:=(HA8.out.url hsV (bs ra) (bs rb) (bs rc) (bs rd) (bs re) (bs rf)).set (S':={ { S with a:=bs ra,b:=bs rb,c:=bs rc,d:=bs rd,e:=bs re,f:=bs rf } with sm:=S.me }) hsV 15 (.string S.me) (fun _ _=>rfl) rfl rfl
          have A9:RedA w s0 jb cb B vj J nx vc S2 C V now vc lx ((setU6 w8 s0 (bs ra) (bs rb) (bs rc) (bs rd) (bs re) (bs rf)).setCell ⟨s0,15,none⟩ (.string S.me)):=by rw [<-HS2.out];exact A9
          obtain ⟨w9,hw9⟩:∃ w9:World,(setU6 w8 s0 (bs ra) (bs rb) (bs rc) (bs rd) (bs re) (bs rf)).setCell ⟨s0,15,none⟩ (.string S.me)=w9:=⟨_,rfl⟩
          rw [hw9] at A9
          rw [show (((((((w8.setCell ⟨s0,9,none⟩ (.string (bs ra))).setCell ⟨s0,10,none⟩ (.string (bs rb))).setCell ⟨s0,11,none⟩ (.string (bs rc))).setCell ⟨s0,12,none⟩ (.string (bs rd))).setCell ⟨s0,13,none⟩ (.string (bs re))).setCell ⟨s0,14,none⟩ (.string (bs rf))).setCell ⟨s0,15,none⟩ (.string S.me))=w9 from hw9]
          clear hw9
          clear z_
          clear y_ u0 u1 u2 u3 u4 u5 r_ zl ul rl
          have A9d:=A9.below (Below.refl _ w9).drew
          have V9:=A9.v
          have HA9:=Lib.hid A9d
          have v_:=V9.o3
          have vl:=V9.lt
          clear A9 A9d
          go_wp2_with (first
           | (go_at_call 116;(with_reducible refine (CS8.out w9.drew HA9.out.f).mono ?_);rintro e13 w13 hq13;have HQ:=Lib.hid (HA9.out.fin hq13);obtain ⟨oa,on,oc,rfl⟩:=stepq_shape hq13)
           | fail)
          go_ret
          have hq:=HQ.out
          rw [HC2.out,HE.out] at hq
          exact hq
end Go.Proofs.YtjdhaacmlpegoaaGreatDoor
