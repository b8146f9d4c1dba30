/- Part 34 of what the proof needs: XM. -/
import Derived.Test.YtjdhaacmlpegoaaGreatDoorP33
import Derived.Test.YtjdhaacmlpegoaaGreatDoorP01
set_option maxRecDepth 20000
set_option maxHeartbeats 16000000
namespace Go.Proofs.YtjdhaacmlpegoaaGreatDoor
open Go.RowKit
set_option linter.unusedSimpArgs false
set_option linter.unusedVariables false
theorem nextM_eq (st:Int)(m:ByteArray)(a b c d e:Bool)(h1:decide (st=303)=a)(h2:(m.toList == [72,69,65,68])=b)(h3:decide (st=301)=c)(h4:decide (st=302)=d)(h5:(m.toList == [80,79,83,84])=e):nextM st m=if (a && !b) || ((c || d) && e) then getS else m:=by
 subst h1 h2 h3 h4 h5;rfl
theorem RedA.keep [Prot]{w0 w w':World}{s0 jb cb B:Nat}{vj:Value}{J:List Ck}{nx:Int}{vc:Value}{S:FS}{C C':List En}{V:Nat}{now:Int}{vc1:Value}{lx1:List Ee}{x:Ending}(h:RedA w0 s0 jb cb B vj J nx vc S C V now vc1 lx1 w)(q:KeepQ w s0 jb cb B vj J nx vc1 S C' x w')(hV:¬ Mu s0 jb cb vj vc1 V):
 ∃ vc2 lx2,RedA w0 s0 jb cb B vj J nx vc S C' V now vc2 lx2 w':=by
 obtain ⟨_,_,vc2,lx2,F2,hc,K2,hM2⟩:=q
 exact ⟨vc2,lx2,F2,hc,h.k.trans K2 h.k.size h.m,fun b hb e=>h.m b hb (hM2 b (Nat.lt_of_lt_of_le hb h.k.size) e),h.v.kp K2 h.v.lt hV⟩
theorem redirect_is [Prot]{w:World}{s0 jb cb B:Nat}{vj:Value}{J:List Ck}{nx:Int}{vc:Value}{lx:List Ee}{S:FS}{n m:Nat}(F:FIn w s0 jb cb B vj J nx vc lx S)(hS:SOk S)(hC:COk n m (lx.map (·.2)))(hn:n<=900)(hm:m<=800)
 (st:Int) (u:Value) (hd:List Hd) (hu:SlK hdC 2 w u hd) (hh:HOk m hd) (loc:ByteArray) (hl:loc.size<=300) (net:Bool) (hfm:net=true->FarM (Px (Mu s0 jb cb vj vc)) hd u) (now:Int) (snd:FS->List En->Out)
 (hsnd:∀ (S2:FS) (w':World) (vc2:Value) (lx2:List Ee),SOk S2->S2.ho=S.ho+1->COk (n+1) m (lx2.map (·.2))->FIn w' s0 jb cb B vj J nx vc2 lx2 S2->Calls Tryz.prog 116 #[.pointer (some ⟨s0,0,none⟩),envA jb cb now] w' (StepQ w' s0 jb cb B vj J nx vc2 (snd S2 (lx2.map (·.2)))))
 (o:Out) (ho:(if rdF S hd=false then failO S (lx.map (·.2)) 15 else redirF snd st loc S (if net then keepF S st hd eS now (lx.map (·.2)) else lx.map (·.2)))=o) :
 Calls Tryz.prog 128 #[.pointer (some ⟨s0,0,none⟩),.int .i64 st,u,.string loc,envA jb cb now,.bool net] w (StepQ w s0 jb cb B vj J nx vc o):=by
 have hal:=(Below.refl _ w).alloc lr (.cells (envL jb cb now).toArray 83)
 have V1:=AtL.new w (envL jb cb now) 83
 have F1:=F.below hal
 have hzd:=hh.hd (by omega)
 have hu1:=hu.below hal lr
 have hV1:¬ Mu s0 jb cb vj vc w.heap.size:=fun e=>by have:=F.env.mlt _ e;omega
 have hsV:s0≠w.heap.size:=by have:=F.env.ls;omega
 have A1:RedA w s0 jb cb B vj J nx vc S (lx.map (·.2)) w.heap.size now vc lx (w.alloc (.cells (envL jb cb now).toArray 83)):=⟨F1,rfl,Kp.of_below hal lr,fun _ _ e=>e,V1⟩
 obtain ⟨ua,uk,rfl,_⟩:=hu.shape
 obtain ⟨R,hR⟩:∃ R,rdF S hd=R:=⟨_,rfl⟩
 rw [hR] at ho
 have CR:=Lib.hid (fun (w':World) (F':FIn w' s0 jb cb B vj J nx vc lx S) (hu':SlK hdC 2 w' (.slice ua hd.length uk) hd)=>(show Calls Tryz.prog 129 #[.pointer (some ⟨s0,0,none⟩),.slice ua hd.length uk] w' fun e w''=>e = .returned (.bool R)/\Below w'.heap.size w' w'' by
  obtain ⟨va,vk,wa,wk,S',_,_⟩:=F'.st
  exact rdb_is S s0 va vk _ w' F'.env.mx S' hS.u4 _ hd hu' hzd R hR))
 have CK:=Lib.hid (fun (w':World) (F':FIn w' s0 jb cb B vj J nx vc lx S) (hu':Hs (Mu s0 jb cb vj vc) w' (.slice ua hd.length uk) hd)=>keep_is F' hS.u4 hS.q hS.r.1 (fun x hx=>(hC.ok x.2 (List.mem_map_of_mem hx)).va) (by have:=hC.len;rw [List.length_map] at this;omega) st _ hd eS now hu' hzd)
 have CF:=Lib.hid (fun (w':World) (vc':Value) (lx':List Ee) (S':FS) (F':FIn w' s0 jb cb B vj J nx vc' lx' S') (e:Int)=>fail_is F' e)
 have HO:=Lib.hid ho
 have HU:Hid (net=true->Hs (Mu s0 jb cb vj vc) w (.slice ua hd.length uk) hd):=Lib.hid (fun h=>⟨hu,hfm h⟩)
 have HU1:=Lib.hid hu1
 have HC1:Hid (COk (n+1) m (if net then keepF S st hd eS now (lx.map (·.2)) else lx.map (·.2))):=Lib.hid (by
  cases net with
  | true=>exact hC.keep hS hm st hh (by decide) now
  | false=>exact ⟨Nat.le_succ_of_le hC.len,hC.ok⟩)
 have HSN:=Lib.hid hsnd
 have HS:=Lib.hid hS
 clear ho hsnd hu hu1 hfm hC hh hzd F
 obtain ⟨w1,hw1⟩:∃ w1:World,w.alloc (.cells (envL jb cb now).toArray 83)=w1:=⟨_,rfl⟩
 obtain ⟨V,hV⟩:∃ V,w.heap.size=V:=⟨_,rfl⟩
 rw [hw1] at A1 F1 V1 HU1 hal
 rw [hV] at A1 V1 hV1 hsV
 have HAL:=Lib.hid hal
 clear F1 hal
 cases R with
 | false=>
   go_enter Tryz.func128,Tryz.ntmps128
   have v_:=V1.o3;have f_:=V1.of3
   have vl1:=V1.lt
   go_wp2_with (first
    | (go_at_call 129;(with_reducible refine (CR.out w1 A1.f HU1.out).mono ?_);rintro e2 w2 ⟨rfl,hb2⟩;have HA5:=Lib.hid (A1.below hb2))
    | (go_at_call 76; (with_reducible refine (CF.out _ _ _ _ HA5.out.f _).mono ?_); rintro e9 w9 hq9; have HQ := Lib.hid (HA5.out.fin hq9); obtain ⟨oa, on, oc, rfl⟩ := stepq_shape hq9
      )
    | fail)
   go_ret
   have hq:=HQ.out
   have e:failO S (lx.map (·.2)) 15=o:=(if_pos trivial).symm.trans HO.out
   rw [e] at hq
   exact hq
 | true=>
   obtain ⟨C1,hC1⟩:∃ C1,(if net then keepF S st hd eS now (lx.map (·.2)) else lx.map (·.2))=C1:=⟨_,rfl⟩
   have ho:redirF snd st loc S C1=o:=by
    have:=HO.out
    rw [if_neg (by decide),hC1] at this
    exact this
   rw [hC1] at HC1
   clear HO
   have hHs:=HU
   have HO:=Lib.hid ho
   have HC:=Lib.hid hC1
   clear ho hC1
   cases net
   all_goals
    go_enter Tryz.func128,Tryz.ntmps128
    have v_:=V1.o3;have f_:=V1.of3
    have vl1:=V1.lt
    go_upto_region 5 with (first
     | (go_at_call 129;(with_reducible refine (CR.out w1 A1.f HU1.out).mono ?_);rintro e2 w2 ⟨rfl,hb2⟩;have HA2:=Lib.hid (A1.below hb2);have HU2:=Lib.hid (fun h=>(hHs.out h).below (HAL.out.trans (hb2.mono HAL.out.size)));clear v_ f_;have V2:=V1.next hb2;have vl2:=V2.lt;have v_:=V2.o3;have f_:=V2.of3)
     | (go_at_call 79;(with_reducible refine (CK.out w2 HA2.out.f (HU2.out (by trivial))).mono ?_);rintro e3 w3 hq3;have HA3:=Lib.hid (HA2.out.keep hq3 hV1);obtain ⟨rfl,-⟩:=hq3)
     | fail)
    first
     | (have HA5:Hid (∃ vc5 lx5,RedA w s0 jb cb B vj J nx vc S C1 V now vc5 lx5 w3):=Lib.hid (by obtain ⟨vc5,lx5,A5⟩:=HA3.out;exact ⟨vc5,lx5,by rw [<-HC.out];exact A5⟩);obtain ⟨w5,hw5⟩:∃ w5:World,w5=w3:=⟨w3,rfl⟩;subst hw5)
     | (have HA5:Hid (∃ vc5 lx5,RedA w s0 jb cb B vj J nx vc S C1 V now vc5 lx5 w2):=Lib.hid ⟨vc,lx,by rw [<-HC.out];exact HA2.out⟩;obtain ⟨w5,hw5⟩:∃ w5:World,w5=w2:=⟨w2,rfl⟩;subst hw5)
    obtain ⟨vc5,lx5,A5⟩:=HA5.out
    try clear v_ f_
    try clear vl2 V2
    clear HA5 vl1 V1 A1
    obtain ⟨vh5,wh5,S5,_,_⟩:=A5.f.cells
    have z0:=S5.c 0 rfl;have z1:=S5.c 1 rfl;have z2:=S5.c 2 rfl;have z3:=S5.c 3 rfl;have z4:=S5.c 4 rfl;have z5:=S5.c 5 rfl;have z6:=S5.c 6 rfl;have z7:=S5.c 7 rfl;have z8:=S5.c 8 rfl;have z9:=S5.c 9 rfl;have z10:=S5.c 10 rfl;have z11:=S5.c 11 rfl;have z12:=S5.c 12 rfl;have z13:=S5.c 13 rfl;have z14:=S5.c 14 rfl;have z15:=S5.c 15 rfl;have z16:=S5.c 16 rfl;have z17:=S5.c 17 rfl;have z18:=S5.c 18 rfl;have z19:=S5.c 19 rfl;have z20:=S5.c 20 rfl;have z21:=S5.c 21 rfl;have z22:=S5.c 22 rfl;have y0:=S5.f 0 rfl;have y1:=S5.f 1 rfl;have y2:=S5.f 2 rfl;have y3:=S5.f 3 rfl;have y4:=S5.f 4 rfl;have y5:=S5.f 5 rfl;have y6:=S5.f 6 rfl;have y7:=S5.f 7 rfl;have y8:=S5.f 8 rfl;have y9:=S5.f 9 rfl;have y10:=S5.f 10 rfl;have y11:=S5.f 11 rfl;have y12:=S5.f 12 rfl;have y13:=S5.f 13 rfl;have y14:=S5.f 14 rfl;have y15:=S5.f 15 rfl;have y16:=S5.f 16 rfl;have y17:=S5.f 17 rfl;have y18:=S5.f 18 rfl;have y19:=S5.f 19 rfl;have y20:=S5.f 20 rfl;have y21:=S5.f 21 rfl;have y22:=S5.f 22 rfl
    have zl:=S5.lt
    have V5:=A5.v
    have v_:=V5.o3;have f_:=V5.of3
    have vl5:=V5.lt
    have HA5:=Lib.hid A5
    by_cases h10:10<=S.ho
    ·have h10i:(10:Int)<=(S.ho:Int):=by omega
     clear A5 S5 V5
     go_wp2_with (first
      | (go_at_call 76; (with_reducible refine (CF.out _ _ _ _ HA5.out.f _).mono ?_); rintro e9 w9 hq9; have HQ := Lib.hid (HA5.out.fin hq9); obtain ⟨oa, on, oc, rfl⟩ := stepq_shape hq9
        )
      | fail)
     go_ret
     have hq:=HQ.out
     rw [HA5.out.c] at hq
     have e:failO S C1 16=o:=by rw [<-HO.out];unfold redirF;rw [if_pos h10]
     rw [e] at hq
     exact hq
    ·have h10i:¬ (10:Int)<=(S.ho:Int):=by omega
     have hb10:(S.ho:Int)<=10:=by omega
     have A6:=A5.set (S':={ S with ho:=S.ho+1 }) hsV 16 (.int .i64 ((S.ho:Int)+1)) (fun _ _=>rfl) rfl rfl
     clear A5 S5 V5 HA5
     go_upto_region 8 with fail
     obtain ⟨w6,hw6⟩:∃ w6:World,w5.setCell ⟨s0,16,none⟩ (.int .i64 ((S.ho:Int)+1))=w6:=⟨_,rfl⟩
     rw [hw6] at A6
     rw [hw6]
     clear hw6 v_ f_ vl5 zl
     clear z0 z1 z2 z3 z4 z5 z6 z7 z8 z9 z10 z11 z12 z13 z14 z15 z16 z17 z18 z19 z20 z21 z22
     clear y0 y1 y2 y3 y4 y5 y6 y7 y8 y9 y10 y11 y12 y13 y14 y15 y16 y17 y18 y19 y20 y21 y22
     obtain ⟨vh6,wh6,S6,_,_⟩:=A6.f.cells
     have S6:AtL w6 s0 (fsC S.tk S.me S.ur S.og S.mo vh6 S.qb S.ck S.ph S.a S.b S.c S.d S.e S.f S.sm ((S.ho:Int)+1) S.ch S.hi S.st wh6 S.sb S.er):=S6
     have z0:=S6.c 0 rfl;have z1:=S6.c 1 rfl;have z2:=S6.c 2 rfl;have z3:=S6.c 3 rfl;have z4:=S6.c 4 rfl;have z5:=S6.c 5 rfl;have z6:=S6.c 6 rfl;have z7:=S6.c 7 rfl;have z8:=S6.c 8 rfl;have z9:=S6.c 9 rfl;have z10:=S6.c 10 rfl;have z11:=S6.c 11 rfl;have z12:=S6.c 12 rfl;have z13:=S6.c 13 rfl;have z14:=S6.c 14 rfl;have z15:=S6.c 15 rfl;have z16:=S6.c 16 rfl;have z17:=S6.c 17 rfl;have z18:=S6.c 18 rfl;have z19:=S6.c 19 rfl;have z20:=S6.c 20 rfl;have z21:=S6.c 21 rfl;have z22:=S6.c 22 rfl;have y0:=S6.f 0 rfl;have y1:=S6.f 1 rfl;have y2:=S6.f 2 rfl;have y3:=S6.f 3 rfl;have y4:=S6.f 4 rfl;have y5:=S6.f 5 rfl;have y6:=S6.f 6 rfl;have y7:=S6.f 7 rfl;have y8:=S6.f 8 rfl;have y9:=S6.f 9 rfl;have y10:=S6.f 10 rfl;have y11:=S6.f 11 rfl;have y12:=S6.f 12 rfl;have y13:=S6.f 13 rfl;have y14:=S6.f 14 rfl;have y15:=S6.f 15 rfl;have y16:=S6.f 16 rfl;have y17:=S6.f 17 rfl;have y18:=S6.f 18 rfl;have y19:=S6.f 19 rfl;have y20:=S6.f 20 rfl;have y21:=S6.f 21 rfl;have y22:=S6.f 22 rfl
     have zl:=S6.lt
     have V6:=A6.v
     have v_:=V6.o3;have f_:=V6.of3
     have vl6:=V6.lt
     have HA6:=Lib.hid A6
     clear A6 S6 V6
     cases hres:resolveL S.u (validB S.u) (trimL loc.data.toList) with
     | none=>
       have CRe:=Lib.hid (fun (w':World) (hM:MaxAt w')=>rslv_none S HS.out.u4 loc (by omega) hres w' hM)
       have HRS:=Lib.hid hres
       clear hres
       go_wp2_with (first
        | (go_at_call 189;(with_reducible refine (CRe.out w6 HA6.out.f.env.mx).mono ?_);rintro e7 w7 ⟨rfl,hb7⟩;have HA5:=Lib.hid ((HA6.out.below hb7).below ((Below.refl _ w7).alloc lr (.cells #[.string ⟨#[]⟩,.string ⟨#[]⟩,.string ⟨#[]⟩,.string ⟨#[]⟩,.string ⟨#[]⟩,.string ⟨#[]⟩] 37))))
        | (go_at_call 76; (with_reducible refine (CF.out _ _ _ _ HA5.out.f _).mono ?_); rintro e9 w9 hq9; have HQ := Lib.hid (HA5.out.fin hq9); obtain ⟨oa, on, oc, rfl⟩ := stepq_shape hq9
          )
        | fail)
       go_ret
       have hq:=HQ.out
       rw [HA6.out.c] at hq
       have e:failO { S with ho:=S.ho+1 } C1 17=o:=by rw [<-HO.out];unfold redirF;rw [if_neg h10,HRS.out]
       rw [e] at hq
       exact hq
     | some r=>
       obtain ⟨ra,rb,rc,rd,re,rf⟩:=r
       have CRe:=Lib.hid (fun (w':World) (hM:MaxAt w')=>rslv_some S HS.out.u4 loc (by omega) ra rb rc rd re rf hres w' hM)
       obtain ⟨WB,hWB⟩:∃ WB,webB (bs ra)=WB:=⟨_,rfl⟩
       have CWe:=Lib.hid (fun (w':World)=>web_is (bs ra) (bs rb) (bs rc) (bs rd) (bs re) (bs rf) w' WB hWB)
       have HRS:=Lib.hid hres
       have HWB:=Lib.hid hWB
       clear hres hWB
       cases WB with
       | false=>
         go_wp2_with (first
          | (go_at_call 189;(with_reducible refine (CRe.out w6 HA6.out.f.env.mx).mono ?_);rintro e7 w7 ⟨rfl,hb7⟩;have HA7:=Lib.hid (HA6.out.below hb7);have ha7:=(Below.refl _ w7).alloc lr (.cells [.string (bs ra),.string (bs rb),.string (bs rc),.string (bs rd),.string (bs re),.string (bs rf)].toArray 37);have U7:=AtL.new w7 [.string (bs ra),.string (bs rb),.string (bs rc),.string (bs rd),.string (bs re),.string (bs rf)] 37;have u0:=U7.c 0 rfl;have u1:=U7.c 1 rfl;have u2:=U7.c 2 rfl;have u3:=U7.c 3 rfl;have u4:=U7.c 4 rfl;have u5:=U7.c 5 rfl;have ul7:=U7.lt)
          | (go_at_call 50;(with_reducible refine (CWe.out _).mono ?_);rintro e8 w8 ⟨rfl,hb8⟩;have HA5:=Lib.hid (HA7.out.below (ha7.trans (hb8.mono ha7.size))))
          | (go_at_call 76; (with_reducible refine (CF.out _ _ _ _ HA5.out.f _).mono ?_); rintro e9 w9 hq9; have HQ := Lib.hid (HA5.out.fin hq9); obtain ⟨oa, on, oc, rfl⟩ := stepq_shape hq9
            )
          | fail)
         go_ret
         have hq:=HQ.out
         rw [HA6.out.c] at hq
         have e:failO { S with ho:=S.ho+1 } C1 17=o:=by rw [<-HO.out];unfold redirF;rw [if_neg h10,HRS.out];simp only;rw [if_pos HWB.out]
         rw [e] at hq
         exact hq
       | true=>
         go_upto_region 11 with (first
          | (go_at_call 189;(with_reducible refine (CRe.out w6 HA6.out.f.env.mx).mono ?_);rintro e7 w7 ⟨rfl,hb7⟩;have HA7:=Lib.hid (HA6.out.below hb7);have ha7:=(Below.refl _ w7).alloc lr (.cells [.string (bs ra),.string (bs rb),.string (bs rc),.string (bs rd),.string (bs re),.string (bs rf)].toArray 37);have U7:=AtL.new w7 [.string (bs ra),.string (bs rb),.string (bs rc),.string (bs rd),.string (bs re),.string (bs rf)] 37;have u0:=U7.c 0 rfl;have u1:=U7.c 1 rfl;have u2:=U7.c 2 rfl;have u3:=U7.c 3 rfl;have u4:=U7.c 4 rfl;have u5:=U7.c 5 rfl;have ul7:=U7.lt)
          | (go_at_call 50;(with_reducible refine (CWe.out _).mono ?_);rintro e8 w8 ⟨rfl,hb8⟩;have hB8:=ha7.trans (hb8.mono ha7.size);have U8:=U7.next hb8)
          | fail)
         obtain ⟨U,hU⟩:∃ U,w7.heap.size=U:=⟨_,rfl⟩
         rw [hU] at U8
         try rw [hU]
         have hUl:=U8.lt
         have hsU:s0≠U:=by have:=HA6.out.f.env.ls;have:=hb7.size;omega
         have hUV:U≠V:=by have:=HA6.out.v.lt;have:=hb7.size;omega
         have hUU:w7.heap.size<=U:=by omega
         have HUU:=Lib.hid hU
         clear hU U7 ul7 u0 u1 u2 u3 u4 u5 v_ f_ vl6 zl
         clear z0 z1 z2 z3 z4 z5 z6 z7 z8 z9 z10 z11 z12 z13 z14 z15 z16 z17 z18 z19 z20 z21 z22
         clear y0 y1 y2 y3 y4 y5 y6 y7 y8 y9 y10 y11 y12 y13 y14 y15 y16 y17 y18 y19 y20 y21 y22
         obtain ⟨vh8,wh8,S8,_,_⟩:=(HA7.out.below hB8).f.cells
         have S8:AtL w8 s0 (fsC S.tk S.me S.ur S.og S.mo vh8 S.qb S.ck S.ph S.a S.b S.c S.d S.e S.f S.sm ((S.ho:Int)+1) S.ch S.hi S.st wh8 S.sb S.er):=S8
         have z0:=S8.c 0 rfl;have z1:=S8.c 1 rfl;have z2:=S8.c 2 rfl;have z3:=S8.c 3 rfl;have z4:=S8.c 4 rfl;have z5:=S8.c 5 rfl;have z6:=S8.c 6 rfl;have z7:=S8.c 7 rfl;have z8:=S8.c 8 rfl;have z9:=S8.c 9 rfl;have z10:=S8.c 10 rfl;have z11:=S8.c 11 rfl;have z12:=S8.c 12 rfl;have z13:=S8.c 13 rfl;have z14:=S8.c 14 rfl;have z15:=S8.c 15 rfl;have z16:=S8.c 16 rfl;have z17:=S8.c 17 rfl;have z18:=S8.c 18 rfl;have z19:=S8.c 19 rfl;have z20:=S8.c 20 rfl;have z21:=S8.c 21 rfl;have z22:=S8.c 22 rfl;have y0:=S8.f 0 rfl;have y1:=S8.f 1 rfl;have y2:=S8.f 2 rfl;have y3:=S8.f 3 rfl;have y4:=S8.f 4 rfl;have y5:=S8.f 5 rfl;have y6:=S8.f 6 rfl;have y7:=S8.f 7 rfl;have y8:=S8.f 8 rfl;have y9:=S8.f 9 rfl;have y10:=S8.f 10 rfl;have y11:=S8.f 11 rfl;have y12:=S8.f 12 rfl;have y13:=S8.f 13 rfl;have y14:=S8.f 14 rfl;have y15:=S8.f 15 rfl;have y16:=S8.f 16 rfl;have y17:=S8.f 17 rfl;have y18:=S8.f 18 rfl;have y19:=S8.f 19 rfl;have y20:=S8.f 20 rfl;have y21:=S8.f 21 rfl;have y22:=S8.f 22 rfl
         have zl:=S8.lt
         have u0:=U8.c 0 rfl;have u1:=U8.c 1 rfl;have u2:=U8.c 2 rfl;have u3:=U8.c 3 rfl;have u4:=U8.c 4 rfl;have u5:=U8.c 5 rfl;have g_:=U8.of6
         have hfe:(bs rf).toList.isEmpty=decide (rf=[]):=by rw [ByteArray.toList_eq,bs_list];cases rf <;> rfl
         obtain ⟨FR,hFR⟩:∃ FR,(if rf=[] then S.f else bs rf)=FR:=⟨_,rfl⟩
         have hx:(rf=[]/\(bs rf).toList.isEmpty=true/\S.f=FR)\/((bs rf).toList.isEmpty=false/\bs rf=FR):=by
          by_cases h:rf=[]
          ·exact .inl ⟨h,by rw [hfe,decide_eq_true h],by rw [<-hFR,if_pos h]⟩
          ·exact .inr ⟨by rw [hfe,decide_eq_false h],by rw [<-hFR,if_neg h]⟩
         have HFR:=Lib.hid hFR
         have HS8:=Lib.hid S8
         clear hfe hFR S8
         rcases hx with ⟨-,hfe,hf2⟩ | ⟨hfe,hf2⟩
         all_goals
          have HF2:=Lib.hid hf2
          clear hf2
          go_upto_region 13 with fail
          first
           | (have U9:=U8.set 5 (.string S.f);have hB9:=hB8.setCell (p:=⟨U,5,none⟩) hUU (.string S.f);obtain ⟨w9,hw9⟩:∃ w9:World,w8.setCell ⟨U,5,none⟩ (.string S.f)=w9:=⟨_,rfl⟩;rw [hw9] at U9 hB9;rw [hw9];have U9:AtL w9 U [.string (bs ra),.string (bs rb),.string (bs rc),.string (bs rd),.string (bs re),.string FR]:=(by rw [<-HF2.out];exact U9);clear hw9)
           | (have U9:AtL w8 U [.string (bs ra),.string (bs rb),.string (bs rc),.string (bs rd),.string (bs re),.string FR]:=(by rw [<-HF2.out];exact U8);obtain ⟨w9,hw9⟩:∃ w9:World,w9=w8:=⟨w8,rfl⟩;subst hw9;have hB9:=hB8)
          have HA9:=Lib.hid (HA7.out.below hB9)
          clear z0 z1 z2 z3 z4 z5 z6 z7 z8 z9 z10 z11 z12 z13 z14 z15 z16 z17 z18 z19 z20 z21 z22 y0 y1 y2 y3 y4 y5 y6 y7 y8 y9 y10 y11 y12 y13 y14 y15 y16 y17 y18 y19 y20 y21 y22
          clear u0 u1 u2 u3 u4 u5 g_ U8 hB8 hB9 hb8 hb7 ha7 hUU hfe zl hUl
          obtain ⟨vh9,wh9,S9,_,_⟩:=HA9.out.f.cells
          have S9:AtL w9 s0 (fsC S.tk S.me S.ur S.og S.mo vh9 S.qb S.ck S.ph S.a S.b S.c S.d S.e S.f S.sm ((S.ho:Int)+1) S.ch S.hi S.st wh9 S.sb S.er):=S9
          have z0:=S9.c 0 rfl;have z1:=S9.c 1 rfl;have z2:=S9.c 2 rfl;have z3:=S9.c 3 rfl;have z4:=S9.c 4 rfl;have z5:=S9.c 5 rfl;have z6:=S9.c 6 rfl;have z7:=S9.c 7 rfl;have z8:=S9.c 8 rfl;have z9:=S9.c 9 rfl;have z10:=S9.c 10 rfl;have z11:=S9.c 11 rfl;have z12:=S9.c 12 rfl;have z13:=S9.c 13 rfl;have z14:=S9.c 14 rfl;have z15:=S9.c 15 rfl;have z16:=S9.c 16 rfl;have z17:=S9.c 17 rfl;have z18:=S9.c 18 rfl;have z19:=S9.c 19 rfl;have z20:=S9.c 20 rfl;have z21:=S9.c 21 rfl;have z22:=S9.c 22 rfl;have y0:=S9.f 0 rfl;have y1:=S9.f 1 rfl;have y2:=S9.f 2 rfl;have y3:=S9.f 3 rfl;have y4:=S9.f 4 rfl;have y5:=S9.f 5 rfl;have y6:=S9.f 6 rfl;have y7:=S9.f 7 rfl;have y8:=S9.f 8 rfl;have y9:=S9.f 9 rfl;have y10:=S9.f 10 rfl;have y11:=S9.f 11 rfl;have y12:=S9.f 12 rfl;have y13:=S9.f 13 rfl;have y14:=S9.f 14 rfl;have y15:=S9.f 15 rfl;have y16:=S9.f 16 rfl;have y17:=S9.f 17 rfl;have y18:=S9.f 18 rfl;have y19:=S9.f 19 rfl;have y20:=S9.f 20 rfl;have y21:=S9.f 21 rfl;have y22:=S9.f 22 rfl
          have u0:=U9.c 0 rfl;have u1:=U9.c 1 rfl;have u2:=U9.c 2 rfl;have u3:=U9.c 3 rfl;have u4:=U9.c 4 rfl;have u5:=U9.c 5 rfl;have g_:=U9.of6
          have zl:=S9.lt
          have ul:=U9.lt
          have hok:=fun m=>HS.out.setU (by omega) hl HRS.out m
          have hzu:USize 40000 (bs ra) (bs rb) (bs rc) (bs rd) (bs re) FR:=by rw [<-HFR.out];exact (hok S.sm).u4
          obtain ⟨O,hO⟩:∃ O,bs (orgL (u6 (bs ra) (bs rb) (bs rc) (bs rd) (bs re) FR))=O:=⟨_,rfl⟩
          have CO:=Lib.hid (fun (w':World) (hM:MaxAt w')=>origin_is (bs ra) (bs rb) (bs rc) (bs rd) (bs re) FR O w' hzu.a hzu.b hzu.c hzu.d hzu.e hzu.f hM (by rw [<-hO];rfl))
          obtain ⟨b0,hb0⟩:∃ b0,(O.toList == S.og.toList)=b0:=⟨_,rfl⟩
          have hfg:fgB (setU S (ra,rb,rc,rd,re,rf)) = !b0:=by
           show (!(orgL (u6 (bs ra) (bs rb) (bs rc) (bs rd) (bs re) (if rf=[] then S.f else bs rf)) == S.og.data.toList)) = !b0
           rw [HFR.out,<-hb0,<-hO,ByteArray.toList_eq,ByteArray.toList_eq,bs_list]
          have HFG:=Lib.hid hfg
          have HOK:=Lib.hid hok
          clear hfg hok hO hzu
          by_cases h2:S.mo=2
          ·have h2b:(S.mo == 2)=true:=by rw [h2];rfl
           have H2:=Lib.hid h2
           clear h2
           go_region_held3 (fun w'=>w'.cell? ⟨s0,4,none⟩=some (.int .i64 S.mo)/\w'.cell? ⟨s0,3,none⟩=some (.string S.og)/\w'.cell? ⟨U,0,none⟩=some (.string (bs ra))/\w'.cell? ⟨U,1,none⟩=some (.string (bs rb))/\w'.cell? ⟨U,2,none⟩=some (.string (bs rc))/\w'.cell? ⟨U,3,none⟩=some (.string (bs rd))/\w'.cell? ⟨U,4,none⟩=some (.string (bs re))/\w'.cell? ⟨U,5,none⟩=some (.string FR))
            (first | exact u6_cells U9 z4 z3 (Below.refl _ w9).drew | exact u6_cells U9 z4 z3 h910 | go_keep)
            (first | (go_at_call 29;(with_reducible refine (CO.out w9.drew (HA9.out.f.env.mx.below (Below.refl _ w9).drew lr)).mono ?_);rintro e10 w10 ⟨rfl,hbb10⟩;have h910:Below w9.heap.size w9 w10:=(Below.refl w9.heap.size w9).drew.trans hbb10) | fail)
           cases b0 with
           | false =>
             have HA5:=Lib.hid (HA9.out.below h910)
             go_wp2_with (first
              | (go_at_call 76; (with_reducible refine (CF.out _ _ _ _ HA5.out.f _).mono ?_); rintro e9 w9 hq9; have HQ := Lib.hid (HA5.out.fin hq9); obtain ⟨oa, on, oc, rfl⟩ := stepq_shape hq9
                )
              | fail)
             go_ret
             have hq:=HQ.out
             rw [HA6.out.c] at hq
             have e:failO { S with ho:=S.ho+1 } C1 15=o:=by rw [<-HO.out];unfold redirF;rw [if_neg h10,HRS.out];simp only;rw [if_neg (by rw [HWB.out];decide),if_pos (by rw [HFG.out,decide_eq_true H2.out];rfl)]
             rw [e] at hq
             exact hq
           | true =>
             have hcond:(decide (S.mo=2) && fgB (setU S (ra,rb,rc,rd,re,rf)))=false:=by rw [HFG.out];simp
             have HA10:=Lib.hid (HA9.out.below h910)
             have U10:=U9.next h910
             clear z0 z1 z2 z3 z4 z5 z6 z7 z8 z9 z10 z11 z12 z13 z14 z15 z16 z17 z18 z19 z20 z21 z22 y0 y1 y2 y3 y4 y5 y6 y7 y8 y9 y10 y11 y12 y13 y14 y15 y16 y17 y18 y19 y20 y21 y22
             clear u0 u1 u2 u3 u4 u5 g_ zl ul
             obtain ⟨vh10,wh10,S10,_,_⟩:=HA10.out.f.cells
             have S10:AtL w10 s0 (fsC S.tk S.me S.ur S.og S.mo vh10 S.qb S.ck S.ph S.a S.b S.c S.d S.e S.f S.sm ((S.ho:Int)+1) S.ch S.hi S.st wh10 S.sb S.er):=S10
             have z0:=S10.c 0 rfl;have z1:=S10.c 1 rfl;have z2:=S10.c 2 rfl;have z3:=S10.c 3 rfl;have z4:=S10.c 4 rfl;have z5:=S10.c 5 rfl;have z6:=S10.c 6 rfl;have z7:=S10.c 7 rfl;have z8:=S10.c 8 rfl;have z9:=S10.c 9 rfl;have z10:=S10.c 10 rfl;have z11:=S10.c 11 rfl;have z12:=S10.c 12 rfl;have z13:=S10.c 13 rfl;have z14:=S10.c 14 rfl;have z15:=S10.c 15 rfl;have z16:=S10.c 16 rfl;have z17:=S10.c 17 rfl;have z18:=S10.c 18 rfl;have z19:=S10.c 19 rfl;have z20:=S10.c 20 rfl;have z21:=S10.c 21 rfl;have z22:=S10.c 22 rfl;have y0:=S10.f 0 rfl;have y1:=S10.f 1 rfl;have y2:=S10.f 2 rfl;have y3:=S10.f 3 rfl;have y4:=S10.f 4 rfl;have y5:=S10.f 5 rfl;have y6:=S10.f 6 rfl;have y7:=S10.f 7 rfl;have y8:=S10.f 8 rfl;have y9:=S10.f 9 rfl;have y10:=S10.f 10 rfl;have y11:=S10.f 11 rfl;have y12:=S10.f 12 rfl;have y13:=S10.f 13 rfl;have y14:=S10.f 14 rfl;have y15:=S10.f 15 rfl;have y16:=S10.f 16 rfl;have y17:=S10.f 17 rfl;have y18:=S10.f 18 rfl;have y19:=S10.f 19 rfl;have y20:=S10.f 20 rfl;have y21:=S10.f 21 rfl;have y22:=S10.f 22 rfl
             have u0:=U10.c 0 rfl;have u1:=U10.c 1 rfl;have u2:=U10.c 2 rfl;have u3:=U10.c 3 rfl;have u4:=U10.c 4 rfl;have u5:=U10.c 5 rfl;have g_:=U10.of6
             have zl:=S10.lt
             have ul:=U10.lt
             obtain ⟨S2,hS2⟩:∃ S2:FS,{ setU S (ra,rb,rc,rd,re,rf) with ho:=S.ho+1,sm:=nextM st S.sm }=S2:=⟨_,rfl⟩
             have hok2:SOk S2:=by rw [<-hS2];exact HOK.out _
             have hho2:S2.ho=S.ho+1:=by rw [<-hS2]
             have e2:snd S2 C1=o:=by rw [<-hS2,<-HO.out];unfold redirF;rw [if_neg h10,HRS.out];simp only;rw [if_neg (by rw [HWB.out];decide),if_neg (by rw [hcond];decide)]
             have CS:=Lib.hid (fun (w':World) (F':FIn w' s0 jb cb B vj J nx vc5 lx5 S2)=>HSN.out S2 w' vc5 lx5 hok2 hho2 (by rw [HA10.out.c];exact HC1.out) F')
             have HE2:=Lib.hid e2
             have HS2M:Hid (∀ m,nextM st S.sm=m->{ { { S with ho:=S.ho+1 } with a:=bs ra,b:=bs rb,c:=bs rc,d:=bs rd,e:=bs re,f:=FR } with sm:=m }=S2):=Lib.hid (fun m hm=>by rw [<-hS2,<-hm,<-HFR.out];rfl)
             clear hS2 hok2 hho2 e2 hcond
             go_upto_region 16 with fail
             obtain ⟨w11,hw11⟩:∃ w11:World,(((((w10.setCell ⟨s0,9,none⟩ (.string (bs ra))).setCell ⟨s0,10,none⟩ (.string (bs rb))).setCell ⟨s0,11,none⟩ (.string (bs rc))).setCell ⟨s0,12,none⟩ (.string (bs rd))).setCell ⟨s0,13,none⟩ (.string (bs re))).setCell ⟨s0,14,none⟩ (.string FR)=w11:=⟨_,rfl⟩
             have A11:RedA w s0 jb cb B vj J nx vc { { S with ho:=S.ho+1 } with a:=bs ra,b:=bs rb,c:=bs rc,d:=bs rd,e:=bs re,f:=FR } C1 V now vc5 lx5 w11:=by rw [<-hw11];exact HA10.out.url hsV (bs ra) (bs rb) (bs rc) (bs rd) (bs re) FR
             rw [hw11]
             clear hw11
             clear z0 z1 z2 z3 z4 z5 z6 z7 z8 z9 z10 z11 z12 z13 z14 z15 z16 z17 z18 z19 z20 z21 z22 y0 y1 y2 y3 y4 y5 y6 y7 y8 y9 y10 y11 y12 y13 y14 y15 y16 y17 y18 y19 y20 y21 y22
             clear u0 u1 u2 u3 u4 u5 g_ zl ul
             obtain ⟨vh11,wh11,S11,_,_⟩:=A11.f.cells
             have S11:AtL w11 s0 (fsC S.tk S.me S.ur S.og S.mo vh11 S.qb S.ck S.ph (bs ra) (bs rb) (bs rc) (bs rd) (bs re) FR S.sm ((S.ho:Int)+1) S.ch S.hi S.st wh11 S.sb S.er):=S11
             have z15:=S11.c 15 rfl
             have y15:=S11.f 15 rfl
             have zl:=S11.lt
             have V11:=A11.v
             have v_:=V11.o3;have f_:=V11.of3
             have vl:=V11.lt
             by_cases q303:st=303
             ·subst q303
              cases hh:(S.sm.toList == [72,69,65,68]) with
              | true =>
                have hnm:nextM 303 S.sm=S.sm:=(nextM_eq 303 S.sm true true false false _ (by decide) hh (by decide) (by decide) rfl).trans rfl
                have A12:=A11
                have F12:FIn w11 s0 jb cb B vj J nx vc5 lx5 S2:=by
                 rw [<-HS2M.out _ hnm]
                 exact A12.f
                clear A11
                go_wp2_with (first
                 | (go_at_call 116;(with_reducible refine (CS.out _ F12).mono ?_);rintro e13 w13 hq13;have HQ:=Lib.hid (A12.fin hq13);obtain ⟨oa,on,oc,rfl⟩:=stepq_shape hq13)
                 | fail)
                go_ret
                have hq:=HQ.out
                rw [HA10.out.c,HE2.out] at hq
                exact hq
              | false =>
                have hnm:nextM 303 S.sm=getS:=(nextM_eq 303 S.sm true false false false _ (by decide) hh (by decide) (by decide) rfl).trans rfl
                have A12:=A11.set (S':={ { { S with ho:=S.ho+1 } with a:=bs ra,b:=bs rb,c:=bs rc,d:=bs rd,e:=bs re,f:=FR } with sm:=getS }) hsV 15 (.string getS) (fun _ _=>rfl) rfl rfl
                have F12:FIn (w11.setCell ⟨s0,15,none⟩ (.string getS)) s0 jb cb B vj J nx vc5 lx5 S2:=by
                 rw [<-HS2M.out _ hnm]
                 exact A12.f
                clear A11
                go_wp2_with (first
                 | (go_at_call 116;(with_reducible refine (CS.out _ F12).mono ?_);rintro e13 w13 hq13;have HQ:=Lib.hid (A12.fin hq13);obtain ⟨oa,on,oc,rfl⟩:=stepq_shape hq13)
                 | fail)
                go_ret
                have hq:=HQ.out
                rw [HA10.out.c,HE2.out] at hq
                exact hq
             ·by_cases q301:st=301
              ·subst q301
               cases hp:(S.sm.toList == [80,79,83,84]) with
               | true =>
                 have hnm:nextM 301 S.sm=getS:=(nextM_eq 301 S.sm false _ true false true (by decide) rfl (by decide) (by decide) hp).trans rfl
                 have A12:=A11.set (S':={ { { S with ho:=S.ho+1 } with a:=bs ra,b:=bs rb,c:=bs rc,d:=bs rd,e:=bs re,f:=FR } with sm:=getS }) hsV 15 (.string getS) (fun _ _=>rfl) rfl rfl
                 have F12:FIn (w11.setCell ⟨s0,15,none⟩ (.string getS)) s0 jb cb B vj J nx vc5 lx5 S2:=by
                  rw [<-HS2M.out _ hnm]
                  exact A12.f
                 clear A11
                 go_wp2_with (first
                  | (go_at_call 116;(with_reducible refine (CS.out _ F12).mono ?_);rintro e13 w13 hq13;have HQ:=Lib.hid (A12.fin hq13);obtain ⟨oa,on,oc,rfl⟩:=stepq_shape hq13)
                  | fail)
                 go_ret
                 have hq:=HQ.out
                 rw [HA10.out.c,HE2.out] at hq
                 exact hq
               | false =>
                 have hnm:nextM 301 S.sm=S.sm:=(nextM_eq 301 S.sm false _ true false false (by decide) rfl (by decide) (by decide) hp).trans rfl
                 have A12:=A11
                 have F12:FIn w11 s0 jb cb B vj J nx vc5 lx5 S2:=by
                  rw [<-HS2M.out _ hnm]
                  exact A12.f
                 clear A11
                 go_wp2_with (first
                  | (go_at_call 116;(with_reducible refine (CS.out _ F12).mono ?_);rintro e13 w13 hq13;have HQ:=Lib.hid (A12.fin hq13);obtain ⟨oa,on,oc,rfl⟩:=stepq_shape hq13)
                  | fail)
                 go_ret
                 have hq:=HQ.out
                 rw [HA10.out.c,HE2.out] at hq
                 exact hq
              ·by_cases q302:st=302
               ·subst q302
                cases hp:(S.sm.toList == [80,79,83,84]) with
                | true =>
                  have hnm:nextM 302 S.sm=getS:=(nextM_eq 302 S.sm false _ false true true (by decide) rfl (by decide) (by decide) hp).trans rfl
                  have A12:=A11.set (S':={ { { S with ho:=S.ho+1 } with a:=bs ra,b:=bs rb,c:=bs rc,d:=bs rd,e:=bs re,f:=FR } with sm:=getS }) hsV 15 (.string getS) (fun _ _=>rfl) rfl rfl
                  have F12:FIn (w11.setCell ⟨s0,15,none⟩ (.string getS)) s0 jb cb B vj J nx vc5 lx5 S2:=by
                   rw [<-HS2M.out _ hnm]
                   exact A12.f
                  clear A11
                  go_wp2_with (first
                   | (go_at_call 116;(with_reducible refine (CS.out _ F12).mono ?_);rintro e13 w13 hq13;have HQ:=Lib.hid (A12.fin hq13);obtain ⟨oa,on,oc,rfl⟩:=stepq_shape hq13)
                   | fail)
                  go_ret
                  have hq:=HQ.out
                  rw [HA10.out.c,HE2.out] at hq
                  exact hq
                | false =>
                  have hnm:nextM 302 S.sm=S.sm:=(nextM_eq 302 S.sm false _ false true false (by decide) rfl (by decide) (by decide) hp).trans rfl
                  have A12:=A11
                  have F12:FIn w11 s0 jb cb B vj J nx vc5 lx5 S2:=by
                   rw [<-HS2M.out _ hnm]
                   exact A12.f
                  clear A11
                  go_wp2_with (first
                   | (go_at_call 116;(with_reducible refine (CS.out _ F12).mono ?_);rintro e13 w13 hq13;have HQ:=Lib.hid (A12.fin hq13);obtain ⟨oa,on,oc,rfl⟩:=stepq_shape hq13)
                   | fail)
                  go_ret
                  have hq:=HQ.out
                  rw [HA10.out.c,HE2.out] at hq
                  exact hq
               ·have hnm:nextM st S.sm=S.sm:=(nextM_eq st S.sm false _ false false _ (decide_eq_false q303) rfl (decide_eq_false q301) (decide_eq_false q302) rfl).trans rfl
                have b303:(st == 303)=false:=beq_eq_false_iff_ne.2 q303
                have b301:(st == 301)=false:=beq_eq_false_iff_ne.2 q301
                have b302:(st == 302)=false:=beq_eq_false_iff_ne.2 q302
                clear q303 q301 q302
                have A12:=A11
                have F12:FIn w11 s0 jb cb B vj J nx vc5 lx5 S2:=by
                 rw [<-HS2M.out _ hnm]
                 exact A12.f
                clear A11
                go_wp2_with (first
                 | (go_at_call 116;(with_reducible refine (CS.out _ F12).mono ?_);rintro e13 w13 hq13;have HQ:=Lib.hid (A12.fin hq13);obtain ⟨oa,on,oc,rfl⟩:=stepq_shape hq13)
                 | fail)
                go_ret
                have hq:=HQ.out
                rw [HA10.out.c,HE2.out] at hq
                exact hq
          ·have h2b:(S.mo == 2)=false:=beq_eq_false_iff_ne.2 h2
           have hcond:(decide (S.mo=2) && fgB (setU S (ra,rb,rc,rd,re,rf)))=false:=by rw [decide_eq_false h2];rfl
           clear h2
           go_quiet (fail)
           obtain ⟨w10,hw10⟩:∃ w10:World,w9.drewN nq=w10:=⟨_,rfl⟩
           have h910:Below w9.heap.size w9 w10:=by rw [<-hw10];exact drewn_below _ _ _
           rw [hw10]
           clear hw10
           have HA10:=Lib.hid (HA9.out.below h910)
           have U10:=U9.next h910
           clear z0 z1 z2 z3 z4 z5 z6 z7 z8 z9 z10 z11 z12 z13 z14 z15 z16 z17 z18 z19 z20 z21 z22 y0 y1 y2 y3 y4 y5 y6 y7 y8 y9 y10 y11 y12 y13 y14 y15 y16 y17 y18 y19 y20 y21 y22
           clear u0 u1 u2 u3 u4 u5 g_ zl ul
           obtain ⟨vh10,wh10,S10,_,_⟩:=HA10.out.f.cells
           have S10:AtL w10 s0 (fsC S.tk S.me S.ur S.og S.mo vh10 S.qb S.ck S.ph S.a S.b S.c S.d S.e S.f S.sm ((S.ho:Int)+1) S.ch S.hi S.st wh10 S.sb S.er):=S10
           have z0:=S10.c 0 rfl;have z1:=S10.c 1 rfl;have z2:=S10.c 2 rfl;have z3:=S10.c 3 rfl;have z4:=S10.c 4 rfl;have z5:=S10.c 5 rfl;have z6:=S10.c 6 rfl;have z7:=S10.c 7 rfl;have z8:=S10.c 8 rfl;have z9:=S10.c 9 rfl;have z10:=S10.c 10 rfl;have z11:=S10.c 11 rfl;have z12:=S10.c 12 rfl;have z13:=S10.c 13 rfl;have z14:=S10.c 14 rfl;have z15:=S10.c 15 rfl;have z16:=S10.c 16 rfl;have z17:=S10.c 17 rfl;have z18:=S10.c 18 rfl;have z19:=S10.c 19 rfl;have z20:=S10.c 20 rfl;have z21:=S10.c 21 rfl;have z22:=S10.c 22 rfl;have y0:=S10.f 0 rfl;have y1:=S10.f 1 rfl;have y2:=S10.f 2 rfl;have y3:=S10.f 3 rfl;have y4:=S10.f 4 rfl;have y5:=S10.f 5 rfl;have y6:=S10.f 6 rfl;have y7:=S10.f 7 rfl;have y8:=S10.f 8 rfl;have y9:=S10.f 9 rfl;have y10:=S10.f 10 rfl;have y11:=S10.f 11 rfl;have y12:=S10.f 12 rfl;have y13:=S10.f 13 rfl;have y14:=S10.f 14 rfl;have y15:=S10.f 15 rfl;have y16:=S10.f 16 rfl;have y17:=S10.f 17 rfl;have y18:=S10.f 18 rfl;have y19:=S10.f 19 rfl;have y20:=S10.f 20 rfl;have y21:=S10.f 21 rfl;have y22:=S10.f 22 rfl
           have u0:=U10.c 0 rfl;have u1:=U10.c 1 rfl;have u2:=U10.c 2 rfl;have u3:=U10.c 3 rfl;have u4:=U10.c 4 rfl;have u5:=U10.c 5 rfl;have g_:=U10.of6
           have zl:=S10.lt
           have ul:=U10.lt
           obtain ⟨S2,hS2⟩:∃ S2:FS,{ setU S (ra,rb,rc,rd,re,rf) with ho:=S.ho+1,sm:=nextM st S.sm }=S2:=⟨_,rfl⟩
           have hok2:SOk S2:=by rw [<-hS2];exact HOK.out _
           have hho2:S2.ho=S.ho+1:=by rw [<-hS2]
           have e2:snd S2 C1=o:=by rw [<-hS2,<-HO.out];unfold redirF;rw [if_neg h10,HRS.out];simp only;rw [if_neg (by rw [HWB.out];decide),if_neg (by rw [hcond];decide)]
           have CS:=Lib.hid (fun (w':World) (F':FIn w' s0 jb cb B vj J nx vc5 lx5 S2)=>HSN.out S2 w' vc5 lx5 hok2 hho2 (by rw [HA10.out.c];exact HC1.out) F')
           have HE2:=Lib.hid e2
           have HS2M:Hid (∀ m,nextM st S.sm=m->{ { { S with ho:=S.ho+1 } with a:=bs ra,b:=bs rb,c:=bs rc,d:=bs rd,e:=bs re,f:=FR } with sm:=m }=S2):=Lib.hid (fun m hm=>by rw [<-hS2,<-hm,<-HFR.out];rfl)
           clear hS2 hok2 hho2 e2 hcond
           go_upto_region 16 with fail
           obtain ⟨w11,hw11⟩:∃ w11:World,(((((w10.setCell ⟨s0,9,none⟩ (.string (bs ra))).setCell ⟨s0,10,none⟩ (.string (bs rb))).setCell ⟨s0,11,none⟩ (.string (bs rc))).setCell ⟨s0,12,none⟩ (.string (bs rd))).setCell ⟨s0,13,none⟩ (.string (bs re))).setCell ⟨s0,14,none⟩ (.string FR)=w11:=⟨_,rfl⟩
           have A11:RedA w s0 jb cb B vj J nx vc { { S with ho:=S.ho+1 } with a:=bs ra,b:=bs rb,c:=bs rc,d:=bs rd,e:=bs re,f:=FR } C1 V now vc5 lx5 w11:=by rw [<-hw11];exact HA10.out.url hsV (bs ra) (bs rb) (bs rc) (bs rd) (bs re) FR
           rw [hw11]
           clear hw11
           clear z0 z1 z2 z3 z4 z5 z6 z7 z8 z9 z10 z11 z12 z13 z14 z15 z16 z17 z18 z19 z20 z21 z22 y0 y1 y2 y3 y4 y5 y6 y7 y8 y9 y10 y11 y12 y13 y14 y15 y16 y17 y18 y19 y20 y21 y22
           clear u0 u1 u2 u3 u4 u5 g_ zl ul
           obtain ⟨vh11,wh11,S11,_,_⟩:=A11.f.cells
           have S11:AtL w11 s0 (fsC S.tk S.me S.ur S.og S.mo vh11 S.qb S.ck S.ph (bs ra) (bs rb) (bs rc) (bs rd) (bs re) FR S.sm ((S.ho:Int)+1) S.ch S.hi S.st wh11 S.sb S.er):=S11
           have z15:=S11.c 15 rfl
           have y15:=S11.f 15 rfl
           have zl:=S11.lt
           have V11:=A11.v
           have v_:=V11.o3;have f_:=V11.of3
           have vl:=V11.lt
           by_cases q303:st=303
           ·subst q303
            cases hh:(S.sm.toList == [72,69,65,68]) with
            | true =>
              have hnm:nextM 303 S.sm=S.sm:=(nextM_eq 303 S.sm true true false false _ (by decide) hh (by decide) (by decide) rfl).trans rfl
              have A12:=A11
              have F12:FIn w11 s0 jb cb B vj J nx vc5 lx5 S2:=by
               rw [<-HS2M.out _ hnm]
               exact A12.f
              clear A11
              go_wp2_with (first
               | (go_at_call 116;(with_reducible refine (CS.out _ F12).mono ?_);rintro e13 w13 hq13;have HQ:=Lib.hid (A12.fin hq13);obtain ⟨oa,on,oc,rfl⟩:=stepq_shape hq13)
               | fail)
              go_ret
              have hq:=HQ.out
              rw [HA10.out.c,HE2.out] at hq
              exact hq
            | false =>
              have hnm:nextM 303 S.sm=getS:=(nextM_eq 303 S.sm true false false false _ (by decide) hh (by decide) (by decide) rfl).trans rfl
              have A12:=A11.set (S':={ { { S with ho:=S.ho+1 } with a:=bs ra,b:=bs rb,c:=bs rc,d:=bs rd,e:=bs re,f:=FR } with sm:=getS }) hsV 15 (.string getS) (fun _ _=>rfl) rfl rfl
              have F12:FIn (w11.setCell ⟨s0,15,none⟩ (.string getS)) s0 jb cb B vj J nx vc5 lx5 S2:=by
               rw [<-HS2M.out _ hnm]
               exact A12.f
              clear A11
              go_wp2_with (first
               | (go_at_call 116;(with_reducible refine (CS.out _ F12).mono ?_);rintro e13 w13 hq13;have HQ:=Lib.hid (A12.fin hq13);obtain ⟨oa,on,oc,rfl⟩:=stepq_shape hq13)
               | fail)
              go_ret
              have hq:=HQ.out
              rw [HA10.out.c,HE2.out] at hq
              exact hq
           ·by_cases q301:st=301
            ·subst q301
             cases hp:(S.sm.toList == [80,79,83,84]) with
             | true =>
               have hnm:nextM 301 S.sm=getS:=(nextM_eq 301 S.sm false _ true false true (by decide) rfl (by decide) (by decide) hp).trans rfl
               have A12:=A11.set (S':={ { { S with ho:=S.ho+1 } with a:=bs ra,b:=bs rb,c:=bs rc,d:=bs rd,e:=bs re,f:=FR } with sm:=getS }) hsV 15 (.string getS) (fun _ _=>rfl) rfl rfl
               have F12:FIn (w11.setCell ⟨s0,15,none⟩ (.string getS)) s0 jb cb B vj J nx vc5 lx5 S2:=by
                rw [<-HS2M.out _ hnm]
                exact A12.f
               clear A11
               go_wp2_with (first
                | (go_at_call 116;(with_reducible refine (CS.out _ F12).mono ?_);rintro e13 w13 hq13;have HQ:=Lib.hid (A12.fin hq13);obtain ⟨oa,on,oc,rfl⟩:=stepq_shape hq13)
                | fail)
               go_ret
               have hq:=HQ.out
               rw [HA10.out.c,HE2.out] at hq
               exact hq
             | false =>
               have hnm:nextM 301 S.sm=S.sm:=(nextM_eq 301 S.sm false _ true false false (by decide) rfl (by decide) (by decide) hp).trans rfl
               have A12:=A11
               have F12:FIn w11 s0 jb cb B vj J nx vc5 lx5 S2:=by
                rw [<-HS2M.out _ hnm]
                exact A12.f
               clear A11
               go_wp2_with (first
                | (go_at_call 116;(with_reducible refine (CS.out _ F12).mono ?_);rintro e13 w13 hq13;have HQ:=Lib.hid (A12.fin hq13);obtain ⟨oa,on,oc,rfl⟩:=stepq_shape hq13)
                | fail)
               go_ret
               have hq:=HQ.out
               rw [HA10.out.c,HE2.out] at hq
               exact hq
            ·by_cases q302:st=302
             ·subst q302
              cases hp:(S.sm.toList == [80,79,83,84]) with
              | true =>
                have hnm:nextM 302 S.sm=getS:=(nextM_eq 302 S.sm false _ false true true (by decide) rfl (by decide) (by decide) hp).trans rfl
                have A12:=A11.set (S':={ { { S with ho:=S.ho+1 } with a:=bs ra,b:=bs rb,c:=bs rc,d:=bs rd,e:=bs re,f:=FR } with sm:=getS }) hsV 15 (.string getS) (fun _ _=>rfl) rfl rfl
                have F12:FIn (w11.setCell ⟨s0,15,none⟩ (.string getS)) s0 jb cb B vj J nx vc5 lx5 S2:=by
                 rw [<-HS2M.out _ hnm]
                 exact A12.f
                clear A11
                go_wp2_with (first
                 | (go_at_call 116;(with_reducible refine (CS.out _ F12).mono ?_);rintro e13 w13 hq13;have HQ:=Lib.hid (A12.fin hq13);obtain ⟨oa,on,oc,rfl⟩:=stepq_shape hq13)
                 | fail)
                go_ret
                have hq:=HQ.out
                rw [HA10.out.c,HE2.out] at hq
                exact hq
              | false =>
                have hnm:nextM 302 S.sm=S.sm:=(nextM_eq 302 S.sm false _ false true false (by decide) rfl (by decide) (by decide) hp).trans rfl
                have A12:=A11
                have F12:FIn w11 s0 jb cb B vj J nx vc5 lx5 S2:=by
                 rw [<-HS2M.out _ hnm]
                 exact A12.f
                clear A11
                go_wp2_with (first
                 | (go_at_call 116;(with_reducible refine (CS.out _ F12).mono ?_);rintro e13 w13 hq13;have HQ:=Lib.hid (A12.fin hq13);obtain ⟨oa,on,oc,rfl⟩:=stepq_shape hq13)
                 | fail)
                go_ret
                have hq:=HQ.out
                rw [HA10.out.c,HE2.out] at hq
                exact hq
             ·have hnm:nextM st S.sm=S.sm:=(nextM_eq st S.sm false _ false false _ (decide_eq_false q303) rfl (decide_eq_false q301) (decide_eq_false q302) rfl).trans rfl
              have b303:(st == 303)=false:=beq_eq_false_iff_ne.2 q303
              have b301:(st == 301)=false:=beq_eq_false_iff_ne.2 q301
              have b302:(st == 302)=false:=beq_eq_false_iff_ne.2 q302
              clear q303 q301 q302
              have A12:=A11
              have F12:FIn w11 s0 jb cb B vj J nx vc5 lx5 S2:=by
               rw [<-HS2M.out _ hnm]
               exact A12.f
              clear A11
              go_wp2_with (first
               | (go_at_call 116;(with_reducible refine (CS.out _ F12).mono ?_);rintro e13 w13 hq13;have HQ:=Lib.hid (A12.fin hq13);obtain ⟨oa,on,oc,rfl⟩:=stepq_shape hq13)
               | fail)
              go_ret
              have hq:=HQ.out
              rw [HA10.out.c,HE2.out] at hq
              exact hq
end Go.Proofs.YtjdhaacmlpegoaaGreatDoor
