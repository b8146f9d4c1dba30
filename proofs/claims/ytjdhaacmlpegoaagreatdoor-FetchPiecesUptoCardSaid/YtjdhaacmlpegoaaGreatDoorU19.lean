/- Part 19 of what the proof needs: XM XN. -/
import Derived.Test.YtjdhaacmlpegoaaGreatDoorU18
set_option maxRecDepth 20000
set_option maxHeartbeats 16000000
set_option linter.unusedSimpArgs false
set_option linter.unusedVariables false
namespace Go.Proofs.YtjdhaacmlpegoaaGreatDoor
open Go.RowKit
theorem nextM_eq (st:Int)(m:ByteArray)(a b c d e:Bool)(h1:decide (st=303)=a)(h2:(m.toList == [72,69,65,68])=b)(h3:decide (st=301)=c)(h4:decide (st=302)=d)(h5:(m.toList == [80,79,83,84])=e):nextM st m=if (a && !b) || ((c || d) && e) then getS else m:=by subst h1 h2 h3 h4 h5;rfl
theorem RedA.keep [Prot]{w0 w w':World}{s0 jb cb B:Nat}{vj:Value}{J:List Ck}{nx:Int}{vc:Value}{S:FSt}{C C':List En}{V:Nat}{now:Int}{vc1:Value}{lx1:List Ee}{x:Ending}(h:RedA w0 s0 jb cb B vj J nx vc S C V now vc1 lx1 w)(q:KeepQ w s0 jb cb B vj J nx vc1 S C' x w')(hV:¬ Mu s0 jb cb vj vc1 V):
 ∃ vc2 lx2,RedA w0 s0 jb cb B vj J nx vc S C' V now vc2 lx2 w':=by obtain ⟨_,_,vc2,lx2,F2,hc,K2,hM2⟩:=q;exact ⟨vc2,lx2,F2,hc,h.k.trans K2 h.k.size h.m,fun b hb e=>h.m b hb (hM2 b (Ko hb h.k.size) e),h.v.kp K2 h.v.lt hV⟩
theorem N12{p:Prop}(h:p:=by
 clear A11
 go_wp2_with (first
  | ((with_reducible refine (CS.out _ F12).mono ?_);rintro e13 w13 hq13;have HQ:=Kb (A12.fin hq13);obtain ⟨oa,on,oc,rfl⟩:=stepq_shape hq13)
  | fail)
 go_ret
 have hq:=HQ.out
 rw [HA10.out.c,HE2.out] at hq
 exact hq
 ):p:=h
theorem N69{p:Prop}(h:p:=by
 go_wp2_with (first
  | ((with_reducible refine (CF.out _ _ _ _ HA5.out.f _).mono ?_); rintro e9 w9 hq9; have HQ := Kb (HA5.out.fin hq9); obtain ⟨oa, on, oc, rfl⟩ := stepq_shape hq9
    )
  | fail)
 go_ret
 have hq:=HQ.out
 first
  |rw [HA5.out.c] at hq
   have e:failO S C1 16=o:=by rw [<-HO.out];unfold redirF;rw [Kf h10]
   rw [e] at hq
   exact hq
  |rw [HA6.out.c] at hq
   have e:failO { S with ho:=S.ho+1 } C1 15=o:=by rw [<-HO.out];unfold redirF;rw [Ke h10,HRS.out];simp only;rw [Ke (by rw [HWB.out];decide),Kf (by rw [HFG.out,Kx H2.out];rfl)]
   rw [e] at hq
   exact hq
 ):p:=h
theorem M1{p:Prop}(h:p:=by
 have HA10:=Kb (HA9.out.below h910)
 have U10:=U9.next h910
 clear z0 z1 z2 z3 z4 z5 z6 z7 z8 z9 z10 z11 z12 z13 z14 z15 z16 z17 z18 z19 z20 z21 z22 y0 y1 y2 y3 y4 y5 y6 y7 y8 y9 y10 y11 y12 y13 y14 y15 y16 y17 y18 y19 y20 y21 y22
 clear u0 u1 u2 u3 u4 u5 g_ zl ul
 obtain ⟨vh10,wh10,S10,_,_⟩:=HA10.out.f.cells
 have S10:AtL w10 s0 (fsC S.tk S.me S.ur S.og S.mo vh10 S.qb S.ck S.ph S.a S.b S.c S.d S.e S.f S.sm ((S.ho:Int)+1) S.ch S.hi S.st wh10 S.sb S.er):=S10
 have z0:=S10.c 0 rfl;have z1:=S10.c 1 rfl;have z2:=S10.c 2 rfl;have z3:=S10.c 3 rfl;have z4:=S10.c 4 rfl;have z5:=S10.c 5 rfl;have z6:=S10.c 6 rfl;have z7:=S10.c 7 rfl;have z8:=S10.c 8 rfl;have z9:=S10.c 9 rfl;have z10:=S10.c 10 rfl;have z11:=S10.c 11 rfl;have z12:=S10.c 12 rfl;have z13:=S10.c 13 rfl;have z14:=S10.c 14 rfl;have z15:=S10.c 15 rfl;have z16:=S10.c 16 rfl;have z17:=S10.c 17 rfl;have z18:=S10.c 18 rfl;have z19:=S10.c 19 rfl;have z20:=S10.c 20 rfl;have z21:=S10.c 21 rfl;have z22:=S10.c 22 rfl;have y0:=S10.f 0 rfl;have y1:=S10.f 1 rfl;have y2:=S10.f 2 rfl;have y3:=S10.f 3 rfl;have y4:=S10.f 4 rfl;have y5:=S10.f 5 rfl;have y6:=S10.f 6 rfl;have y7:=S10.f 7 rfl;have y8:=S10.f 8 rfl;have y9:=S10.f 9 rfl;have y10:=S10.f 10 rfl;have y11:=S10.f 11 rfl;have y12:=S10.f 12 rfl;have y13:=S10.f 13 rfl;have y14:=S10.f 14 rfl;have y15:=S10.f 15 rfl;have y16:=S10.f 16 rfl;have y17:=S10.f 17 rfl;have y18:=S10.f 18 rfl;have y19:=S10.f 19 rfl;have y20:=S10.f 20 rfl;have y21:=S10.f 21 rfl;have y22:=S10.f 22 rfl
 have u0:=U10.c 0 rfl;have u1:=U10.c 1 rfl;have u2:=U10.c 2 rfl;have u3:=U10.c 3 rfl;have u4:=U10.c 4 rfl;have u5:=U10.c 5 rfl;have g_:=U10.of6
 have zl:=S10.lt
 have ul:=U10.lt
 obtain ⟨S2,hS2⟩:∃ S2:FSt,{ setU S (ra,rb,rc,rd,re,rf) with ho:=S.ho+1,sm:=nextM st S.sm }=S2:=⟨_,rfl⟩
 have hok2:SOk S2:=by rw [<-hS2];exact HOK.out _
 have hho2:S2.ho=S.ho+1:=by rw [<-hS2]
 have e2:snd S2 C1=o:=by rw [<-hS2,<-HO.out];unfold redirF;rw [Ke h10,HRS.out];simp only;rw [Ke (by rw [HWB.out];decide),Ke (by rw [hcond];decide)]
 have CS:=Kb (fun (w':World) (F':FIn w' s0 jb cb B vj J nx vc5 lx5 S2)=>HSN.out S2 w' vc5 lx5 hok2 hho2 (by rw [HA10.out.c];exact HC1.out) F')
 have HE2:=Kb e2
 have HS2M:Hid (∀ m,nextM st S.sm=m->{ { { S with ho:=S.ho+1 } with a:=bs ra,b:=bs rb,c:=bs rc,d:=bs rd,e:=bs re,f:=FR } with sm:=m }=S2):=Kb (fun m hm=>by rw [<-hS2,<-hm,<-HFR.out];rfl)
 clear hS2 hok2 hho2 e2 hcond
 go_upto_region 16 with fail
 obtain ⟨w11,hw11⟩:∃ w11:World,(((((w10.setCell ⟨s0,9,none⟩ (.string (bs ra))).setCell ⟨s0,10,none⟩ (.string (bs rb))).setCell ⟨s0,11,none⟩ (.string (bs rc))).setCell ⟨s0,12,none⟩ (.string (bs rd))).setCell ⟨s0,13,none⟩ (.string (bs re))).setCell ⟨s0,14,none⟩ (.string FR)=w11:=⟨_,rfl⟩
 have A11:RedA w s0 jb cb B vj J nx vc { { S with ho:=S.ho+1 } with a:=bs ra,b:=bs rb,c:=bs rc,d:=bs rd,e:=bs re,f:=FR } C1 V now vc5 lx5 w11:=by rw [<-hw11];exact HA10.out.url hsV (bs ra) (bs rb) (bs rc) (bs rd) (bs re) FR
 rw [hw11]
 clear hw11
 clear z0 z1 z2 z3 z4 z5 z6 z7 z8 z9 z10 z11 z12 z13 z14 z15 z16 z17 z18 z19 z20 z21 z22 y0 y1 y2 y3 y4 y5 y6 y7 y8 y9 y10 y11 y12 y13 y14 y15 y16 y17 y18 y19 y20 y21 y22
 clear u0 u1 u2 u3 u4 u5 g_ zl ul
 obtain ⟨vh11,wh11,S11,_,_⟩:=A11.f.cells
 have S11:AtL w11 s0 (fsC S.tk S.me S.ur S.og S.mo vh11 S.qb S.ck S.ph (bs ra) (bs rb) (bs rc) (bs rd) (bs re) FR S.sm ((S.ho:Int)+1) S.ch S.hi S.st wh11 S.sb S.er):=S11
 have z15:=S11.c 15 rfl
 have y15:=S11.f 15 rfl
 have zl:=S11.lt
 have V11:=A11.v
 have v_:=V11.o3;have f_:=V11.of3
 have vl:=V11.lt
 by_cases q303:st=303
 ·subst q303
  cases hh:(S.sm.toList == [72,69,65,68]) with
  | true =>
    have hnm:nextM 303 S.sm=S.sm:=(nextM_eq 303 S.sm true true false false _ (by decide) hh (by decide) (by decide) rfl).trans rfl
    have A12:=A11
    have F12:FIn w11 s0 jb cb B vj J nx vc5 lx5 S2:=by
     rw [<-HS2M.out _ hnm]
     exact A12.f
    exact N12
  | false =>
    have hnm:nextM 303 S.sm=getS:=(nextM_eq 303 S.sm true false false false _ (by decide) hh (by decide) (by decide) rfl).trans rfl
    have A12:=A11.set (S':={ { { S with ho:=S.ho+1 } with a:=bs ra,b:=bs rb,c:=bs rc,d:=bs rd,e:=bs re,f:=FR } with sm:=getS }) hsV 15 (.string getS) (fun _ _=>rfl) rfl rfl
    have F12:FIn (w11.setCell ⟨s0,15,none⟩ (.string getS)) s0 jb cb B vj J nx vc5 lx5 S2:=by
     rw [<-HS2M.out _ hnm]
     exact A12.f
    exact N12
 ·by_cases q301:st=301
  ·subst q301
   cases hp:(S.sm.toList == [80,79,83,84]) with
   | true =>
     have hnm:nextM 301 S.sm=getS:=(nextM_eq 301 S.sm false _ true false true (by decide) rfl (by decide) (by decide) hp).trans rfl
     have A12:=A11.set (S':={ { { S with ho:=S.ho+1 } with a:=bs ra,b:=bs rb,c:=bs rc,d:=bs rd,e:=bs re,f:=FR } with sm:=getS }) hsV 15 (.string getS) (fun _ _=>rfl) rfl rfl
     have F12:FIn (w11.setCell ⟨s0,15,none⟩ (.string getS)) s0 jb cb B vj J nx vc5 lx5 S2:=by
      rw [<-HS2M.out _ hnm]
      exact A12.f
     exact N12
   | false =>
     have hnm:nextM 301 S.sm=S.sm:=(nextM_eq 301 S.sm false _ true false false (by decide) rfl (by decide) (by decide) hp).trans rfl
     have A12:=A11
     have F12:FIn w11 s0 jb cb B vj J nx vc5 lx5 S2:=by
      rw [<-HS2M.out _ hnm]
      exact A12.f
     exact N12
  ·by_cases q302:st=302
   ·subst q302
    cases hp:(S.sm.toList == [80,79,83,84]) with
    | true =>
      have hnm:nextM 302 S.sm=getS:=(nextM_eq 302 S.sm false _ false true true (by decide) rfl (by decide) (by decide) hp).trans rfl
      have A12:=A11.set (S':={ { { S with ho:=S.ho+1 } with a:=bs ra,b:=bs rb,c:=bs rc,d:=bs rd,e:=bs re,f:=FR } with sm:=getS }) hsV 15 (.string getS) (fun _ _=>rfl) rfl rfl
      have F12:FIn (w11.setCell ⟨s0,15,none⟩ (.string getS)) s0 jb cb B vj J nx vc5 lx5 S2:=by
       rw [<-HS2M.out _ hnm]
       exact A12.f
      exact N12
    | false =>
      have hnm:nextM 302 S.sm=S.sm:=(nextM_eq 302 S.sm false _ false true false (by decide) rfl (by decide) (by decide) hp).trans rfl
      have A12:=A11
      have F12:FIn w11 s0 jb cb B vj J nx vc5 lx5 S2:=by
       rw [<-HS2M.out _ hnm]
       exact A12.f
      exact N12
   ·have hnm:nextM st S.sm=S.sm:=(nextM_eq st S.sm false _ false false _ (Kj q303) rfl (Kj q301) (Kj q302) rfl).trans rfl
    have b303:(st == 303)=false:=Ki.2 q303
    have b301:(st == 301)=false:=Ki.2 q301
    have b302:(st == 302)=false:=Ki.2 q302
    clear q303 q301 q302
    have A12:=A11
    have F12:FIn w11 s0 jb cb B vj J nx vc5 lx5 S2:=by
     rw [<-HS2M.out _ hnm]
     exact A12.f
    exact N12
 ):p:=h
theorem redirect_is [Prot]{w:World}{s0 jb cb B:Nat}{vj:Value}{J:List Ck}{nx:Int}{vc:Value}{lx:List Ee}{S:FSt}{n m:Nat}(F:FIn w s0 jb cb B vj J nx vc lx S)(hS:SOk S)(hC:COk n m (lx.map (·.2)))(hn:n<=900)(hm:m<=800)
 (st:Int) (u:Value) (hd:List Hd) (hu:SlK hdC 2 w u hd) (hh:HOk m hd) (loc:ByteArray) (hl:loc.size<=300) (net:Bool) (hfm:net=true->FarM (Px (Mu s0 jb cb vj vc)) hd u) (now:Int) (snd:FSt->List En->Out)
 (hsnd:∀ (S2:FSt) (w':World) (vc2:Value) (lx2:List Ee),SOk S2->S2.ho=S.ho+1->COk (n+1) m (lx2.map (·.2))->FIn w' s0 jb cb B vj J nx vc2 lx2 S2->Calls Tryz.prog 116 #[.pointer (some ⟨s0,0,none⟩),envA jb cb now] w' (StepQ w' s0 jb cb B vj J nx vc2 (snd S2 (lx2.map (·.2)))))
 (o:Out) (ho:(if rdF S hd=false then failO S (lx.map (·.2)) 15 else redirF snd st loc S (if net then keepF S st hd eS now (lx.map (·.2)) else lx.map (·.2)))=o) :
 Calls Tryz.prog 128 #[.pointer (some ⟨s0,0,none⟩),.int .i64 st,u,.string loc,envA jb cb now,.bool net] w (StepQ w s0 jb cb B vj J nx vc o):=by
 have hal:=(Kc w).alloc lr (.cells (envL jb cb now).toArray 83)
 have V1:=AtL.new w (envL jb cb now) 83
 have F1:=F.below hal
 have hzd:=hh.hd (by omega)
 have hu1:=hu.below hal lr
 have hV1:¬ Mu s0 jb cb vj vc w.heap.size:=fun e=>by have:=F.env.mlt _ e;omega
 have hsV:s0≠w.heap.size:=by have:=F.env.ls;omega
 have A1:RedA w s0 jb cb B vj J nx vc S (lx.map (·.2)) w.heap.size now vc lx (w.alloc (.cells (envL jb cb now).toArray 83)):=⟨F1,rfl,Kp.of_below hal lr,fun _ _ e=>e,V1⟩
 obtain ⟨ua,uk,rfl,_⟩:=hu.shape
 obtain ⟨R,hR⟩:=Ka (rdF S hd)
 rw [hR] at ho
 have CR:=Kb (fun (w':World) (F':FIn w' s0 jb cb B vj J nx vc lx S) (hu':SlK hdC 2 w' (.slice ua hd.length uk) hd)=>(show Calls Tryz.prog 129 #[.pointer (some ⟨s0,0,none⟩),.slice ua hd.length uk] w' fun e w''=>e = .returned (.bool R)/\Below w'.heap.size w' w'' by
  obtain ⟨va,vk,wa,wk,S',_,_⟩:=F'.st
  exact rdb_is S s0 va vk _ w' F'.env.mx S' hS.u4 _ hd hu' hzd R hR))
 have CK:=Kb (fun (w':World) (F':FIn w' s0 jb cb B vj J nx vc lx S) (hu':Hs (Mu s0 jb cb vj vc) w' (.slice ua hd.length uk) hd)=>keep_is F' hS.u4 hS.q hS.r.1 (fun x hx=>(hC.ok x.2 (Zc hx)).va) (by have:=hC.len;rw [Za] at this;omega) st _ hd eS now hu' hzd)
 have CF:=Kb (fun (w':World) (vc':Value) (lx':List Ee) (S':FSt) (F':FIn w' s0 jb cb B vj J nx vc' lx' S') (e:Int)=>fail_is F' e)
 have HO:=Kb ho
 have HU:Hid (net=true->Hs (Mu s0 jb cb vj vc) w (.slice ua hd.length uk) hd):=Kb (fun h=>⟨hu,hfm h⟩)
 have HU1:=Kb hu1
 have HC1:Hid (COk (n+1) m (if net then keepF S st hd eS now (lx.map (·.2)) else lx.map (·.2))):=Kb (by
  cases net with
  | true=>exact hC.keep hS hm st hh (by decide) now
  | false=>exact ⟨Nat.le_succ_of_le hC.len,hC.ok⟩)
 have HSN:=Kb hsnd
 have HS:=Kb hS
 clear ho hsnd hu hu1 hfm hC hh hzd F
 obtain ⟨w1,hw1⟩:∃ w1:World,w.alloc (.cells (envL jb cb now).toArray 83)=w1:=⟨_,rfl⟩
 obtain ⟨V,hV⟩:=Ka w.heap.size
 rw [hw1] at A1 F1 V1 HU1 hal
 rw [hV] at A1 V1 hV1 hsV
 have HAL:=Kb hal
 clear F1 hal
 cases R with
 | false=>
   go_enter Tryz.func128,Tryz.ntmps128
   have v_:=V1.o3;have f_:=V1.of3
   have vl1:=V1.lt
   go_wp2_with (first
    | ((with_reducible refine (CR.out w1 A1.f HU1.out).mono ?_);rintro e2 w2 ⟨rfl,hb2⟩;have HA5:=Kb (A1.below hb2))
    | ((with_reducible refine (CF.out _ _ _ _ HA5.out.f _).mono ?_); rintro e9 w9 hq9; have HQ := Kb (HA5.out.fin hq9); obtain ⟨oa, on, oc, rfl⟩ := stepq_shape hq9
      )
    | fail)
   go_ret
   have hq:=HQ.out
   have e:failO S (lx.map (·.2)) 15=o:=(Kf trivial).symm.trans HO.out
   rw [e] at hq
   exact hq
 | true=>
   obtain ⟨C1,hC1⟩:=Ka (if net then keepF S st hd eS now (lx.map (·.2)) else lx.map (·.2))
   have ho:redirF snd st loc S C1=o:=by
    have:=HO.out
    rw [Ke (by decide),hC1] at this
    exact this
   rw [hC1] at HC1
   clear HO
   have hHs:=HU
   have HO:=Kb ho
   have HC:=Kb hC1
   clear ho hC1
   cases net
   all_goals
    go_enter Tryz.func128,Tryz.ntmps128
    have v_:=V1.o3;have f_:=V1.of3
    have vl1:=V1.lt
    go_upto_region 5 with (first
     | ((with_reducible refine (CR.out w1 A1.f HU1.out).mono ?_);rintro e2 w2 ⟨rfl,hb2⟩;have HA2:=Kb (A1.below hb2);have HU2:=Kb (fun h=>(hHs.out h).below (HAL.out.trans (hb2.mono HAL.out.size)));clear v_ f_;have V2:=V1.next hb2;have vl2:=V2.lt;have v_:=V2.o3;have f_:=V2.of3)
     | ((with_reducible refine (CK.out w2 HA2.out.f (HU2.out (by trivial))).mono ?_);rintro e3 w3 hq3;have HA3:=Kb (HA2.out.keep hq3 hV1);obtain ⟨rfl,-⟩:=hq3)
     | fail)
    first
     | (have HA5:Hid (∃ vc5 lx5,RedA w s0 jb cb B vj J nx vc S C1 V now vc5 lx5 w3):=Kb (by obtain ⟨vc5,lx5,A5⟩:=HA3.out;exact ⟨vc5,lx5,by rw [<-HC.out];exact A5⟩);obtain ⟨w5,hw5⟩:∃ w5:World,w5=w3:=⟨w3,rfl⟩;subst hw5)
     | (have HA5:Hid (∃ vc5 lx5,RedA w s0 jb cb B vj J nx vc S C1 V now vc5 lx5 w2):=Kb ⟨vc,lx,by rw [<-HC.out];exact HA2.out⟩;obtain ⟨w5,hw5⟩:∃ w5:World,w5=w2:=⟨w2,rfl⟩;subst hw5)
    obtain ⟨vc5,lx5,A5⟩:=HA5.out
    try clear v_ f_
    try clear vl2 V2
    clear HA5 vl1 V1 A1
    obtain ⟨vh5,wh5,S5,_,_⟩:=A5.f.cells
    have z0:=S5.c 0 rfl;have z1:=S5.c 1 rfl;have z2:=S5.c 2 rfl;have z3:=S5.c 3 rfl;have z4:=S5.c 4 rfl;have z5:=S5.c 5 rfl;have z6:=S5.c 6 rfl;have z7:=S5.c 7 rfl;have z8:=S5.c 8 rfl;have z9:=S5.c 9 rfl;have z10:=S5.c 10 rfl;have z11:=S5.c 11 rfl;have z12:=S5.c 12 rfl;have z13:=S5.c 13 rfl;have z14:=S5.c 14 rfl;have z15:=S5.c 15 rfl;have z16:=S5.c 16 rfl;have z17:=S5.c 17 rfl;have z18:=S5.c 18 rfl;have z19:=S5.c 19 rfl;have z20:=S5.c 20 rfl;have z21:=S5.c 21 rfl;have z22:=S5.c 22 rfl;have y0:=S5.f 0 rfl;have y1:=S5.f 1 rfl;have y2:=S5.f 2 rfl;have y3:=S5.f 3 rfl;have y4:=S5.f 4 rfl;have y5:=S5.f 5 rfl;have y6:=S5.f 6 rfl;have y7:=S5.f 7 rfl;have y8:=S5.f 8 rfl;have y9:=S5.f 9 rfl;have y10:=S5.f 10 rfl;have y11:=S5.f 11 rfl;have y12:=S5.f 12 rfl;have y13:=S5.f 13 rfl;have y14:=S5.f 14 rfl;have y15:=S5.f 15 rfl;have y16:=S5.f 16 rfl;have y17:=S5.f 17 rfl;have y18:=S5.f 18 rfl;have y19:=S5.f 19 rfl;have y20:=S5.f 20 rfl;have y21:=S5.f 21 rfl;have y22:=S5.f 22 rfl
    have zl:=S5.lt
    have V5:=A5.v
    have v_:=V5.o3;have f_:=V5.of3
    have vl5:=V5.lt
    have HA5:=Kb A5
    by_cases h10:10<=S.ho
    ·have h10i:(10:Int)<=(S.ho:Int):=by omega
     clear A5 S5 V5
     exact N69
    ·have h10i:¬ (10:Int)<=(S.ho:Int):=by omega
     have hb10:(S.ho:Int)<=10:=by omega
     have A6:=A5.set (S':={ S with ho:=S.ho+1 }) hsV 16 (.int .i64 ((S.ho:Int)+1)) (fun _ _=>rfl) rfl rfl
     clear A5 S5 V5 HA5
     go_upto_region 8 with fail
     obtain ⟨w6,hw6⟩:∃ w6:World,w5.setCell ⟨s0,16,none⟩ (.int .i64 ((S.ho:Int)+1))=w6:=⟨_,rfl⟩
     rw [hw6] at A6
     rw [hw6]
     clear hw6 v_ f_ vl5 zl
     clear z0 z1 z2 z3 z4 z5 z6 z7 z8 z9 z10 z11 z12 z13 z14 z15 z16 z17 z18 z19 z20 z21 z22
     clear y0 y1 y2 y3 y4 y5 y6 y7 y8 y9 y10 y11 y12 y13 y14 y15 y16 y17 y18 y19 y20 y21 y22
     obtain ⟨vh6,wh6,S6,_,_⟩:=A6.f.cells
     have S6:AtL w6 s0 (fsC S.tk S.me S.ur S.og S.mo vh6 S.qb S.ck S.ph S.a S.b S.c S.d S.e S.f S.sm ((S.ho:Int)+1) S.ch S.hi S.st wh6 S.sb S.er):=S6
     have z0:=S6.c 0 rfl;have z1:=S6.c 1 rfl;have z2:=S6.c 2 rfl;have z3:=S6.c 3 rfl;have z4:=S6.c 4 rfl;have z5:=S6.c 5 rfl;have z6:=S6.c 6 rfl;have z7:=S6.c 7 rfl;have z8:=S6.c 8 rfl;have z9:=S6.c 9 rfl;have z10:=S6.c 10 rfl;have z11:=S6.c 11 rfl;have z12:=S6.c 12 rfl;have z13:=S6.c 13 rfl;have z14:=S6.c 14 rfl;have z15:=S6.c 15 rfl;have z16:=S6.c 16 rfl;have z17:=S6.c 17 rfl;have z18:=S6.c 18 rfl;have z19:=S6.c 19 rfl;have z20:=S6.c 20 rfl;have z21:=S6.c 21 rfl;have z22:=S6.c 22 rfl;have y0:=S6.f 0 rfl;have y1:=S6.f 1 rfl;have y2:=S6.f 2 rfl;have y3:=S6.f 3 rfl;have y4:=S6.f 4 rfl;have y5:=S6.f 5 rfl;have y6:=S6.f 6 rfl;have y7:=S6.f 7 rfl;have y8:=S6.f 8 rfl;have y9:=S6.f 9 rfl;have y10:=S6.f 10 rfl;have y11:=S6.f 11 rfl;have y12:=S6.f 12 rfl;have y13:=S6.f 13 rfl;have y14:=S6.f 14 rfl;have y15:=S6.f 15 rfl;have y16:=S6.f 16 rfl;have y17:=S6.f 17 rfl;have y18:=S6.f 18 rfl;have y19:=S6.f 19 rfl;have y20:=S6.f 20 rfl;have y21:=S6.f 21 rfl;have y22:=S6.f 22 rfl
     have zl:=S6.lt
     have V6:=A6.v
     have v_:=V6.o3;have f_:=V6.of3
     have vl6:=V6.lt
     have HA6:=Kb A6
     clear A6 S6 V6
     cases hres:resolveL S.u (validB S.u) (trimL loc.data.toList) with
     | none=>
       have CRe:=Kb (fun (w':World) (hM:MaxAt w')=>rslv_none S HS.out.u4 loc (by omega) hres w' hM)
       have HRS:=Kb hres
       clear hres
       go_wp2_with (first
        | ((with_reducible refine (CRe.out w6 HA6.out.f.env.mx).mono ?_);rintro e7 w7 ⟨rfl,hb7⟩;have HA5:=Kb ((HA6.out.below hb7).below ((Kc w7).alloc lr (.cells #[.string ⟨#[]⟩,.string ⟨#[]⟩,.string ⟨#[]⟩,.string ⟨#[]⟩,.string ⟨#[]⟩,.string ⟨#[]⟩] 37))))
        | ((with_reducible refine (CF.out _ _ _ _ HA5.out.f _).mono ?_); rintro e9 w9 hq9; have HQ := Kb (HA5.out.fin hq9); obtain ⟨oa, on, oc, rfl⟩ := stepq_shape hq9
          )
        | fail)
       go_ret
       have hq:=HQ.out
       rw [HA6.out.c] at hq
       have e:failO { S with ho:=S.ho+1 } C1 17=o:=by rw [<-HO.out];unfold redirF;rw [Ke h10,HRS.out]
       rw [e] at hq
       exact hq
     | some r=>
       obtain ⟨ra,rb,rc,rd,re,rf⟩:=r
       have CRe:=Kb (fun (w':World) (hM:MaxAt w')=>rslv_some S HS.out.u4 loc (by omega) ra rb rc rd re rf hres w' hM)
       obtain ⟨WB,hWB⟩:=Ka (webB (bs ra))
       have CWe:=Kb (fun (w':World)=>web_is (bs ra) (bs rb) (bs rc) (bs rd) (bs re) (bs rf) w' WB hWB)
       have HRS:=Kb hres
       have HWB:=Kb hWB
       clear hres hWB
       cases WB with
       | false=>
         go_wp2_with (first
          | ((with_reducible refine (CRe.out w6 HA6.out.f.env.mx).mono ?_);rintro e7 w7 ⟨rfl,hb7⟩;have HA7:=Kb (HA6.out.below hb7);have ha7:=(Kc w7).alloc lr (.cells [.string (bs ra),.string (bs rb),.string (bs rc),.string (bs rd),.string (bs re),.string (bs rf)].toArray 37);have U7:=AtL.new w7 [.string (bs ra),.string (bs rb),.string (bs rc),.string (bs rd),.string (bs re),.string (bs rf)] 37;have u0:=U7.c 0 rfl;have u1:=U7.c 1 rfl;have u2:=U7.c 2 rfl;have u3:=U7.c 3 rfl;have u4:=U7.c 4 rfl;have u5:=U7.c 5 rfl;have ul7:=U7.lt)
          | ((with_reducible refine (CWe.out _).mono ?_);rintro e8 w8 ⟨rfl,hb8⟩;have HA5:=Kb (HA7.out.below (ha7.trans (hb8.mono ha7.size))))
          | ((with_reducible refine (CF.out _ _ _ _ HA5.out.f _).mono ?_); rintro e9 w9 hq9; have HQ := Kb (HA5.out.fin hq9); obtain ⟨oa, on, oc, rfl⟩ := stepq_shape hq9
            )
          | fail)
         go_ret
         have hq:=HQ.out
         rw [HA6.out.c] at hq
         have e:failO { S with ho:=S.ho+1 } C1 17=o:=by rw [<-HO.out];unfold redirF;rw [Ke h10,HRS.out];simp only;rw [Kf HWB.out]
         rw [e] at hq
         exact hq
       | true=>
         go_upto_region 11 with (first
          | ((with_reducible refine (CRe.out w6 HA6.out.f.env.mx).mono ?_);rintro e7 w7 ⟨rfl,hb7⟩;have HA7:=Kb (HA6.out.below hb7);have ha7:=(Kc w7).alloc lr (.cells [.string (bs ra),.string (bs rb),.string (bs rc),.string (bs rd),.string (bs re),.string (bs rf)].toArray 37);have U7:=AtL.new w7 [.string (bs ra),.string (bs rb),.string (bs rc),.string (bs rd),.string (bs re),.string (bs rf)] 37;have u0:=U7.c 0 rfl;have u1:=U7.c 1 rfl;have u2:=U7.c 2 rfl;have u3:=U7.c 3 rfl;have u4:=U7.c 4 rfl;have u5:=U7.c 5 rfl;have ul7:=U7.lt)
          | ((with_reducible refine (CWe.out _).mono ?_);rintro e8 w8 ⟨rfl,hb8⟩;have hB8:=ha7.trans (hb8.mono ha7.size);have U8:=U7.next hb8)
          | fail)
         obtain ⟨U,hU⟩:=Ka w7.heap.size
         rw [hU] at U8
         try rw [hU]
         have hUl:=U8.lt
         have hsU:s0≠U:=by have:=HA6.out.f.env.ls;have:=hb7.size;omega
         have hUV:U≠V:=by have:=HA6.out.v.lt;have:=hb7.size;omega
         have hUU:w7.heap.size<=U:=by omega
         have HUU:=Kb hU
         clear hU U7 ul7 u0 u1 u2 u3 u4 u5 v_ f_ vl6 zl
         clear z0 z1 z2 z3 z4 z5 z6 z7 z8 z9 z10 z11 z12 z13 z14 z15 z16 z17 z18 z19 z20 z21 z22
         clear y0 y1 y2 y3 y4 y5 y6 y7 y8 y9 y10 y11 y12 y13 y14 y15 y16 y17 y18 y19 y20 y21 y22
         obtain ⟨vh8,wh8,S8,_,_⟩:=(HA7.out.below hB8).f.cells
         have S8:AtL w8 s0 (fsC S.tk S.me S.ur S.og S.mo vh8 S.qb S.ck S.ph S.a S.b S.c S.d S.e S.f S.sm ((S.ho:Int)+1) S.ch S.hi S.st wh8 S.sb S.er):=S8
         have z0:=S8.c 0 rfl;have z1:=S8.c 1 rfl;have z2:=S8.c 2 rfl;have z3:=S8.c 3 rfl;have z4:=S8.c 4 rfl;have z5:=S8.c 5 rfl;have z6:=S8.c 6 rfl;have z7:=S8.c 7 rfl;have z8:=S8.c 8 rfl;have z9:=S8.c 9 rfl;have z10:=S8.c 10 rfl;have z11:=S8.c 11 rfl;have z12:=S8.c 12 rfl;have z13:=S8.c 13 rfl;have z14:=S8.c 14 rfl;have z15:=S8.c 15 rfl;have z16:=S8.c 16 rfl;have z17:=S8.c 17 rfl;have z18:=S8.c 18 rfl;have z19:=S8.c 19 rfl;have z20:=S8.c 20 rfl;have z21:=S8.c 21 rfl;have z22:=S8.c 22 rfl;have y0:=S8.f 0 rfl;have y1:=S8.f 1 rfl;have y2:=S8.f 2 rfl;have y3:=S8.f 3 rfl;have y4:=S8.f 4 rfl;have y5:=S8.f 5 rfl;have y6:=S8.f 6 rfl;have y7:=S8.f 7 rfl;have y8:=S8.f 8 rfl;have y9:=S8.f 9 rfl;have y10:=S8.f 10 rfl;have y11:=S8.f 11 rfl;have y12:=S8.f 12 rfl;have y13:=S8.f 13 rfl;have y14:=S8.f 14 rfl;have y15:=S8.f 15 rfl;have y16:=S8.f 16 rfl;have y17:=S8.f 17 rfl;have y18:=S8.f 18 rfl;have y19:=S8.f 19 rfl;have y20:=S8.f 20 rfl;have y21:=S8.f 21 rfl;have y22:=S8.f 22 rfl
         have zl:=S8.lt
         have u0:=U8.c 0 rfl;have u1:=U8.c 1 rfl;have u2:=U8.c 2 rfl;have u3:=U8.c 3 rfl;have u4:=U8.c 4 rfl;have u5:=U8.c 5 rfl;have g_:=U8.of6
         have hfe:(bs rf).toList.isEmpty=decide (rf=[]):=by rw [Kt,bs_list];cases rf <;> rfl
         obtain ⟨FR,hFR⟩:=Ka (if rf=[] then S.f else bs rf)
         have hx:(rf=[]/\(bs rf).toList.isEmpty=true/\S.f=FR)\/((bs rf).toList.isEmpty=false/\bs rf=FR):=by
          by_cases h:rf=[]
          ·exact .inl ⟨h,by rw [hfe,Kx h],by rw [<-hFR,Kf h]⟩
          ·exact .inr ⟨by rw [hfe,Kj h],by rw [<-hFR,Ke h]⟩
         have HFR:=Kb hFR
         have HS8:=Kb S8
         clear hfe hFR S8
         rcases hx with ⟨-,hfe,hf2⟩ | ⟨hfe,hf2⟩
         all_goals
          have HF2:=Kb hf2
          clear hf2
          go_upto_region 13 with fail
          first
           | (have U9:=U8.set 5 (.string S.f);have hB9:=hB8.setCell (p:=⟨U,5,none⟩) hUU (.string S.f);obtain ⟨w9,hw9⟩:∃ w9:World,w8.setCell ⟨U,5,none⟩ (.string S.f)=w9:=⟨_,rfl⟩;rw [hw9] at U9 hB9;rw [hw9];have U9:AtL w9 U [.string (bs ra),.string (bs rb),.string (bs rc),.string (bs rd),.string (bs re),.string FR]:=(by rw [<-HF2.out];exact U9);clear hw9)
           | (have U9:AtL w8 U [.string (bs ra),.string (bs rb),.string (bs rc),.string (bs rd),.string (bs re),.string FR]:=(by rw [<-HF2.out];exact U8);obtain ⟨w9,hw9⟩:∃ w9:World,w9=w8:=⟨w8,rfl⟩;subst hw9;have hB9:=hB8)
          have HA9:=Kb (HA7.out.below hB9)
          clear z0 z1 z2 z3 z4 z5 z6 z7 z8 z9 z10 z11 z12 z13 z14 z15 z16 z17 z18 z19 z20 z21 z22 y0 y1 y2 y3 y4 y5 y6 y7 y8 y9 y10 y11 y12 y13 y14 y15 y16 y17 y18 y19 y20 y21 y22
          clear u0 u1 u2 u3 u4 u5 g_ U8 hB8 hB9 hb8 hb7 ha7 hUU hfe zl hUl
          obtain ⟨vh9,wh9,S9,_,_⟩:=HA9.out.f.cells
          have S9:AtL w9 s0 (fsC S.tk S.me S.ur S.og S.mo vh9 S.qb S.ck S.ph S.a S.b S.c S.d S.e S.f S.sm ((S.ho:Int)+1) S.ch S.hi S.st wh9 S.sb S.er):=S9
          have z0:=S9.c 0 rfl;have z1:=S9.c 1 rfl;have z2:=S9.c 2 rfl;have z3:=S9.c 3 rfl;have z4:=S9.c 4 rfl;have z5:=S9.c 5 rfl;have z6:=S9.c 6 rfl;have z7:=S9.c 7 rfl;have z8:=S9.c 8 rfl;have z9:=S9.c 9 rfl;have z10:=S9.c 10 rfl;have z11:=S9.c 11 rfl;have z12:=S9.c 12 rfl;have z13:=S9.c 13 rfl;have z14:=S9.c 14 rfl;have z15:=S9.c 15 rfl;have z16:=S9.c 16 rfl;have z17:=S9.c 17 rfl;have z18:=S9.c 18 rfl;have z19:=S9.c 19 rfl;have z20:=S9.c 20 rfl;have z21:=S9.c 21 rfl;have z22:=S9.c 22 rfl;have y0:=S9.f 0 rfl;have y1:=S9.f 1 rfl;have y2:=S9.f 2 rfl;have y3:=S9.f 3 rfl;have y4:=S9.f 4 rfl;have y5:=S9.f 5 rfl;have y6:=S9.f 6 rfl;have y7:=S9.f 7 rfl;have y8:=S9.f 8 rfl;have y9:=S9.f 9 rfl;have y10:=S9.f 10 rfl;have y11:=S9.f 11 rfl;have y12:=S9.f 12 rfl;have y13:=S9.f 13 rfl;have y14:=S9.f 14 rfl;have y15:=S9.f 15 rfl;have y16:=S9.f 16 rfl;have y17:=S9.f 17 rfl;have y18:=S9.f 18 rfl;have y19:=S9.f 19 rfl;have y20:=S9.f 20 rfl;have y21:=S9.f 21 rfl;have y22:=S9.f 22 rfl
          have u0:=U9.c 0 rfl;have u1:=U9.c 1 rfl;have u2:=U9.c 2 rfl;have u3:=U9.c 3 rfl;have u4:=U9.c 4 rfl;have u5:=U9.c 5 rfl;have g_:=U9.of6
          have zl:=S9.lt
          have ul:=U9.lt
          have hok:=fun m=>HS.out.setU (by omega) hl HRS.out m
          have hzu:USize 40000 (bs ra) (bs rb) (bs rc) (bs rd) (bs re) FR:=by rw [<-HFR.out];exact (hok S.sm).u4
          obtain ⟨O,hO⟩:=Ka (bs (orgL (u6 (bs ra) (bs rb) (bs rc) (bs rd) (bs re) FR)))
          have CO:=Kb (fun (w':World) (hM:MaxAt w')=>origin_is (bs ra) (bs rb) (bs rc) (bs rd) (bs re) FR O w' hzu.a hzu.b hzu.c hzu.d hzu.e hzu.f hM (by rw [<-hO];rfl))
          obtain ⟨b0,hb0⟩:=Ka (O.toList == S.og.toList)
          have hfg:fgB (setU S (ra,rb,rc,rd,re,rf)) = !b0:=by
           show (!(orgL (u6 (bs ra) (bs rb) (bs rc) (bs rd) (bs re) (if rf=[] then S.f else bs rf)) == S.og.data.toList)) = !b0
           rw [HFR.out,<-hb0,<-hO,Kt,Kt,bs_list]
          have HFG:=Kb hfg
          have HOK:=Kb hok
          clear hfg hok hO hzu
          by_cases h2:S.mo=2
          ·have h2b:(S.mo == 2)=true:=by rw [h2];rfl
           have H2:=Kb h2
           clear h2
           go_region_held3 (fun w'=>w'.cell? ⟨s0,4,none⟩=some (.int .i64 S.mo)/\w'.cell? ⟨s0,3,none⟩=some (.string S.og)/\w'.cell? ⟨U,0,none⟩=some (.string (bs ra))/\w'.cell? ⟨U,1,none⟩=some (.string (bs rb))/\w'.cell? ⟨U,2,none⟩=some (.string (bs rc))/\w'.cell? ⟨U,3,none⟩=some (.string (bs rd))/\w'.cell? ⟨U,4,none⟩=some (.string (bs re))/\w'.cell? ⟨U,5,none⟩=some (.string FR))
            (first | exact u6_cells U9 z4 z3 (Kc w9).drew | exact u6_cells U9 z4 z3 h910 | go_keep)
            (first | ((with_reducible refine (CO.out w9.drew (HA9.out.f.env.mx.below (Kc w9).drew lr)).mono ?_);rintro e10 w10 ⟨rfl,hbb10⟩;have h910:Below w9.heap.size w9 w10:=(Below.refl w9.heap.size w9).drew.trans hbb10) | fail)
           cases b0 with
           | false =>
             have HA5:=Kb (HA9.out.below h910)
             exact N69
           | true =>
             have hcond:(decide (S.mo=2) && fgB (setU S (ra,rb,rc,rd,re,rf)))=false:=by rw [HFG.out];simp
             exact M1
          ·have h2b:(S.mo == 2)=false:=Ki.2 h2
           have hcond:(decide (S.mo=2) && fgB (setU S (ra,rb,rc,rd,re,rf)))=false:=by rw [Kj h2];rfl
           clear h2
           go_quiet (fail)
           obtain ⟨w10,hw10⟩:∃ w10:World,w9.drewN nq=w10:=⟨_,rfl⟩
           have h910:Below w9.heap.size w9 w10:=by rw [<-hw10];exact drewn_below _ _ _
           rw [hw10]
           clear hw10
           exact M1
theorem mov_has (st:Int):([301,302,303,307,308]:List Int).contains st=movB st:=by unfold movB;rw [Zm,Jb,List.contains_iff_mem];simp
theorem FIn.head [Prot]{w:World}{s0 jb cb B:Nat}{vj:Value}{J:List Ck}{nx:Int}{vc:Value}{lx:List Ee}{S:FSt}(h:FIn w s0 jb cb B vj J nx vc lx S)(st:Int)(hd:List Hd)(ca:Option Addr)(cc:Nat)(hn:Hs (Mu s0 jb cb vj vc) w (.slice ca hd.length cc) hd):
 FIn ((((w.setCell ⟨s0,19,none⟩ (.int .i64 st)).setCell ⟨s0,20,none⟩ (.slice ca hd.length cc)).setCell ⟨s0,21,none⟩ (.string ⟨#[]⟩)).setCell ⟨s0,8,none⟩ (.int .i64 2)) s0 jb cb B vj J nx vc lx { S with ph:=2,st:=st,hs:=hd,sb:=eS }:=by obtain ⟨E,va,vk,wa,wk,S0,hq,hh⟩:=h;have K:=((((Kp.refl w.heap.size (Mu s0 jb cb vj vc) w).setCell ⟨s0,19,none⟩ (.inl E.ms) (.int .i64 st)).setCell ⟨s0,20,none⟩ (.inl E.ms) (.slice ca hd.length cc)).setCell ⟨s0,21,none⟩ (.inl E.ms) (.string ⟨#[]⟩)).setCell ⟨s0,8,none⟩ (.inl E.ms) (.int .i64 2);exact ⟨(((E.set 19 _).set 20 _).set 21 _).set 8 _,va,vk,ca,cc,(((S0.set 19 (.int .i64 st)).set 20 (.slice ca hd.length cc)).set 21 (.string ⟨#[]⟩)).set 8 (.int .i64 2),hq.same K lr,hn.same K lr⟩
theorem RedA.head [Prot]{w w0:World}{s0 jb cb B:Nat}{vj:Value}{J:List Ck}{nx:Int}{vc:Value}{S:FSt}{C:List En}{V:Nat}{now:Int}{vc1:Value}{lx1:List Ee}(h:RedA w0 s0 jb cb B vj J nx vc S C V now vc1 lx1 w)(hV:s0≠V)(st:Int)(hd:List Hd)(ca:Option Addr)(cc:Nat)(hn:Hs (Mu s0 jb cb vj vc1) w (.slice ca hd.length cc) hd):
 RedA w0 s0 jb cb B vj J nx vc { S with ph:=2,st:=st,hs:=hd,sb:=eS } C V now vc1 lx1 ((((w.setCell ⟨s0,19,none⟩ (.int .i64 st)).setCell ⟨s0,20,none⟩ (.slice ca hd.length cc)).setCell ⟨s0,21,none⟩ (.string ⟨#[]⟩)).setCell ⟨s0,8,none⟩ (.int .i64 2)):=
 ⟨h.f.head st hd ca cc hn,h.c,(((h.k.setCell ⟨s0,19,none⟩ (.inl (.inl rfl)) _).setCell ⟨s0,20,none⟩ (.inl (.inl rfl)) _).setCell ⟨s0,21,none⟩ (.inl (.inl rfl)) _).setCell ⟨s0,8,none⟩ (.inl (.inl rfl)) _,h.m,(((h.v.far ⟨s0,19,none⟩ _ hV).far ⟨s0,20,none⟩ _ hV).far ⟨s0,21,none⟩ _ hV).far ⟨s0,8,none⟩ _ hV⟩
theorem new_hs [Prot]{w w':World}{s0 jb cb B:Nat}{vj:Value}{J:List Ck}{nx:Int}{vc:Value}{lx:List Ee}(E:EnvIn w s0 jb cb B vj vc J nx lx){hd:List Hd}{ca:Option Addr}{n cc:Nat}(hs:SlK hdC 2 w' (.slice ca n cc) hd)(hn:∀ b off n' k,Value.slice ca n cc = .slice (some ⟨b,off,none⟩) n' k->w.heap.size<=b):Hs (Mu s0 jb cb vj vc) w' (.slice ca n cc) hd:=
 ⟨hs,FarM.newP hn E.mlt E.px⟩
theorem take_is [Prot]{w:World}{s0 jb cb B:Nat}{vj:Value}{J:List Ck}{nx:Int}{vc:Value}{lx:List Ee}{S:FSt}{n m:Nat}(F:FIn w s0 jb cb B vj J nx vc lx S)(hS:SOk S)(hC:COk n m (lx.map (·.2)))(hn:n<=900)(hm:m<=800)
 (st:Int) (u:Value) (hd:List Hd) (hu:SlK hdC 2 w u hd) (hs0:FarM (fun b=>b=s0) hd u) (hh:HOk m hd) (net:Bool) (hfm:net=true->FarM (Px (Mu s0 jb cb vj vc)) hd u) (now:Int) (snd:FSt->List En->Out)
 (hsnd:∀ (S2:FSt) (w':World) (vc2:Value) (lx2:List Ee),SOk S2->S2.ho=S.ho+1->COk (n+1) m (lx2.map (·.2))->FIn w' s0 jb cb B vj J nx vc2 lx2 S2->Calls Tryz.prog 116 #[.pointer (some ⟨s0,0,none⟩),envA jb cb now] w' (StepQ w' s0 jb cb B vj J nx vc2 (snd S2 (lx2.map (·.2)))))
 (o:Out) (ho:takeF snd net now st hd S (lx.map (·.2))=o) :
 Calls Tryz.prog 78 #[.pointer (some ⟨s0,0,none⟩),.int .i64 st,u,envA jb cb now,.bool net] w (StepQ w s0 jb cb B vj J nx vc o):=by
 have hal:=(Kc w).alloc lr (.cells (envL jb cb now).toArray 83);have V1:=AtL.new w (envL jb cb now) 83;have F1:=F.below hal;have hzd:=hh.hd (by omega);have hu1:=hu.below hal lr;have hV1:¬ Mu s0 jb cb vj vc w.heap.size:=fun e=>by have:=F.env.mlt _ e;omega
 have hsV:s0≠w.heap.size:=by have:=F.env.ls;omega
 have A1:RedA w s0 jb cb B vj J nx vc S (lx.map (·.2)) w.heap.size now vc lx (w.alloc (.cells (envL jb cb now).toArray 83)):=⟨F1,rfl,Kp.of_below hal lr,fun _ _ e=>e,V1⟩
 obtain ⟨ua,uk,rfl,_⟩:=hu.shape;obtain ⟨Vl,hVl⟩:=Ka (valL hd loN.data.toList);obtain ⟨Bm,hBm⟩:=Ka ((hdrL hd loN.data.toList).isSome);have CH:=Kb (fun (w':World) hv=>hdr_at hd (.slice ua hd.length uk) ⟨#[76,111,99,97,116,105,111,110]⟩ w' hv hzd (by decide) Vl Bm hVl hBm);have CC:=Kb (fun (w':World)=>Tryz.slices_Contains_int w'.heap.size 0 5 5 [301,302,303,307,308] st (w'.alloc (.cells (([301,302,303,307,308]:List Int).map (Value.int .i64)).toArray 3)) lr (by decide) (fun j hj=>by rw [Jm];exact (AtL.new w' (([301,302,303,307,308]:List Int).map (Value.int .i64)) 3).c j (by rw [Zh,Jd hj];simp [List.getD_eq_getElem?_getD,Jd hj])));unfold takeF at ho;rw [hBm,hVl] at ho;obtain ⟨mv,hmv⟩:=Ka (movB st);rw [hmv] at ho;have hmc:(([301,302,303,307,308]:List Int).take 5).contains st=mv:=(mov_has st).trans hmv;rw [hmc] at CC;have hloc:Vl.size<=300:=by rw [<-hVl];exact hh.loc
 have CR:=Kb (fun (w':World) (hb:Below w.heap.size w w') (o':Out) ho'=>redirect_is (F.below hb) hS hC hn hm st (.slice ua hd.length uk) hd (hu.below hb lr) hh Vl hloc net hfm now snd hsnd o' ho');have CF:=Kb (fun (w':World) (vc':Value) (lx':List Ee) (S':FSt) (F':FIn w' s0 jb cb B vj J nx vc' lx' S') (e:Int)=>fail_is F' e);have CFg:=Kb (fun (w':World) (F':FIn w' s0 jb cb B vj J nx vc lx S)=>(show Calls Tryz.prog 126 #[.pointer (some ⟨s0,0,none⟩)] w' fun x w''=>x = .returned (.bool (fgB S))/\Below w'.heap.size w' w'' by obtain ⟨va,vk,wa,wk,S',_,_⟩:=F'.st;exact fgn_is F'.env.mx S' hS.u4 _ rfl));have CRd:=Kb (fun (w':World) (H:Bool) (R:Bool) (hR:rdF S hd=R) (F':FIn w' s0 jb cb B vj J nx vc lx { S with hi:=H }) (hu':SlK hdC 2 w' (.slice ua hd.length uk) hd)=>(show Calls Tryz.prog 129 #[.pointer (some ⟨s0,0,none⟩),.slice ua hd.length uk] w' fun e w''=>e = .returned (.bool R)/\Below w'.heap.size w' w'' by obtain ⟨va,vk,wa,wk,S',_,_⟩:=F'.st;exact rdb_is { S with hi:=H } s0 va vk _ w' F'.env.mx S' hS.u4 _ hd hu' hzd R hR));have CCl:=Kb (fun (w':World) (hv:SlK hdC 2 w' (.slice ua hd.length uk) hd)=>clo_is hd (.slice ua hd.length uk) w' hv hzd.1);obtain ⟨L,hL⟩:=Ka (woL hd [scN]);obtain ⟨T,hT⟩:=Ka (bs (formatL S.u))
 have CWo:=Kb (fun (w':World) (hv:SlK hdC 2 w' (.slice ua hd.length uk) hd)=>(show Calls Tryz.prog 125 #[.slice ua hd.length uk,.slice (some ⟨w'.heap.size,0,none⟩) 1 1] (w'.alloc (.cells [.string scN].toArray 9)).drew (HdsQ (w'.alloc (.cells [.string scN].toArray 9)).drew L) from
  without_is hd (.slice ua hd.length uk) [scN] w'.heap.size _ ((hv.below ((Kc w').alloc lr _) lr).below (Kc _).drew lr) hzd (by decide) (by intro n hn;obtain rfl:=Jc.1 hn;decide) (AtL.new w' [.string scN] 9).lt (fun i hi=>(AtL.new w' [.string scN] 9).drew.c i (by
   match i,hi with
   | 0,_=>rfl)) L hL))
 have CFo:=Kb (fun (w':World)=>format_is4 S.a S.b S.c S.d S.e S.f T w' (by have:=hS.u4.a;omega) (by have:=hS.u4.b;omega) (by have:=hS.u4.c;omega) (by have:=hS.u4.d;omega) (by have:=hS.u4.e;omega) (by have:=hS.u4.f;omega) (by rw [<-hT];rfl));have HO:=Kb ho;have HU:Hid (Hq (fun b=>b=s0) w (.slice ua hd.length uk) hd):=Kb ⟨hu,hs0⟩;have HU1:=Kb hu1;have HLT:=Kb (And.intro hL hT);clear ho hu hu1 hs0 hfm hC hh hzd hsnd hS hL hT F hVl hBm hmc;obtain ⟨w1,hw1⟩:∃ w1:World,w.alloc (.cells (envL jb cb now).toArray 83)=w1:=⟨_,rfl⟩
 obtain ⟨V,hV⟩:=Ka w.heap.size;rw [hw1] at A1 F1 V1 HU1 hal;rw [hV] at A1 V1 hV1 hsV;have HAL:=Kb hal;clear F1 hal;by_cases hmm:Bm=true/\mv=true
 ·obtain ⟨rfl,rfl⟩:=hmm;have ho:=HO.out;rw [Kf (by rfl)] at ho;have HR:=Kb ho;clear ho;go_enter Tryz.func78,Tryz.ntmps78;have v_:=V1.o3;have f_:=V1.of3;have vl1:=V1.lt
  go_wp2_with (first
   | (go_at_call 15;(refine (CH.out w1 HU1.out).mono ?_);rintro e2 w2 ⟨rfl,hb2⟩;clear v_ f_;have V2:=V1.next hb2)
   | (go_at_call 127;(refine (CC.out w2).mono ?_);rintro e3 w3 ⟨rfl,hw3⟩;have hb3:Below w2.heap.size w2 w3:=(by rw [hw3];exact (Kc _).alloc lr _);clear hw3;have V3:=V2.next hb3;have v_:=V3.o3;have f_:=V3.of3;have vl3:=V3.lt;have HB3:=Kb ((HAL.out.trans (hb2.mono HAL.out.size)).trans (hb3.mono (Kg HAL.out.size hb2.size))))
   | ((with_reducible refine (CR.out w3 HB3.out o HR.out).mono ?_);rintro e4 w4 hq4;have HQ:=Kb (hq4.below HB3.out);obtain ⟨oa,on,oc,rfl⟩:=stepq_shape hq4)
   | fail)
  go_ret;exact HQ.out
 ·have hoH:headO st hd S (lx.map (·.2))=o:=by have:=HO.out;rw [Ke (by simpa using hmm)] at this;exact this
  obtain ⟨H,hH⟩:=Ka (decide (S.mo=4) && fgB S);obtain ⟨R,hR⟩:=Ka (rdF S hd);have CRd2:=Kb (fun (w':World)=>CRd.out w' H R hR);unfold headO at hoH;rw [hR,hH,HLT.out.1,HLT.out.2] at hoH;have HO2:=Kb hoH;obtain ⟨FG,hFG⟩:=Ka (fgB S);have CFg2:=Kb (fun (w':World) F'=>(show Calls Tryz.prog 126 #[.pointer (some ⟨s0,0,none⟩)] w' fun x w''=>x = .returned (.bool FG)/\Below w'.heap.size w' w'' by rw [<-hFG];exact CFg.out w' F'));rw [hFG] at hH;clear hoH HO CRd CFg CR hR hFG;have hm4:((S.mo == 4)=true/\H=FG)\/((S.mo == 4)=false/\false=H):=by
   by_cases h4:S.mo=4
   ·exact .inl ⟨by rw [h4];rfl,by rw [<-hH,Kx h4];rfl⟩
   ·exact .inr ⟨Ki.2 h4,by rw [<-hH,Kj h4];rfl⟩
  clear hH;rcases hm4 with ⟨hm4,rfl⟩ | ⟨hm4,hF⟩ <;> cases Bm <;> cases mv;all_goals first | exact absurd ⟨rfl,rfl⟩ hmm | skip
  all_goals
   clear hmm
   try (have HF0:=Kb hF;clear hF)
   go_enter Tryz.func78,Tryz.ntmps78
   go_upto_region 5 with (first
    | (go_at_call 15;(refine (CH.out w1 HU1.out).mono ?_);rintro e2 wq ⟨rfl,hb2⟩;have HA2:=Kb (A1.below hb2);have HB2:=Kb (HAL.out.trans (hb2.mono HAL.out.size));obtain ⟨vh2,wh2,S2,_,_⟩:=HA2.out.f.cells;have z_:=S2.o23;have y_:=S2.of23;have zl2:=S2.lt;clear S2)
    | (go_at_call 127;(refine (CC.out wq).mono ?_);rintro e3 w3 ⟨rfl,hw3⟩;have hb3:Below wq.heap.size wq w3:=(by rw [hw3];exact (Kc _).alloc lr _);clear hw3;have HA3:=Kb (HA2.out.below hb3);have HB3:=Kb (HB2.out.trans (hb3.mono HB2.out.size));clear z_ y_;clear HA2 HB2 zl2 hb2 hb3;obtain ⟨wq,hwq⟩:∃ wq':World,wq'=w3:=⟨w3,rfl⟩;subst hwq;have HA2:=HA3;have HB2:=HB3;clear HA3 HB3;obtain ⟨vh2,wh2,S2,_,_⟩:=HA2.out.f.cells;have z_:=S2.o23;have y_:=S2.of23;have zl2:=S2.lt;clear S2)
    | (go_at_call 126;(refine (CFg2.out wq HA2.out.f).mono ?_);rintro e4 w4 ⟨rfl,hb4⟩;have HA4:=Kb (HA2.out.below hb4);have HB4:=Kb (HB2.out.trans (hb4.mono HB2.out.size));clear z_ y_;clear HA2 HB2 zl2 hb4;obtain ⟨wq,hwq⟩:∃ wq':World,wq'=w4:=⟨w4,rfl⟩;subst hwq;have HA2:=HA4;have HB2:=HB4;clear HA4 HB4;obtain ⟨vh2,wh2,S2,_,_⟩:=HA2.out.f.cells;have z_:=S2.o23;have y_:=S2.of23;have zl2:=S2.lt;clear S2)
    | fail)
   obtain ⟨w5,hw5⟩:∃ w5:World,wq.setCell ⟨s0,18,none⟩ (.bool H)=w5:=⟨_,rfl⟩
   have A5:RedA w s0 jb cb B vj J nx vc { S with hi:=H } (lx.map (·.2)) V now vc lx w5:=by rw [<-hw5];exact HA2.out.set hsV 18 (.bool H) (fun _ _=>rfl) rfl rfl
   first
    | rw [hw5]
    | rw [show wq.setCell ⟨s0,18,none⟩ (.bool false)=w5 by rw [<-hw5,<-HF0.out]]
    | fail
   clear z_ y_
   have HU5:Hid (Hq (fun b=>b=s0) w5 (.slice ua hd.length uk) hd):=Kb (HU.out.same (by rw [<-hw5];exact (Kp.of_below (M:=fun b=>b=s0) HB2.out lr).setCell ⟨s0,18,none⟩ (.inl rfl) _) lr)
   clear hw5 zl2 HA2 HB2
   have HA5:=Kb A5
   cases R with
   | false=>
     clear A5
     go_wp2_with (first
      | (go_at_call 129;(refine (CRd2.out w5 HA5.out.f HU5.out.1).mono ?_);rintro e6 w6 ⟨rfl,hb6⟩;have HA6:=Kb (HA5.out.below hb6))
      | (go_at_call 76;(refine (CF.out _ _ _ _ HA6.out.f _).mono ?_);rintro e9 w9 hq9;have HQ:=Kb (HA6.out.fin hq9);obtain ⟨oa,on,oc,rfl⟩:=stepq_shape hq9)
      | fail)
     go_ret
     have hq:=HQ.out
     have e:failO { S with hi:=H } (lx.map (·.2)) 15=o:=(Kf trivial).symm.trans HO2.out
     rw [e] at hq
     exact hq
   | true=>
     have ho2:(⟨{ S with ph:=2,hi:=H,st:=st,hs:=hd,sb:=eS },lx.map (·.2),[if H then ⟨2,eS,eS,[],eS,0,0⟩ else ⟨2,eS,T,L,eS,st,0⟩]⟩:Out)=o:=(Ke (by decide)).symm.trans HO2.out
     have HO3:=Kb ho2
     clear ho2 HO2 A5
     go_upto_region 9 with (first
      | (go_at_call 129;(refine (CRd2.out w5 HA5.out.f HU5.out.1).mono ?_);rintro e6 w6 ⟨rfl,hb6⟩;have HA6:=Kb (HA5.out.below hb6);have HU6:=Kb (HU5.out.1.below hb6 lr))
      | (go_at_call 69;(refine (CCl.out w6 HU6.out).mono ?_);rintro e7 w7 hq7;obtain ⟨ca,cc,rfl,hs7,hb7,hn7⟩:=cloq_open hq7;have HA7:=Kb (HA6.out.below hb7);have HN7:=Kb (new_hs HA6.out.f.env hs7 hn7);clear hq7 hs7 hn7;obtain ⟨vh2,wh2,S2,_,_⟩:=HA7.out.f.cells;have z_:=S2.o23;have y_:=S2.of23;have zl2:=S2.lt;clear S2)
      | fail)
     obtain ⟨w8,hw8⟩:∃ w8:World,(((w7.setCell ⟨s0,19,none⟩ (.int .i64 st)).setCell ⟨s0,20,none⟩ (.slice ca hd.length cc)).setCell ⟨s0,21,none⟩ (.string ⟨#[]⟩)).setCell ⟨s0,8,none⟩ (.int .i64 2)=w8:=⟨_,rfl⟩
     have A8:RedA w s0 jb cb B vj J nx vc { { S with hi:=H } with ph:=2,st:=st,hs:=hd,sb:=eS } (lx.map (·.2)) V now vc lx w8:=by rw [<-hw8];exact HA7.out.head hsV st hd ca cc HN7.out
     have HU8:Hid (SlK hdC 2 w8 (.slice ua hd.length uk) hd):=Kb (by
      rw [<-hw8]
      exact (((HU5.out.below hb6).below hb7).same (((((Kp.refl w7.heap.size (fun b=>b=s0) w7).setCell ⟨s0,19,none⟩ (.inl rfl) _).setCell ⟨s0,20,none⟩ (.inl rfl) _).setCell ⟨s0,21,none⟩ (.inl rfl) _).setCell ⟨s0,8,none⟩ (.inl rfl) _) lr).1)
     rw [hw8]
     clear z_ y_
     clear hw8 zl2 hb6 hb7 HA5 HA6 HA7 HU5 HU6
     obtain ⟨vh2,wh2,S8,_,_⟩:=A8.f.cells
     have S8:AtL w8 s0 (fsC S.tk S.me S.ur S.og S.mo vh2 S.qb S.ck 2 S.a S.b S.c S.d S.e S.f S.sm S.ho S.ch H st wh2 eS S.er):=S8
     have z_:=S8.o23;have y_:=S8.of23
     have zl2:=S8.lt
     have HA8:=Kb A8
     clear A8
     cases H with
     | true=>
       go_wp2_with fail
       go_ret
       rw [<-HO3.out]
       exact StepQ.one (w:=w) HA8.out.f.env HA8.out.f.st HA8.out.c HA8.out.k HA8.out.m (.slice none 0 0) ⟨2,eS,eS,[],eS,0,0⟩ (by first | rfl | simp) (Hs.nil _ _) _ rfl
     | false=>
       have HWO:=Kb (CWo.out w8 HU8.out)
       have hal8:Below w8.heap.size w8 (w8.alloc (.cells [.string scN].toArray 9)).drew:=((Kc w8).alloc lr _).drew
       go_upto_region 11 with fail
       go_region_held3 (fun w'=>w'.cell? ⟨s0,3,none⟩=some (.string S.og)/\w'.cell? ⟨s0,9,none⟩=some (.string S.a)/\w'.cell? ⟨s0,10,none⟩=some (.string S.b)/\w'.cell? ⟨s0,11,none⟩=some (.string S.c)/\w'.cell? ⟨s0,12,none⟩=some (.string S.d)/\w'.cell? ⟨s0,13,none⟩=some (.string S.e)/\w'.cell? ⟨s0,14,none⟩=some (.string S.f))
        (first | exact s7_mk S8 (Kc w8).drew | exact s7_mk S8 hal8 | exact s7_mk S8 h810 | exact s7_mk S8 h811 | go_keep)
        (first
          | (go_at_call 125;(refine HWO.out.mono ?_);rintro e10 w10 hq10;obtain ⟨v10,rfl,o10,_,hb10⟩:=hq10;obtain ⟨oa,oc,rfl,_⟩:=own_reads o10;have h810:Below w8.heap.size w8 w10:=hal8.trans (hb10.mono hal8.size))
          | (go_at_call 104;(refine (CFo.out _).mono ?_);rintro e11 w11 ⟨rfl,hb11⟩;have h811:Below w8.heap.size w8 w11:=h810.trans (hb11.mono h810.size);have HO11:=Kb (own_below o10 hb11 lr))
          | fail)
       go_wp2_with fail
       go_ret
       rw [<-HO3.out]
       exact StepQ.one (w:=w) (HA8.out.below h811).f.env (HA8.out.below h811).f.st HA8.out.c (HA8.out.below h811).k HA8.out.m (.slice oa L.length oc) ⟨2,eS,T,L,eS,st,0⟩ (by first | rfl | simp) (new_hs HA8.out.f.env (SlK.of_own hdC_len HO11.out) (fun b off n k e=>Kg hal8.size (own_nw HO11.out b off n k e))) _ rfl
end Go.Proofs.YtjdhaacmlpegoaaGreatDoor
