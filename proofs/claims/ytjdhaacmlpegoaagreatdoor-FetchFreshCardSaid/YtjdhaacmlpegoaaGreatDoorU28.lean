/- Part 28 of what the proof needs: YF Y4. -/
import Derived.Test.YtjdhaacmlpegoaaGreatDoorU25
set_option maxRecDepth 20000
set_option maxHeartbeats 16000000
set_option linter.unusedSimpArgs false
set_option linter.unusedVariables false
namespace Go.Proofs.YtjdhaacmlpegoaaGreatDoor
open Go.RowKit
theorem ok_dir:dirL okHs=⟨false,false,false,60⟩:=by
 unfold dirL okHs;rw [Xc,Xc,List.foldl_nil];have e1:dirOne ⟨false,false,false,-1⟩ (ccB,maB)=⟨false,false,false,60⟩:=by
  unfold dirOne;rw [Kf (by show lowL ccB.data.toList=ccN;decide +kernel)];have:wordsL maB.data.toList=[[109,97,120,45,97,103,101,61,54,48]]:=by decide +kernel
  show (wordsL maB.data.toList).foldl dirStep ⟨false,false,false,-1⟩=_;rw [this];kernel_rfl
 rw [e1];unfold dirOne;rw [Ke (by show ¬ lowL acoC.data.toList=ccN;decide +kernel)]
theorem ok_none (n:List UInt8)(h1:(lowL ccB.data.toList == lowL n)=false)(h2:(lowL acoC.data.toList == lowL n)=false):hdrL okHs n=none:=by unfold hdrL okHs;rw [List.find?_cons_of_neg (by show ¬ (lowL ccB.data.toList == lowL n)=true;rw [h1];decide),List.find?_cons_of_neg (by show ¬ (lowL acoC.data.toList == lowL n)=true;rw [h2];decide)];rfl
theorem ok_aco:hdrL okHs acoL=some starS:=by unfold hdrL okHs;rw [List.find?_cons_of_neg (by show ¬ (lowL ccB.data.toList == lowL acoL)=true;decide +kernel),List.find?_cons_of_pos (by show (lowL acoC.data.toList == lowL acoL)=true;decide +kernel)];rfl
theorem ok_life:lifeL okHs=60000:=by
 have h:ageH okHs=0:=by unfold ageH;rw [ok_none _ (by decide +kernel) (by decide +kernel)];decide +kernel
 unfold lifeL;rw [ok_dir,h];decide
theorem ok_vary:varyL okHs=[]:=by unfold varyL;rw [ok_none _ (by decide +kernel) (by decide +kernel)];decide +kernel
theorem ok_chk:chkL okHs=[]:=by unfold chkL;rw [ok_none _ (by decide +kernel) (by decide +kernel),ok_none _ (by decide +kernel) (by decide +kernel)];rfl
theorem hdF_dir (S:FSt)(h:S.qh=[]):dirL (hdF S)=⟨false,false,false,-1⟩:=by
 have h2:∀ x∈hdF S,x=(ogN,S.og):=fun x hx=>by
  unfold hdF at hx;rw [h] at hx;rcases Kz.1 hx with hx | hx
  ·cases hx
  ·split at hx
   ·exact Jc.1 hx
   ·cases hx
 unfold dirL;exact dir_none _ _ fun x hx=>by rw [h2 x hx];show ¬ lowL ogN.data.toList=ccN;decide +kernel
theorem ok_stor (S:FSt)(h:S.qh=[]):storL 200 (hdF S) okHs=true:=by unfold storL;rw [hdF_dir S h,ok_dir,ok_vary,ok_life];decide +kernel
def okE4 (S:FSt)(body:ByteArray)(now:Int):En:=⟨txB S,[],200,okHs,body,now⟩
theorem ok_keep (S:FSt)(h:S.qh=[])(hg:(S.sm.toList == getT)=true)(body:ByteArray)(now:Int):keepF S 200 okHs body now []=[okE4 S body now]:=by
 unfold keepF;rw [Kf hg];unfold putEs;rw [ok_stor S h];have:varyE (hdF S) okHs=[]:=by unfold varyE;rw [ok_vary];rfl
 rw [this];rfl
theorem age_of {now d:Int}(h0:0<=now)(h1:now<=1125899906842624)(hd:0<=d)(hd2:d<=60000):ageE now (now+d)=d:=by
 unfold ageE;have e1:clockI now=now:=by unfold clockI;omega
 have e2:clockI (now+d)=now+d:=by unfold clockI;omega
 rw [e1,e2];omega
theorem ok_ask (S:FSt)(h:S.qh=[])(body:ByteArray){now d:Int}(h0:0<=now)(h1:now<=1125899906842624)(hd:0<=d)(hd2:d<=60000)(url:ByteArray)(hu:url=txB S):
 askF [okE4 S body now] url (hdF S) (now+d)=if d<60000 then ⟨2,okE4 S body now,[],[okE4 S body now]⟩ else ⟨1,en0,[],[okE4 S body now]⟩:=by
 subst hu;have ha:ansB (okE4 S body now) (txB S) (hdF S)=true:=by unfold ansB urlB;simp [okE4]
 have hl:lastI (fun e=>ansB e (txB S) (hdF S)) [okE4 S body now]=some 0:=by unfold lastI;show (match (none:Option Nat) with | some k=>some (k+1) | none=>if ansB (okE4 S body now) (txB S) (hdF S)=true then some 0 else none)=some 0;simp only [ha,if_true]
 have hf:useB ⟨false,false,false,-1⟩ (okE4 S body now) (now+d)=decide (d<60000):=by unfold useB freshE;rw [show (okE4 S body now).ti=now from rfl,show (okE4 S body now).hd=okHs from rfl,age_of h0 h1 hd hd2,ok_life];simp
 unfold askF;rw [hl,hdF_dir S h];simp only [Ke (show ¬ (false=true) by decide),List.getElem?_cons_zero,hf,Jb];rw [show (okE4 S body now).hd=okHs from rfl,ok_chk];split <;> rfl
theorem ok_rd (S:FSt)(m1:1<=S.mo)(m4:S.mo<=4)(hk:S.ck=false)(h2:S.mo=2->fgB S=false):rdF S okHs=true:=by
 unfold rdF readB;by_cases e4:S.mo=4
 ·rw [Kx e4];rfl
 ·by_cases e1:S.mo=1
  ·rw [Kx e1];simp
  ·by_cases e2:S.mo=2
   ·have hf:=h2 e2;unfold fgB at hf;have hf2:(orgL S.u == S.og.data.toList)=true:=by simpa using hf
    have e3:((bs (orgL S.u)).toList == S.og.toList)=true:=by rw [beq_lists];exact hf2
    rw [e3];simp
   ·have e3:S.mo=3:=by omega
    have ha:valL okHs acoL=starS:=by unfold valL;rw [ok_aco];rfl
    have ht:(starS.toList == [42])=true:=by decide +kernel
    rw [Kx e3,ok_aco,ha,ht,hk];simp
def okHd (S:FSt):Ev:=if decide (S.mo=4) && fgB S then ⟨2,eS,eS,[],eS,0,0⟩ else ⟨2,eS,bs (formatL S.u),woL okHs [scN],eS,200,0⟩
theorem ok_headO (S:FSt)(C:List En)(hr:rdF S okHs=true):headO 200 okHs S C=⟨{ S with ph:=2,hi:=decide (S.mo=4) && fgB S,st:=200,hs:=okHs,sb:=eS },C,[okHd S]⟩:=by unfold headO;rw [Ke (by rw [hr];decide)];rfl
theorem ok_stored (snd:FSt->List En->Out)(now:Int)(S S1:FSt)(body:ByteArray)(hb:body.size<=1048576)(t:Int)(C:List En)(hr:rdF S okHs=true):
 storedF snd now (okE4 S1 body t) S C=⟨{ S with ch:=false,ph:=3,hi:=decide (S.mo=4) && fgB S,st:=200,hs:=okHs,sb:=eS ++ body },C,[okHd S] ++ dv (decide (S.mo=4) && fgB S) body ++ [endV]⟩:=by
 unfold storedF takeF;rw [show (okE4 S1 body t).hd=okHs from rfl,ok_lo,Option.isSome_none,Bool.false_and,Ke (by decide),show (okE4 S1 body t).st=200 from rfl,ok_headO { S with ch:=false } C hr];unfold restF;rw [Kf rfl];have hd:∀ T:FSt,T.ph=2->T.sb=eS->dataF body T=({ T with sb:=eS ++ body },dv T.hi body):=fun T h1 h2=>by unfold dataF dv;rw [Kf h1,h2,Ke (by show ¬ 1048576<0+body.size;omega)]
 rw [show (okE4 S1 body t).bo=body from rfl,hd _ rfl rfl,Kf rfl];rfl
theorem ok_evs (S:FSt)(hi:Bool)(p:ByteArray):([okHd S] ++ dv hi p ++ [endV]).length<=1000/\∀ y∈[okHd S] ++ dv hi p ++ [endV],y.hs.length<=1000:=by
 have h1:(okHd S).hs.length<=1000:=by
  unfold okHd;split
  ·exact Kh _
  ·exact Kg (Zj _ _) (by show 2<=1000;decide)
 unfold dv;split
 ·refine ⟨by simp,fun y hy=>?_⟩;simp only [Je,Kz,Jc] at hy;rcases hy with rfl | rfl
  ·exact h1
  ·exact Kh _
 ·refine ⟨by simp,fun y hy=>?_⟩;simp only [Kz,Jc] at hy;rcases hy with (rfl | rfl) | rfl
  ·exact h1
  ·exact Kh _
  ·exact Kh _
theorem fresh_plain {now:Int}(h0:0<=now)(h1:now<=1125899906842624)(S:FSt)(hq:S.qh=[])(hk:S.ck=false)(hm:(S.me.toList == getT)=true)(hg0:S.ph=0)(hc0:S.ch=false)(body:ByteArray)(hb:body.size<=1048576)(r:Rn)
 (hr:runF now [⟨0,200,okHs,eS⟩,dOp body,eOp] (startF now S ([],0) [])=r) :
 r.j=([],0)/\((r.s.ph≠3/\r.c=[])\/(r.s.ph=3/\(∃ e,r.c=[e]/\e.va=[]/\e.hd=okHs/\e.bo=body)/\∃ x l,r.ev=x :: l/\(l.length<=1000/\∀ y∈l,y.hs.length<=1000)/\(startF (now+59999) S ([],0) r.c).s.ph=3/\(startF (now+59999) S ([],0) r.c).ev=l /\
  (startF (now+60000) S ([],0) r.c).s.ph=1/\∃ e,(startF (now+60000) S ([],0) r.c).ev=[e]/\e.k=1)):=by
 rcases start_cases now S ([],0) with ⟨e,he⟩ | ⟨u,hu,hw,hmo,hkn,h2,he⟩
 ·rw [he,runF_cons,op_head0 _ _ _ _ _ (by show (4:Int)≠1;decide),runF_cons,op_data0 _ _ _ (by show (4:Int)≠2;decide),runF_cons,op_end] at hr;subst hr;exact ⟨rfl,.inl ⟨by show (4:Int)≠3;decide,rfl⟩⟩
 ·obtain ⟨T,hT⟩:∃ T:FSt,{ putU S u with sm:=S.me }=T:=⟨_,rfl⟩
  rw [hT] at he;have hTg:(T.sm.toList == getT)=true:=by rw [<-hT];exact hm
  have hTq:T.qh=[]:=by rw [<-hT];exact hq
  have hTk:T.ck=false:=by rw [<-hT];exact hk
  have hTm:T.mo=S.mo:=by rw [<-hT];rfl
  have hTc:T.ch=false:=by rw [<-hT];exact hc0
  have hT2:T.mo=2->fgB T=false:=fun e=>by rw [hTm] at e;rw [<-hT];exact h2 e
  have hrd:rdF T okHs=true:=ok_rd T (by omega) (by omega) hTk hT2;obtain ⟨T1,hT1⟩:=Ka ((askO ([]:List Ck) now T [] [] false).s);have hrd1:rdF T1 okHs=true:=by rw [<-hT1];exact hrd
  have hk1:T1.ck=false:=by rw [<-hT1];exact hTk
  have hj:∀ C,headF (jarH T1 now okHs ([],0)).1 now 200 okHs T1 C=⟨{ T1 with ph:=2,hi:=decide (T1.mo=4) && fgB T1,st:=200,hs:=okHs,sb:=eS },C,[okHd T1]⟩:=fun C=>by rw [head_ok,ok_headO T1 C hrd1]
  have hjj:jarH T1 now okHs ([],0)=([],0):=by unfold jarH;rw [hk1,Ke (by decide)]
  obtain ⟨A,hA⟩:∃ A,(askO ([]:List Ck) now T [] [] false).ev=[A]:=⟨_,rfl⟩
  have hee:startF now S ([],0) []=⟨T1,([],0),[],[A]⟩:=by rw [he,<-hT1,<-hA]
  rw [hee,runF_cons,op_head _ _ _ _ _ (by rw [<-hT1];rfl)] at hr;simp only at hr;rw [hj,hjj,runF_cons,op_data2 _ _ _ rfl (by show 0+body.size<=1048576;omega),runF_cons,op_end] at hr;have hg1:(T1.sm.toList == getT)=true:=by rw [<-hT1];exact hTg
  have hq1:T1.qh=[]:=by rw [<-hT1];exact hTq
  have hkp:keepF { T1 with ph:=2,hi:=decide (T1.mo=4) && fgB T1,st:=200,hs:=okHs,sb:=eS ++ body } 200 okHs (eS ++ body) now []=[okE4 T body now]:=by rw [nil_ba];refine (ok_keep _ hq1 hg1 body now).trans ?_;rw [<-hT1];rfl
  unfold endF at hr;simp only at hr;rw [Kf trivial,hkp] at hr;have hr:(⟨{ T1 with ph:=3,hi:=decide (T1.mo=4) && fgB T1,st:=200,hs:=okHs,sb:=eS ++ body },([],0),[okE4 T body now],[A] ++ [okHd T1] ++ dv (decide (T1.mo=4) && fgB T1) body ++ [endV]⟩:Rn)=r:=hr;subst hr;have hbg:∀ d:Int,0<=d->d<=60000->beginF ([]:List Ck) (now+d) S [okE4 T body now]=if d<60000 then storedF (sendF [] (now+d) 10) (now+d) (okE4 T body now) T [okE4 T body now] else askO [] (now+d) T [okE4 T body now] [] false:=fun d hd hd2=>by
   unfold beginF;rw [Ke (by rw [hkn];rintro (h | h | h) <;> first | omega | cases h),hu];simp only;rw [Ke (by rw [hw];decide)];have h3:(decide (S.mo=2) && fgB (putU S u))=false:=by
    by_cases e:S.mo=2
    ·rw [h2 e];simp
    ·rw [Kj e];rfl
   rw [Ke (by rw [h3];decide),hT];unfold sendF;rw [Kf hTg];simp only [ok_ask T hTq body h0 h1 hd hd2 _ rfl];split
   ·rw [Kf rfl]
   ·rw [Ke (show ¬ (1:Int)=2 by decide),Ke (show ¬ (1:Int)=3 by decide)]
  have hfg:fgB T1=fgB T:=by rw [<-hT1];rfl
  have hmo1:T1.mo=T.mo:=by rw [<-hT1];rfl
  have hhd:okHd T1=okHd T:=by rw [<-hT1];rfl
  refine ⟨rfl,.inr ⟨rfl,⟨_,rfl,rfl,rfl,rfl⟩,A,_,rfl,ok_evs _ _ _,?_⟩⟩;have e1:=hbg 59999 (by decide) (by decide);rw [Kf (by decide),ok_stored _ _ T T body hb now _ hrd] at e1;have e2:=hbg 60000 (by decide) (by decide);rw [Ke (by decide)] at e2;refine ⟨?_,?_,?_,?_⟩
  ·show (beginF ([]:List Ck) (now+59999) S [okE4 T body now]).s.ph=3;rw [e1]
  ·show (beginF ([]:List Ck) (now+59999) S [okE4 T body now]).ev=_;rw [e1,hfg,hmo1,hhd];rfl
  ·show (beginF ([]:List Ck) (now+60000) S [okE4 T body now]).s.ph=1;rw [e2];rfl
  ·obtain ⟨x,hx,hk1⟩:∃ x,(askO ([]:List Ck) (now+60000) T [okE4 T body now] [] false).ev=[x]/\x.k=1:=⟨_,rfl,rfl⟩
   refine ⟨x,?_,hk1⟩;show (beginF ([]:List Ck) (now+60000) S [okE4 T body now]).ev=_;rw [e2];exact hx
abbrev acoR:ByteArray:=⟨#[65,99,99,101,115,115,45,67,111,110,116,114,111,108,45,65,108,108,111,119,45,79,114,105,103,105,110]⟩
theorem N36{p:Prop}(h:p:=by
 go_wp2_with (first
  | ((with_reducible refine (CW.out _ (Kc w5)).mono ?_);rintro e6 w6 ⟨rfl,hb6⟩;have hB6:=Kd hB5 hb6;have X6:=X5.next hb6;have Q6:=Q5.next hb6;have H6:=H5.next hb6;have O6:=O5.next hb6;clear x0 x1 x2 x3 q_;have x0:=X6.c 0 rfl;have x1:=X6.c 1 rfl;have x2:=X6.c 2 rfl;have x3:=X6.c 3 rfl;have q_:=Q6.o8;have xl6:=X6.lt;have ql6:=Q6.lt)
  | fail)
 go_ret
 exact ⟨rfl,hB6⟩
 ):p:=h
theorem fetchfresh_law (tk:Int)(me ur og:ByteArray)(mo:Int)(vq:Value)(qh:List Hd)(qb:ByteArray)(ck:Bool)(body:ByteArray)(now:Int)(w:World)(hM:MaxAt w)(hG:0<w.heap.size)(HQ:QIn w ur og vq qh qb):
 Calls Tryz.prog 10 #[.agg #[.int .i64 tk,.string me,.string ur,.string og,.int .i64 mo,vq,.string qb,.bool ck],.string body,.int .i64 now] w fun e w'=>e = .returned (.bool true)/\Below w.heap.size w w':=by
 obtain ⟨qa,qc,rfl,_⟩:=HQ.q.shape
 have hb0:Below w.heap.size w (w.alloc (.cells [.int .i64 tk,.string me,.string ur,.string og,.int .i64 mo,.slice qa qh.length qc,.string qb,.bool ck].toArray 30)):=(Kc w).alloc lr _
 have Q0:=AtL.new w [.int .i64 tk,.string me,.string ur,.string og,.int .i64 mo,.slice qa qh.length qc,.string qb,.bool ck] 30
 obtain ⟨w0,hw0⟩:∃ w0:World,w.alloc (.cells [.int .i64 tk,.string me,.string ur,.string og,.int .i64 mo,.slice qa qh.length qc,.string qb,.bool ck].toArray 30)=w0:=⟨_,rfl⟩
 obtain ⟨Q,hQ⟩:=Ka w.heap.size
 rw [hw0] at hb0 Q0
 rw [hQ] at Q0
 have HQO:=Kb hQ
 have CF:=Kb (fit_is45 w0 (hM.below hb0 lr))
 obtain ⟨R,hR⟩:=Ka (few4 [] 0 [] [] ur og qb [⟨0,200,okHs,eS⟩,dOp body,eOp])
 have q_:=Q0.o8
 have ql:=Q0.lt
 have HHM:=Kb hM
 have HHQ:=Kb (And.intro HQ.z1 (And.intro HQ.z2 HQ.z3))
 have HGG:=Kb hG
 have HRR:=Kb hR
 clear hM hG HQ hR
 go_enter Tryz.func10,Tryz.ntmps10
 go_upto_region 5 with (first
  | ((with_reducible refine CF.out.mono ?_);rintro e1 w1 ⟨rfl,hb1⟩;have Q1:=Q0.next hb1;have hB1:=Kd hb0 hb1)
  | fail)
 obtain ⟨w4,hw4,k14,X4,H4,O4⟩:∃ w4:World,((w1.alloc (.cells [.slice none 0 0,.int .i64 0,.slice none 0 0,.int .i64 now].toArray 27)).alloc (.cells [.string ccB,.string maB,.string acoR,.string starS].toArray 70)).alloc (.cells [.int .u8 0,.int .i64 200,.slice (some ⟨w1.heap.size+1,0,none⟩) 2 2,.string eS,.int .u8 1,.int .i64 0,.slice none 0 0,.string body,.int .u8 2,.int .i64 0,.slice none 0 0,.string eS].toArray 32)=w4/\Below w1.heap.size w1 w4/\AtL w4 w1.heap.size [.slice none 0 0,.int .i64 0,.slice none 0 0,.int .i64 now]/\AtL w4 (w1.heap.size+1) [.string ccB,.string maB,.string acoR,.string starS]/\AtL w4 (w1.heap.size+1+1) [.int .u8 0,.int .i64 200,.slice (some ⟨w1.heap.size+1,0,none⟩) 2 2,.string eS,.int .u8 1,.int .i64 0,.slice none 0 0,.string body,.int .u8 2,.int .i64 0,.slice none 0 0,.string eS]:=by
  refine ⟨_,rfl,(((Kc w1).alloc lr _).alloc (by simp) _).alloc (by simp;omega) _,((AtL.new w1 _ _).alloc _).alloc _,?_,?_⟩
  ·have h:=(AtL.new (w1.alloc (.cells [.slice none 0 0,.int .i64 0,.slice none 0 0,.int .i64 now].toArray 27)) [.string ccB,.string maB,.string acoR,.string starS] 70).alloc (.cells [.int .u8 0,.int .i64 200,.slice (some ⟨w1.heap.size+1,0,none⟩) 2 2,.string eS,.int .u8 1,.int .i64 0,.slice none 0 0,.string body,.int .u8 2,.int .i64 0,.slice none 0 0,.string eS].toArray 32)
   rw [show (w1.alloc (.cells [.slice none 0 0,.int .i64 0,.slice none 0 0,.int .i64 now].toArray 27)).heap.size=w1.heap.size+1 by simp] at h
   exact h
  ·have h:=AtL.new ((w1.alloc (.cells [.slice none 0 0,.int .i64 0,.slice none 0 0,.int .i64 now].toArray 27)).alloc (.cells [.string ccB,.string maB,.string acoR,.string starS].toArray 70)) [.int .u8 0,.int .i64 200,.slice (some ⟨w1.heap.size+1,0,none⟩) 2 2,.string eS,.int .u8 1,.int .i64 0,.slice none 0 0,.string body,.int .u8 2,.int .i64 0,.slice none 0 0,.string eS] 32
   rw [show ((w1.alloc (.cells [.slice none 0 0,.int .i64 0,.slice none 0 0,.int .i64 now].toArray 27)).alloc (.cells [.string ccB,.string maB,.string acoR,.string starS].toArray 70)).heap.size=w1.heap.size+1+1 by simp] at h
   exact h
 obtain ⟨X,hX⟩:=Ka w1.heap.size
 have hB4:=hB1.trans (k14.mono hB1.size)
 have Q4:=Q1.next k14
 have hQX:Q<X/\w.heap.size<=Q:=by have h1:=Q1.lt;have h2:=HQO.out;omega
 rw [hX] at X4 H4 O4
 rw [hX] at hw4
 rw [hX,hw4]
 clear hw4 hX k14 q_ Q0 Q1 hb0 hb1 hB1 ql CF hw0 hQ
 have q_:=Q4.o8;have g0:=Q4.f 0 rfl;have g1:=Q4.f 1 rfl;have g2:=Q4.f 2 rfl;have g3:=Q4.f 3 rfl;have g4:=Q4.f 4 rfl;have g5:=Q4.f 5 rfl;have g6:=Q4.f 6 rfl;have g7:=Q4.f 7 rfl
 have ql4:=Q4.lt
 go_upto_region 6 with fail
 have Q5:AtL _ Q [.int .i64 tk,.string ⟨#[71,69,84]⟩,.string ur,.string og,.int .i64 mo,.slice none 0 0,.string qb,.bool false]:=((Q4.set 5 (.slice none 0 0)).set 7 (.bool false)).set 1 (.string ⟨#[71,69,84]⟩)
 have X5:=((X4.far ⟨Q,5,none⟩ (.slice none 0 0) (show Q≠X by omega)).far ⟨Q,7,none⟩ (.bool false) (show Q≠X by omega)).far ⟨Q,1,none⟩ (.string ⟨#[71,69,84]⟩) (show Q≠X by omega)
 have H5:=((H4.far ⟨Q,5,none⟩ (.slice none 0 0) (show Q≠X+1 by omega)).far ⟨Q,7,none⟩ (.bool false) (show Q≠X+1 by omega)).far ⟨Q,1,none⟩ (.string ⟨#[71,69,84]⟩) (show Q≠X+1 by omega)
 have O5:=((O4.far ⟨Q,5,none⟩ (.slice none 0 0) (show Q≠X+1+1 by omega)).far ⟨Q,7,none⟩ (.bool false) (show Q≠X+1+1 by omega)).far ⟨Q,1,none⟩ (.string ⟨#[71,69,84]⟩) (show Q≠X+1+1 by omega)
 have hB5:=((hB4.setCell (p:=⟨Q,5,none⟩) hQX.2 (.slice none 0 0)).setCell (p:=⟨Q,7,none⟩) hQX.2 (.bool false)).setCell (p:=⟨Q,1,none⟩) hQX.2 (.string ⟨#[71,69,84]⟩)
 obtain ⟨w5,hw5⟩:∃ w5:World,((w4.setCell ⟨Q,5,none⟩ (.slice none 0 0)).setCell ⟨Q,7,none⟩ (.bool false)).setCell ⟨Q,1,none⟩ (.string ⟨#[71,69,84]⟩)=w5:=⟨_,rfl⟩
 rw [hw5] at Q5 X5 H5 O5 hB5
 rw [hw5]
 have hIn:∀ w',Below w5.heap.size w5 w'->OIn w' (.slice (some ⟨X+1+1,0,none⟩) 3 3) [(.slice (some ⟨X+1,0,none⟩) 2 2,⟨0,200,okHs,eS⟩),(.slice none 0 0,dOp body),(.slice none 0 0,eOp)]:=fun w' hb=>by
  have h2:SlK hdC 2 w' (.slice (some ⟨X+1,0,none⟩) 2 2) okHs:=SlK.of_at (l:=okHs) hdC_len (H5.next hb) rfl (by simp [okHs]) (show 2<=maxLen by decide)
  refine OIn.row (lo:=[(.slice (some ⟨X+1,0,none⟩) 2 2,⟨0,200,okHs,eS⟩),(.slice none 0 0,dOp body),(.slice none 0 0,eOp)]) (O5.next hb) rfl (by simp) (show 3<=maxLen by decide) (fun x hx=>?_) (fun x hx=>?_)
  ·simp only [Ji,Zo,or_false] at hx
   rcases hx with rfl | rfl | rfl
   ·exact h2
   ·exact slk0 _
   ·exact slk0 _
  ·simp only [Ji,Zo,or_false] at hx
   rcases hx with rfl | rfl | rfl
   ·intro h hh
    simp only [okHs,Ji,Zo,or_false] at hh
    rcases hh with rfl | rfl <;> exact ⟨by decide,by decide⟩
   ·exact wth_nil
   ·exact wth_nil
 have HIN:=Kb hIn
 have hQI:∀ w',QIn w' ur og (.slice none 0 0) [] qb:=fun w'=>⟨slk0 _,wth_nil,HHQ.out.1,HHQ.out.2.1,HHQ.out.2.2⟩
 have HQI:=Kb hQI
 have CW:=Kb (fun (w':World) (hb:Below w5.heap.size w5 w')=>few4_is w' (.slice none 0 0) [] 0 (.slice none 0 0) [] now tk ⟨#[71,69,84]⟩ ur og mo (.slice none 0 0) [] qb false (.slice (some ⟨X+1+1,0,none⟩) 3 3) [(.slice (some ⟨X+1,0,none⟩) 2 2,⟨0,200,okHs,eS⟩),(.slice none 0 0,dOp body),(.slice none 0 0,eOp)] (WIn.zero w') (hQI w') (hIn w' hb) R HRR.out)
 clear hw5 hIn hQI q_ g0 g1 g2 g3 g4 g5 g6 g7 Q4 X4 H4 O4 hB4 ql4
 have x0:=X5.c 0 rfl;have x1:=X5.c 1 rfl;have x2:=X5.c 2 rfl;have x3:=X5.c 3 rfl
 have q_:=Q5.o8
 have xl5:=X5.lt
 have ql5:=Q5.lt
 cases R with
 | false=>
   exact N36
 | true=>
   by_cases hn0:now<0
   ·exact N36
   ·by_cases hn1:now > 1125899906842624
    ·exact N36
    ·have hF:=few4_ok HRR.out
     have hbz:body.size<=500:=(few4_op HRR.out (dOp body) (by simp)).1
     obtain ⟨S,hS⟩:=Ka (newS tk ⟨#[71,69,84]⟩ ur og mo [] qb false)
     obtain ⟨r,hr⟩:=Ka (runF now [⟨0,200,okHs,eS⟩,dOp body,eOp] (startF now S ([],0) []))
     have hpl:=fresh_plain (now:=now) (by omega) (by omega) S (by rw [<-hS];rfl) (by rw [<-hS];rfl) (by rw [<-hS];show ((⟨#[71,69,84]⟩:ByteArray).toList == getT)=true;decide +kernel) (by rw [<-hS];rfl) (by rw [<-hS];rfl) body (by omega) r hr
     obtain ⟨hj,hpl⟩:=hpl
     have hSO:=hF.q tk ⟨#[71,69,84]⟩ mo false
     rw [hS] at hSO
     have HSO:=Kb hSO
     have HJ:=Kb hj
     have HPL:=Kb hpl
     have hnse:∀ h∈okHs,isH h scN=true->False:=fun h hh e=>by
      simp only [okHs,Ji,Zo,or_false] at hh
      rcases hh with rfl | rfl
      ·exact absurd e (by decide +kernel)
      ·exact absurd e (by decide +kernel)
     have CR:=Kb (fun (w':World) (hb:Below w5.heap.size w5 w')=>run_is w' (.slice none 0 0) [] 0 (.slice none 0 0) [] now tk ⟨#[71,69,84]⟩ ur og mo (.slice none 0 0) [] qb false (.slice (some ⟨X+1+1,0,none⟩) 3 3) [(.slice (some ⟨X+1,0,none⟩) 2 2,⟨0,200,okHs,eS⟩),(.slice none 0 0,dOp body),(.slice none 0 0,eOp)] (HHM.out.below (Kd hB5 hb) lr) (Ko HGG.out (Kd hB5 hb).size) (WIn.zero w') (HQI.out w') (HIN.out w' hb) (by rw [hS];exact hSO) hF.j (by decide) (by decide) hF.c (fun x hx=>by
      simp only [Ji,Zo,or_false] at hx
      rcases hx with rfl | rfl | rfl
      ·exact ⟨hF.o _ (by simp),by show (0:Nat)<256;decide⟩
      ·exact ⟨hF.o (dOp body) (by simp),by show (1:Nat)<256;decide⟩
      ·exact ⟨hF.o eOp (by simp),by show (2:Nat)<256;decide⟩) (by show 3<=40;decide) (fun x hx ⟨h,hh,e⟩=>by
      simp only [Ji,Zo,or_false] at hx
      rcases hx with rfl | rfl | rfl
      ·exact (hnse h hh e).elim
      ·cases hh
      ·cases hh) r (by rw [hS];exact hr))
     have CR2:=Kb (fun (d:Int) (rr:Rn) (hrr:startF (now+d) S ([],0) r.c=rr) (w':World) (hb:Below w5.heap.size w5 w') (vj vc:Value) (lx:List Ee) (hW:WIn w' vj [] vc lx) (hce:lx.map (·.2)=r.c) (hc:COk 20 100 r.c)=>run_is w' vj [] 0 vc lx (now+d) tk ⟨#[71,69,84]⟩ ur og mo (.slice none 0 0) [] qb false (.slice none 0 0) [] (HHM.out.below (Kd hB5 hb) lr) (Ko HGG.out (Kd hB5 hb).size) hW (HQI.out w') (OIn.nil w') (by rw [hS];exact HSO.out) hF.j (by decide) (by decide) (by rw [hce];exact hc) (fun x hx=>by cases hx) (by decide) (fun x hx=>by cases hx) rr (by rw [hS,hce];exact hrr))
     have HB5:=Kb hB5
     have HBZ:=Kb hbz
     have HOKH:=Kb (hF.o ⟨0,200,okHs,eS⟩ (by simp)).hs
     have HNW:=Kb (And.intro hn0 hn1)
     clear hF hbz hS hr hpl hj hSO
     go_upto_region 9 with (first
      | ((with_reducible refine (CW.out _ (Kc w5)).mono ?_);rintro e6 w6 ⟨rfl,hb6⟩;have hB6:=Kd hB5 hb6;have X6:=X5.next hb6;have Q6:=Q5.next hb6;have H6:=H5.next hb6;have O6:=O5.next hb6;clear x0 x1 x2 x3 q_;have x0:=X6.c 0 rfl;have x1:=X6.c 1 rfl;have x2:=X6.c 2 rfl;have x3:=X6.c 3 rfl;have q_:=Q6.o8;have xl6:=X6.lt;have ql6:=Q6.lt)
      | ((with_reducible refine (CR.out _ hb6).mono ?_);rintro e7 w7 hq7;obtain ⟨L,V,ea,n,ek,l,vj3,vc3,lx3,rfl,hn3,hL,hV,hRL⟩:=RunQ.law hq7;have Z3:=lawW_at w7;have Z4:=lawW_at2 w7 L;have HL:=Kb hL;have HV:=Kb hV;have HRL:=Kb hRL;have HN:=Kb hn3;clear hq7 hL hV hRL hn3)
      | (refine wpList_store_at rfl 40 _ _ rfl w7.heap.size L rfl rfl Z3 HL.out.1 (by rw [HL.out.1];kernel_rfl) HL.out.2 ?_)
      | (refine wpList_store_at rfl 27 _ _ rfl (w7.heap.size+1) V rfl rfl Z4 HV.out.1 (by rw [HV.out.1];kernel_rfl) HV.out.2 ?_)
      | fail)
     obtain ⟨w8,hw8⟩:∃ w8:World,(((w7.alloc (.cells fz.toArray 40)).alloc (.cells wz.toArray 27)).setCells w7.heap.size 0 L).setCells (w7.heap.size+1) 0 V=w8:=⟨_,rfl⟩
     have R8:RunL w6 now r w7.heap.size L (.slice ea n ek) l vj3 vc3 lx3 w8:=by rw [<-hw8];exact HRL.out
     obtain ⟨s1,hs1⟩:=Ka w7.heap.size
     rw [hs1] at R8
     rw [hw8,hs1]
     obtain rfl:n=l.length:=HN.out
     have Q8:=Q6.next R8.bl
     have hQs:Q<s1:=by have h1:=HRL.out.le;have h2:=Q6.lt;omega
     have HLE:=Kb (show w5.heap.size<=s1 by have h1:=HRL.out.le;have h2:=hb6.size;omega)
     have hja:SlK ckL 9 w8 vj3 []:=by have h:=R8.ja;rw [HJ.out] at h;exact h
     have hwd:AtL w8 (s1+1) [vj3,.int .i64 0,vc3,.int .i64 now]:=by have h:=R8.wd;rw [HJ.out] at h;exact h
     obtain ⟨xja,xjk,rfl,_⟩:=hja.shape
     obtain ⟨xca,xck,rfl,_⟩:=R8.ca.shape
     have hB8:=hB6.trans (R8.bl.mono hB6.size)
     have h58:=hb6.trans (R8.bl.mono hb6.size)
     have c8:=R8.ph
     have sl8:=R8.st.lt
     have HR8:=Kb R8
     clear hw8 hs1 HRL HL HV HN Z3 Z4 CR CW R8 hb6 hB6 X6 Q6 H6 O6 x0 x1 x2 x3 q_ xl6 ql6 X5 Q5 H5 O5 xl5 ql5 hB5
     have x0:=hwd.c 0 rfl;have x1:=hwd.c 1 rfl;have x2:=hwd.c 2 rfl;have x3:=hwd.c 3 rfl;have g0:=hwd.f 0 rfl;have g1:=hwd.f 1 rfl;have g2:=hwd.f 2 rfl;have g3:=hwd.f 3 rfl
     have xl8:=hwd.lt
     have q_:=Q8.o8
     have ql8:=Q8.lt
     rcases HPL.out with ⟨hph,hc⟩ | ⟨hph,⟨e,hc,hva,hhd,hbo⟩,y,l',hev,hbd,h2ph,h2ev,h3ph,e3,h3ev,h3k⟩
     ·have hl0:lx3.length=0:=by have h:=HR8.out.ce;rw [hc] at h;simpa using Kq List.length h
      have hp3:(r.s.ph == 3)=false:=Ki.2 hph
      rw [hl0] at x2
      clear hph hc
      go_wp2_with fail
      go_ret
      exact ⟨rfl,hB8⟩
     ·rw [hph] at c8
      have hc20:COk 20 100 r.c:=by
       rw [hc]
       exact ⟨by show 1<=20;decide,fun x hx=>by
        obtain rfl:=Jc.1 hx
        refine ⟨?_,by rw [hva];exact ⟨Kh _,fun h hh=>by cases hh⟩,by rw [hbo];have:=HBZ.out;omega⟩
        rw [hhd]
        exact (HOKH.out).mono (by decide)⟩
      have hwi:∀ w',RunM r (.slice ea l.length ek) l (.slice xja 0 xjk) (.slice xca lx3.length xck) lx3 w'->WIn w' (.slice xja 0 xjk) [] (.slice xca lx3.length xck) lx3:=fun w' m=>⟨by have h:=m.ja;rw [HJ.out] at h;exact h,m.ca,m.rd,(fun c hc=>by cases hc),fun x hx=>by
       have h:x.2∈r.c:=by rw [<-HR8.out.ce];exact Zc hx
       rw [hc] at h
       have h2:=Jc.1 h
       rw [h2,hva,hhd]
       refine ⟨wth_nil,?_⟩
       intro h hh
       simp only [okHs,Ji,Zo,or_false] at hh
       rcases hh with rfl | rfl <;> exact ⟨by decide,by decide⟩⟩
      have HWM:=Kb hwi
      have HC20:=Kb hc20
      obtain ⟨r2,hr2⟩:=Ka (startF (now+59999) S ([],0) r.c)
      obtain ⟨r3,hr3⟩:=Ka (startF (now+60000) S ([],0) r.c)
      rw [hr2] at h2ph h2ev
      rw [hr3] at h3ph h3ev
      have HR2:=Kb hr2
      have HR3:=Kb hr3
      have HEV:=Kb hev
      have HBD:=Kb hbd
      have H2:=Kb (And.intro h2ph h2ev)
      have H3:=Kb (And.intro h3ph (And.intro h3ev h3k))
      have hnw:=HNW.out
      have ew1:wrap64 (now+59999)=now+59999:=IntWalk.wrap64_in _ (by omega)
      have ew2:wrap64 (now+60000)=now+60000:=IntWalk.wrap64_in _ (by omega)
      have hll:=slk_len HR8.out.ev
      clear hbd hph hc hva hhd hbo hc20 hwi hr2 hr3 hev h2ph h2ev h3ph h3ev h3k hnw hn0 hn1
      go_upto_region 12 with fail
      have hwd9:AtL (w8.setCell ⟨s1+1,3,none⟩ (.int .i64 (now+59999))) (s1+1) [.slice xja 0 xjk,.int .i64 0,.slice xca lx3.length xck,.int .i64 (now+59999)]:=hwd.set 3 (.int .i64 (now+59999))
      have Q9:=Q8.far ⟨s1+1,3,none⟩ (.int .i64 (now+59999)) (show s1+1≠Q by omega)
      obtain ⟨wp,ewp,hm0,hbp⟩:=HR8.out.pre
      have hbp9:=hbp.setCell (p:=⟨s1+1,3,none⟩) (Jo _) (.int .i64 (now+59999))
      have hbw:w.heap.size<=s1+1:=by have h1:=HQO.out;omega
      have hB9:=hB8.setCell (p:=⟨s1+1,3,none⟩) hbw (.int .i64 (now+59999))
      have h59:=h58.setCell (p:=⟨s1+1,3,none⟩) (by show w5.heap.size<=s1+1;have h1:=HLE.out;omega) (.int .i64 (now+59999))
      obtain ⟨w9,hw9⟩:∃ w9:World,w8.setCell ⟨s1+1,3,none⟩ (.int .i64 (now+59999))=w9:=⟨_,rfl⟩
      rw [hw9] at hwd9 Q9 hbp9 hB9 h59
      rw [hw9]
      have m9:=hm0.below (by rw [ewp];exact hbp9)
      have hwi9:=HWM.out w9 m9
      have C9:=Kb (CR2.out 59999 r2 HR2.out w9 h59 _ _ _ hwi9 m9.ce HC20.out)
      clear hw9 x0 x1 x2 x3 g0 g1 g2 g3 q_ xl8 ql8 hwd Q8 c8 sl8
      have x0:=hwd9.c 0 rfl;have x1:=hwd9.c 1 rfl;have x2:=hwd9.c 2 rfl;have x3:=hwd9.c 3 rfl;have g0:=hwd9.f 0 rfl;have g1:=hwd9.f 1 rfl;have g2:=hwd9.f 2 rfl;have g3:=hwd9.f 3 rfl
      have xl9:=hwd9.lt
      have q_:=Q9.o8
      have ql9:=Q9.lt
      go_upto_region 13 with (first
       | ((with_reducible refine C9.out.mono ?_);rintro e9 w10 hq9;obtain ⟨L10,V10,ea10,n10,ek10,l10,vj10,vc10,lx10,rfl,hn9,hL,hV,hRL⟩:=RunQ.law hq9;have Z3:=lawW_at w10;have Z4:=lawW_at2 w10 L10;have HL:=Kb hL;have HV:=Kb hV;have HRL:=Kb hRL;have HN:=Kb hn9;clear hq9 hL hV hRL hn9)
       | (refine wpList_store_at rfl 40 _ _ rfl w10.heap.size L10 rfl rfl Z3 HL.out.1 (by rw [HL.out.1];kernel_rfl) HL.out.2 ?_)
       | (refine wpList_store_at rfl 27 _ _ rfl (w10.heap.size+1) V10 rfl rfl Z4 HV.out.1 (by rw [HV.out.1];kernel_rfl) HV.out.2 ?_)
       | fail)
      obtain ⟨w11,hw11⟩:∃ w11:World,(((w10.alloc (.cells fz.toArray 40)).alloc (.cells wz.toArray 27)).setCells w10.heap.size 0 L10).setCells (w10.heap.size+1) 0 V10=w11:=⟨_,rfl⟩
      have R11:RunL w9 (now+59999) r2 w10.heap.size L10 (.slice ea10 n10 ek10) l10 vj10 vc10 lx10 w11:=by rw [<-hw11];exact HRL.out
      obtain ⟨s2,hs2⟩:=Ka w10.heap.size
      rw [hs2] at R11
      rw [hw11,hs2]
      obtain rfl:n10=l10.length:=HN.out
      have m11:=m9.below R11.bl
      have Q11:=Q9.next R11.bl
      have hwd11:=hwd9.next R11.bl
      have c11:=R11.ph
      rw [H2.out.1] at c11
      have sl11:=R11.st.lt
      have hB11:=hB9.trans (R11.bl.mono hB9.size)
      have h511:=h59.trans (R11.bl.mono h59.size)
      have hs2w:w9.heap.size<=s2:=R11.le
      have hbp11:=hbp9.trans (R11.bl.mono (by have:=hbp9.size;have h1:=hwd9.lt;omega))
      have hl10:=slk_len R11.ev
      obtain ⟨z,lt,rfl⟩:∃ z lt,l=z :: lt:=by
       cases l with
       | nil=>have h:=m11.eq;rw [HEV.out] at h;cases h
       | cons z lt=>exact ⟨z,lt,rfl⟩
      obtain ⟨b0,off,cap,he,hb0',-⟩:=slk_at m11.ev (by simp)
      injection he with e1 e2 e3
      subst e1 e3
      clear e2
      have hlt:lt.map (·.2)=l':=by have h:=m11.eq;rw [HEV.out] at h;exact (Zx h).2
      have hl10':l10.map (·.2)=l':=by rw [R11.eq];exact H2.out.2
      have CS:=Kb (fun (w':World) (hb:Below w11.heap.size w11 w')=>sameEv lt l10 (hlt.trans hl10'.symm) _ _ w' ((slk_tail m11.ev).below hb lr) (R11.ev.below hb lr) (fun y hy=>(m11.hs y (Jg _ hy)).below hb lr) (fun y hy=>(R11.hs y hy).below hb lr) (by have h:=HBD.out.1;rw [<-hlt,Za] at h;omega) (fun y hy=>by have h:=HBD.out.2 y.2 (by rw [<-hlt];exact Zc hy);omega))
      have CS0:=Kb (fun (hk:ek=1) (w':World) (hb:Below w11.heap.size w11 w')=>sameEv lt l10 (hlt.trans hl10'.symm) (.slice (some ⟨b0,off,none⟩) lt.length 0) _ w' (by
       have h0:lt=[]:=by
        rcases m11.ev with ⟨h,_⟩ | ⟨_,b2,off2,c2,hv,h1,_⟩
        ·cases h
        ·injection hv with _ _ e3
         rw [<-e3,Kv] at h1
         exact Ja (by omega)
       subst h0
       exact .inl ⟨rfl,_,_,rfl,Kh _⟩) (R11.ev.below hb lr) (fun y hy=>(m11.hs y (Jg _ hy)).below hb lr) (fun y hy=>(R11.hs y hy).below hb lr) (by have h:=HBD.out.1;rw [<-hlt,Za] at h;omega) (fun y hy=>by have h:=HBD.out.2 y.2 (by rw [<-hlt];exact Zc hy);omega))
      have M11:=Kb m11
      clear hw11 hs2 HRL HL HV HN Z3 Z4 R11 C9 m9 m11 hwd9 Q9 x0 x1 x2 x3 g0 g1 g2 g3 q_ xl9 ql9 hB9 h59 hbp9 hlt hl10' hb0' hbp
      have HM0:=Kb hm0
      clear hm0
      have x0:=hwd11.c 0 rfl;have x1:=hwd11.c 1 rfl;have x2:=hwd11.c 2 rfl;have x3:=hwd11.c 3 rfl;have g0:=hwd11.f 0 rfl;have g1:=hwd11.f 1 rfl;have g2:=hwd11.f 2 rfl;have g3:=hwd11.f 3 rfl
      have xl11:=hwd11.lt
      have q_:=Q11.o8
      have ql11:=Q11.lt
      go_upto_region 15 with (first
       | (go_at_call 18;(first | (with_reducible refine (CS.out _ (Kc w11)).mono ?_) | (with_reducible refine (CS0.out (by assumption) _ (Kc w11)).mono ?_));rintro e12 w12 ⟨rfl,hb12⟩)
       | fail)
      all_goals
       have Q12:=Q11.next hb12
       have hwd12:=hwd11.next hb12
       have hB12:=Kd hB11 hb12
       have h512:=h511.trans (hb12.mono h511.size)
       have hbp12:=hbp11.trans (hb12.mono (by have:=hbp11.size;have h1:=hwd11.lt;omega))
       clear x0 x1 x2 x3 g0 g1 g2 g3 q_ xl11 ql11
       have x0:=hwd12.c 0 rfl;have x1:=hwd12.c 1 rfl;have x2:=hwd12.c 2 rfl;have x3:=hwd12.c 3 rfl;have g0:=hwd12.f 0 rfl;have g1:=hwd12.f 1 rfl;have g2:=hwd12.f 2 rfl;have g3:=hwd12.f 3 rfl
       have xl12:=hwd12.lt
       go_upto_region 16 with fail
       have hwd13:AtL (w12.setCell ⟨s1+1,3,none⟩ (.int .i64 (now+60000))) (s1+1) [.slice xja 0 xjk,.int .i64 0,.slice xca lx3.length xck,.int .i64 (now+60000)]:=hwd12.set 3 (.int .i64 (now+60000))
       have Q13:=Q12.far ⟨s1+1,3,none⟩ (.int .i64 (now+60000)) (show s1+1≠Q by omega)
       have hbp13:=hbp12.setCell (p:=⟨s1+1,3,none⟩) (Jo _) (.int .i64 (now+60000))
       have hB13:=hB12.setCell (p:=⟨s1+1,3,none⟩) hbw (.int .i64 (now+60000))
       have h513:=h512.setCell (p:=⟨s1+1,3,none⟩) (by show w5.heap.size<=s1+1;have h1:=HLE.out;omega) (.int .i64 (now+60000))
       obtain ⟨w13,hw13⟩:∃ w13:World,w12.setCell ⟨s1+1,3,none⟩ (.int .i64 (now+60000))=w13:=⟨_,rfl⟩
       rw [hw13] at hwd13 Q13 hbp13 hB13 h513
       rw [hw13]
       have m13:=HM0.out.below (by rw [ewp];exact hbp13)
       have hwi13:=HWM.out w13 m13
       have C13:=Kb (CR2.out 60000 r3 HR3.out w13 h513 _ _ _ hwi13 m13.ce HC20.out)
       clear hw13 x0 x1 x2 x3 g0 g1 g2 g3 xl12 hwd12 Q12 hwi13 m13
       have x0:=hwd13.c 0 rfl;have x1:=hwd13.c 1 rfl;have x2:=hwd13.c 2 rfl;have x3:=hwd13.c 3 rfl
       have xl13:=hwd13.lt
       have q_:=Q13.o8
       have ql13:=Q13.lt
       go_upto_region 17 with (first
        | ((with_reducible refine C13.out.mono ?_);rintro e9 w14 hq9;obtain ⟨L14,V14,ea14,n14,ek14,l14,vj14,vc14,lx14,rfl,hn9,hL,hV,hRL⟩:=RunQ.law hq9;have Z3:=lawW_at w14;have Z4:=lawW_at2 w14 L14;have HL:=Kb hL;have HV:=Kb hV;have HRL:=Kb hRL;have HN:=Kb hn9;clear hq9 hL hV hRL hn9)
        | (refine wpList_store_at rfl 40 _ _ rfl w14.heap.size L14 rfl rfl Z3 HL.out.1 (by rw [HL.out.1];kernel_rfl) HL.out.2 ?_)
        | (refine wpList_store_at rfl 27 _ _ rfl (w14.heap.size+1) V14 rfl rfl Z4 HV.out.1 (by rw [HV.out.1];kernel_rfl) HV.out.2 ?_)
        | fail)
       obtain ⟨w15,hw15⟩:∃ w15:World,(((w14.alloc (.cells fz.toArray 40)).alloc (.cells wz.toArray 27)).setCells w14.heap.size 0 L14).setCells (w14.heap.size+1) 0 V14=w15:=⟨_,rfl⟩
       have R15:RunL w13 (now+60000) r3 w14.heap.size L14 (.slice ea14 n14 ek14) l14 vj14 vc14 lx14 w15:=by rw [<-hw15];exact HRL.out
       rw [hw15]
       obtain rfl:n14=l14.length:=HN.out
       have c15:=R15.ph
       rw [H3.out.1] at c15
       have sl15:=R15.st.lt
       have hB15:=hB13.trans (R15.bl.mono hB13.size)
       obtain ⟨z2,hz2,hk2⟩:=one_of (show l14.map (fun y=>y.2.k)=[1] by
        have h:=R15.eq
        rw [H3.out.2.1] at h
        have h2:=Kq (List.map Ev.k) h
        rw [List.map_map] at h2
        rw [<-H3.out.2.2]
        exact h2)
       subst hz2
       obtain ⟨b5,off5,cap5,he5,hb5',hcell5⟩:=slk_at R15.ev (by simp)
       injection he5 with e1 e2 e3
       subst e1 e3
       clear e2
       have d0:=hcell5 0 (by simp) 0 _ rfl
       simp only [List.getElem_cons_zero,Nat.zero_mul,Ku] at d0
       rw [show z2.2.k=1 from hk2] at d0
       clear hw15 HRL HL HV HN Z3 Z4 R15 C13 hwd13 Q13 x0 x1 x2 x3 q_ xl13 ql13 hcell5 hk2
       go_wp2_with fail
       go_ret
       exact ⟨rfl,hB15⟩
end Go.Proofs.YtjdhaacmlpegoaaGreatDoor
