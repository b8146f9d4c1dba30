/- Part 50 of what the proof needs: YD YE YF YFI. -/
import Derived.Test.YtjdhaacmlpegoaaGreatDoorP47
import Derived.Test.YtjdhaacmlpegoaaGreatDoorP44
import Derived.Test.YtjdhaacmlpegoaaGreatDoorP46
import Derived.Test.YtjdhaacmlpegoaaGreatDoorP39
import Derived.Deep.RegionHeld3
import Derived.Test.YtjdhaacmlpegoaaGreatDoorP01
set_option maxRecDepth 20000
set_option maxHeartbeats 16000000
namespace Go.Proofs.YtjdhaacmlpegoaaGreatDoor
open Go.RowKit
set_option linter.unusedSimpArgs false
set_option linter.unusedVariables false
theorem op_head (now st:Int)(hs:List Hd)(bo:ByteArray)(r:Rn)(h:r.s.ph=1):opF now ⟨0,st,hs,bo⟩ r=⟨(headF (jarH r.s now hs r.j).1 now st hs r.s r.c).s,jarH r.s now hs r.j,(headF (jarH r.s now hs r.j).1 now st hs r.s r.c).c,r.ev ++ (headF (jarH r.s now hs r.j).1 now st hs r.s r.c).ev⟩:=by
 unfold opF
 rw [if_pos (by show (0:Nat) % 5=0;decide)]
 unfold headA
 rw [if_pos h]
theorem op_head0 (now st:Int)(hs:List Hd)(bo:ByteArray)(r:Rn)(h:r.s.ph≠1):opF now ⟨0,st,hs,bo⟩ r=r:=by
 unfold opF
 rw [if_pos (by show (0:Nat) % 5=0;decide)]
 unfold headA
 rw [if_neg h]
 simp
theorem start_cases (now:Int)(S:FS)(j:List Ck × Int):(∃ e,startF now S j []=⟨failS S e,j,[],[failV e]⟩)\/(∃ u,parseL S.ur.data.toList=some u/\webB (bs u.1)=true/\(1<=S.mo/\S.mo<=4)/\knownB S.me=true/\(S.mo=2->fgB (putU S u)=false)/\startF now S j []=⟨(askO j.1 now { putU S u with sm:=S.me } [] [] false).s,j,[],(askO j.1 now { putU S u with sm:=S.me } [] [] false).ev⟩):=by
 unfold startF beginF
 split
 ·exact .inl ⟨1,rfl⟩
 ·next hm=>
  split
  ·exact .inl ⟨4,rfl⟩
  ·next u hu=>
   split
   ·exact .inl ⟨4,rfl⟩
   ·next hw=>
    split
    ·exact .inl ⟨15,rfl⟩
    ·next h2=>
     refine .inr ⟨u,hu,by simpa using hw,by omega,?_,fun e=>?_,by rw [sendF_nil];rfl⟩
     ·cases hk:knownB S.me with
      | true=>rfl
      | false=>exact absurd (.inr (.inr hk)) hm
     ·have h3:(decide (S.mo=2) && fgB (putU S u))=false:=by simpa using h2
      rw [decide_eq_true e,Bool.true_and] at h3
      exact h3
abbrev ccB:ByteArray:=⟨#[67,97,99,104,101,45,67,111,110,116,114,111,108]⟩
abbrev maB:ByteArray:=⟨#[109,97,120,45,97,103,101,61,54,48]⟩
abbrev starS:ByteArray:=⟨#[42]⟩
def okHs:List Hd:=[(ccB,maB),(acoC,starS)]
theorem ok_lo:hdrL okHs loN.data.toList=none:=by
 unfold hdrL okHs
 rw [List.find?_cons_of_neg (by show ¬ (lowL ccB.data.toList == lowL loN.data.toList)=true;decide +kernel),List.find?_cons_of_neg (by show ¬ (lowL acoC.data.toList == lowL loN.data.toList)=true;decide +kernel)]
 rfl
theorem head_ok (J:List Ck)(now:Int)(S:FS)(C:List En):headF J now 200 okHs S C=headO 200 okHs S C:=by
 unfold headF
 rw [show decide ((200:Int)=304)=false from rfl,Bool.and_false,if_neg (by decide)]
 unfold takeF
 rw [ok_lo,Option.isSome_none,Bool.false_and,if_neg (by decide)]
theorem nil_ba (a:ByteArray):eS ++ a=a:=ba_ext' (by rw [app_list];rfl)
def dv (hi:Bool)(p:ByteArray):List Ev:=if p.size=0\/hi=true then [] else [⟨3,eS,eS,[],p,0,0⟩]
def dOp (p:ByteArray):Op4:=⟨1,0,[],p⟩
def eOp:Op4:=⟨2,0,[],eS⟩
theorem op_data (now:Int)(p:ByteArray)(r:Rn):opF now (dOp p) r=⟨(dataF p r.s).1,r.j,r.c,r.ev ++ (dataF p r.s).2⟩:=by
 unfold opF dOp
 rw [if_neg (by show ¬ (1:Nat) % 5=0;decide),if_pos (by show (1:Nat) % 5=1;decide)]
theorem op_end (now:Int)(r:Rn):opF now eOp r=⟨(endF now r.s r.c).s,r.j,(endF now r.s r.c).c,r.ev ++ (endF now r.s r.c).ev⟩:=by
 unfold opF eOp
 rw [if_neg (by show ¬ (2:Nat) % 5=0;decide),if_neg (by show ¬ (2:Nat) % 5=1;decide),if_pos (by show (2:Nat) % 5=2;decide)]
theorem op_data2 (now:Int)(p:ByteArray)(r:Rn)(h:r.s.ph=2)(hz:r.s.sb.size+p.size<=1048576):opF now (dOp p) r=⟨{ r.s with sb:=r.s.sb ++ p },r.j,r.c,r.ev ++ dv r.s.hi p⟩:=by
 rw [op_data]
 unfold dataF dv
 rw [if_pos h,if_neg (by omega)]
theorem op_data0 (now:Int)(p:ByteArray)(r:Rn)(h:r.s.ph≠2):opF now (dOp p) r=r:=by
 rw [op_data]
 unfold dataF
 rw [if_neg h]
 simp
theorem ok_dir:dirL okHs=⟨false,false,false,60⟩:=by
 unfold dirL okHs
 rw [List.foldl_cons,List.foldl_cons,List.foldl_nil]
 have e1:dirOne ⟨false,false,false,-1⟩ (ccB,maB)=⟨false,false,false,60⟩:=by
  unfold dirOne
  rw [if_pos (by show lowL ccB.data.toList=ccN;decide +kernel)]
  have:wordsL maB.data.toList=[[109,97,120,45,97,103,101,61,54,48]]:=by decide +kernel
  show (wordsL maB.data.toList).foldl dirStep ⟨false,false,false,-1⟩=_
  rw [this]
  kernel_rfl
 rw [e1]
 unfold dirOne
 rw [if_neg (by show ¬ lowL acoC.data.toList=ccN;decide +kernel)]
theorem ok_none (n:List UInt8)(h1:(lowL ccB.data.toList == lowL n)=false)(h2:(lowL acoC.data.toList == lowL n)=false):hdrL okHs n=none:=by
 unfold hdrL okHs
 rw [List.find?_cons_of_neg (by show ¬ (lowL ccB.data.toList == lowL n)=true;rw [h1];decide),List.find?_cons_of_neg (by show ¬ (lowL acoC.data.toList == lowL n)=true;rw [h2];decide)]
 rfl
theorem ok_aco:hdrL okHs acoL=some starS:=by
 unfold hdrL okHs
 rw [List.find?_cons_of_neg (by show ¬ (lowL ccB.data.toList == lowL acoL)=true;decide +kernel),List.find?_cons_of_pos (by show (lowL acoC.data.toList == lowL acoL)=true;decide +kernel)]
 rfl
theorem ok_life:lifeL okHs=60000:=by
 have h:ageH okHs=0:=by
  unfold ageH
  rw [ok_none _ (by decide +kernel) (by decide +kernel)]
  decide +kernel
 unfold lifeL
 rw [ok_dir,h]
 decide
theorem ok_vary:varyL okHs=[]:=by
 unfold varyL
 rw [ok_none _ (by decide +kernel) (by decide +kernel)]
 decide +kernel
theorem ok_chk:chkL okHs=[]:=by
 unfold chkL
 rw [ok_none _ (by decide +kernel) (by decide +kernel),ok_none _ (by decide +kernel) (by decide +kernel)]
 rfl
theorem hdF_dir (S:FS)(h:S.qh=[]):dirL (hdF S)=⟨false,false,false,-1⟩:=by
 have h2:∀ x∈hdF S,x=(ogN,S.og):=fun x hx=>by
  unfold hdF at hx
  rw [h] at hx
  rcases List.mem_append.1 hx with hx | hx
  ·cases hx
  ·split at hx
   ·exact List.mem_singleton.1 hx
   ·cases hx
 unfold dirL
 exact dir_none _ _ fun x hx=>by rw [h2 x hx];show ¬ lowL ogN.data.toList=ccN;decide +kernel
theorem ok_stor (S:FS)(h:S.qh=[]):storL 200 (hdF S) okHs=true:=by
 unfold storL
 rw [hdF_dir S h,ok_dir,ok_vary,ok_life]
 decide +kernel
def okE4 (S:FS)(body:ByteArray)(now:Int):En:=⟨txB S,[],200,okHs,body,now⟩
theorem ok_keep (S:FS)(h:S.qh=[])(hg:(S.sm.toList == getT)=true)(body:ByteArray)(now:Int):keepF S 200 okHs body now []=[okE4 S body now]:=by
 unfold keepF
 rw [if_pos hg]
 unfold putEs
 rw [ok_stor S h]
 have:varyE (hdF S) okHs=[]:=by unfold varyE;rw [ok_vary];rfl
 rw [this]
 rfl
theorem age_of {now d:Int}(h0:0<=now)(h1:now<=1125899906842624)(hd:0<=d)(hd2:d<=60000):ageE now (now+d)=d:=by
 unfold ageE
 have e1:clockI now=now:=by unfold clockI;omega
 have e2:clockI (now+d)=now+d:=by unfold clockI;omega
 rw [e1,e2]
 omega
theorem ok_ask (S:FS)(h:S.qh=[])(body:ByteArray){now d:Int}(h0:0<=now)(h1:now<=1125899906842624)(hd:0<=d)(hd2:d<=60000)(url:ByteArray)(hu:url=txB S):
 askF [okE4 S body now] url (hdF S) (now+d)=if d<60000 then ⟨2,okE4 S body now,[],[okE4 S body now]⟩ else ⟨1,en0,[],[okE4 S body now]⟩:=by
 subst hu
 have ha:ansB (okE4 S body now) (txB S) (hdF S)=true:=by
  unfold ansB urlB
  simp [okE4]
 have hl:lastI (fun e=>ansB e (txB S) (hdF S)) [okE4 S body now]=some 0:=by
  unfold lastI
  show (match (none:Option Nat) with | some k=>some (k+1) | none=>if ansB (okE4 S body now) (txB S) (hdF S)=true then some 0 else none)=some 0
  simp only [ha,if_true]
 have hf:useB ⟨false,false,false,-1⟩ (okE4 S body now) (now+d)=decide (d<60000):=by
  unfold useB freshE
  rw [show (okE4 S body now).ti=now from rfl,show (okE4 S body now).hd=okHs from rfl,age_of h0 h1 hd hd2,ok_life]
  simp
 unfold askF
 rw [hl,hdF_dir S h]
 simp only [if_neg (show ¬ (false=true) by decide),List.getElem?_cons_zero,hf,decide_eq_true_eq]
 rw [show (okE4 S body now).hd=okHs from rfl,ok_chk]
 split <;> rfl
theorem ok_rd (S:FS)(m1:1<=S.mo)(m4:S.mo<=4)(hk:S.ck=false)(h2:S.mo=2->fgB S=false):rdF S okHs=true:=by
 unfold rdF readB
 by_cases e4:S.mo=4
 ·rw [decide_eq_true e4];rfl
 ·by_cases e1:S.mo=1
  ·rw [decide_eq_true e1];simp
  ·by_cases e2:S.mo=2
   ·have hf:=h2 e2
    unfold fgB at hf
    have hf2:(orgL S.u == S.og.data.toList)=true:=by simpa using hf
    have e3:((bs (orgL S.u)).toList == S.og.toList)=true:=by rw [beq_lists];exact hf2
    rw [e3];simp
   ·have e3:S.mo=3:=by omega
    have ha:valL okHs acoL=starS:=by unfold valL;rw [ok_aco];rfl
    have ht:(starS.toList == [42])=true:=by decide +kernel
    rw [decide_eq_true e3,ok_aco,ha,ht,hk]
    simp
def okHd (S:FS):Ev:=if decide (S.mo=4) && fgB S then ⟨2,eS,eS,[],eS,0,0⟩ else ⟨2,eS,bs (formatL S.u),woL okHs [scN],eS,200,0⟩
theorem ok_headO (S:FS)(C:List En)(hr:rdF S okHs=true):headO 200 okHs S C=⟨{ S with ph:=2,hi:=decide (S.mo=4) && fgB S,st:=200,hs:=okHs,sb:=eS },C,[okHd S]⟩:=by
 unfold headO
 rw [if_neg (by rw [hr];decide)]
 rfl
theorem ok_stored (snd:FS->List En->Out)(now:Int)(S S1:FS)(body:ByteArray)(hb:body.size<=1048576)(t:Int)(C:List En)(hr:rdF S okHs=true):
 storedF snd now (okE4 S1 body t) S C=⟨{ S with ch:=false,ph:=3,hi:=decide (S.mo=4) && fgB S,st:=200,hs:=okHs,sb:=eS ++ body },C,[okHd S] ++ dv (decide (S.mo=4) && fgB S) body ++ [endV]⟩:=by
 unfold storedF takeF
 rw [show (okE4 S1 body t).hd=okHs from rfl,ok_lo,Option.isSome_none,Bool.false_and,if_neg (by decide),show (okE4 S1 body t).st=200 from rfl,ok_headO { S with ch:=false } C hr]
 unfold restF
 rw [if_pos rfl]
 have hd:∀ T:FS,T.ph=2->T.sb=eS->dataF body T=({ T with sb:=eS ++ body },dv T.hi body):=fun T h1 h2=>by
  unfold dataF dv
  rw [if_pos h1,h2,if_neg (by show ¬ 1048576<0+body.size;omega)]
 rw [show (okE4 S1 body t).bo=body from rfl,hd _ rfl rfl,if_pos rfl]
 rfl
theorem ok_evs (S:FS)(hi:Bool)(p:ByteArray):([okHd S] ++ dv hi p ++ [endV]).length<=1000/\∀ y∈[okHd S] ++ dv hi p ++ [endV],y.hs.length<=1000:=by
 have h1:(okHd S).hs.length<=1000:=by
  unfold okHd
  split
  ·exact Nat.zero_le _
  ·exact Nat.le_trans (List.length_filter_le _ _) (by show 2<=1000;decide)
 unfold dv
 split
 ·refine ⟨by simp,fun y hy=>?_⟩
  simp only [List.append_nil,List.mem_append,List.mem_singleton] at hy
  rcases hy with rfl | rfl
  ·exact h1
  ·exact Nat.zero_le _
 ·refine ⟨by simp,fun y hy=>?_⟩
  simp only [List.mem_append,List.mem_singleton] at hy
  rcases hy with (rfl | rfl) | rfl
  ·exact h1
  ·exact Nat.zero_le _
  ·exact Nat.zero_le _
theorem fresh_plain {now:Int}(h0:0<=now)(h1:now<=1125899906842624)(S:FS)(hq:S.qh=[])(hk:S.ck=false)(hm:(S.me.toList == getT)=true)(hg0:S.ph=0)(hc0:S.ch=false)(body:ByteArray)(hb:body.size<=1048576)(r:Rn)
 (hr:runF now [⟨0,200,okHs,eS⟩,dOp body,eOp] (startF now S ([],0) [])=r) :
 r.j=([],0)/\((r.s.ph≠3/\r.c=[])\/(r.s.ph=3/\(∃ e,r.c=[e]/\e.va=[]/\e.hd=okHs/\e.bo=body)/\∃ x l,r.ev=x :: l/\(l.length<=1000/\∀ y∈l,y.hs.length<=1000)/\(startF (now+59999) S ([],0) r.c).s.ph=3/\(startF (now+59999) S ([],0) r.c).ev=l /\
  (startF (now+60000) S ([],0) r.c).s.ph=1/\∃ e,(startF (now+60000) S ([],0) r.c).ev=[e]/\e.k=1)):=by
 rcases start_cases now S ([],0) with ⟨e,he⟩ | ⟨u,hu,hw,hmo,hkn,h2,he⟩
 ·rw [he,runF_cons,op_head0 _ _ _ _ _ (by show (4:Int)≠1;decide),runF_cons,op_data0 _ _ _ (by show (4:Int)≠2;decide),runF_cons,op_end] at hr
  subst hr
  exact ⟨rfl,.inl ⟨by show (4:Int)≠3;decide,rfl⟩⟩
 ·obtain ⟨T,hT⟩:∃ T:FS,{ putU S u with sm:=S.me }=T:=⟨_,rfl⟩
  rw [hT] at he
  have hTg:(T.sm.toList == getT)=true:=by rw [<-hT];exact hm
  have hTq:T.qh=[]:=by rw [<-hT];exact hq
  have hTk:T.ck=false:=by rw [<-hT];exact hk
  have hTm:T.mo=S.mo:=by rw [<-hT];rfl
  have hTc:T.ch=false:=by rw [<-hT];exact hc0
  have hT2:T.mo=2->fgB T=false:=fun e=>by rw [hTm] at e;rw [<-hT];exact h2 e
  have hrd:rdF T okHs=true:=ok_rd T (by omega) (by omega) hTk hT2
  obtain ⟨T1,hT1⟩:∃ T1,(askO ([]:List Ck) now T [] [] false).s=T1:=⟨_,rfl⟩
  have hrd1:rdF T1 okHs=true:=by rw [<-hT1];exact hrd
  have hk1:T1.ck=false:=by rw [<-hT1];exact hTk
  have hj:∀ C,headF (jarH T1 now okHs ([],0)).1 now 200 okHs T1 C=⟨{ T1 with ph:=2,hi:=decide (T1.mo=4) && fgB T1,st:=200,hs:=okHs,sb:=eS },C,[okHd T1]⟩:=fun C=>by
   rw [head_ok,ok_headO T1 C hrd1]
  have hjj:jarH T1 now okHs ([],0)=([],0):=by unfold jarH;rw [hk1,if_neg (by decide)]
  obtain ⟨A,hA⟩:∃ A,(askO ([]:List Ck) now T [] [] false).ev=[A]:=⟨_,rfl⟩
  have hee:startF now S ([],0) []=⟨T1,([],0),[],[A]⟩:=by rw [he,<-hT1,<-hA]
  rw [hee,runF_cons,op_head _ _ _ _ _ (by rw [<-hT1];rfl)] at hr
  simp only at hr
  rw [hj,hjj,runF_cons,op_data2 _ _ _ rfl (by show 0+body.size<=1048576;omega),runF_cons,op_end] at hr
  have hg1:(T1.sm.toList == getT)=true:=by rw [<-hT1];exact hTg
  have hq1:T1.qh=[]:=by rw [<-hT1];exact hTq
  have hkp:keepF { T1 with ph:=2,hi:=decide (T1.mo=4) && fgB T1,st:=200,hs:=okHs,sb:=eS ++ body } 200 okHs (eS ++ body) now []=[okE4 T body now]:=by
   rw [nil_ba]
   refine (ok_keep _ hq1 hg1 body now).trans ?_
   rw [<-hT1];rfl
  unfold endF at hr
  simp only at hr
  rw [if_pos trivial,hkp] at hr
  have hr:(⟨{ T1 with ph:=3,hi:=decide (T1.mo=4) && fgB T1,st:=200,hs:=okHs,sb:=eS ++ body },([],0),[okE4 T body now],[A] ++ [okHd T1] ++ dv (decide (T1.mo=4) && fgB T1) body ++ [endV]⟩:Rn)=r:=hr
  subst hr
  have hbg:∀ d:Int,0<=d->d<=60000->beginF ([]:List Ck) (now+d) S [okE4 T body now]=if d<60000 then storedF (sendF [] (now+d) 10) (now+d) (okE4 T body now) T [okE4 T body now] else askO [] (now+d) T [okE4 T body now] [] false:=fun d hd hd2=>by
   unfold beginF
   rw [if_neg (by rw [hkn];rintro (h | h | h) <;> first | omega | cases h),hu]
   simp only
   rw [if_neg (by rw [hw];decide)]
   have h3:(decide (S.mo=2) && fgB (putU S u))=false:=by
    by_cases e:S.mo=2
    ·rw [h2 e];simp
    ·rw [decide_eq_false e];rfl
   rw [if_neg (by rw [h3];decide),hT]
   unfold sendF
   rw [if_pos hTg]
   simp only [ok_ask T hTq body h0 h1 hd hd2 _ rfl]
   split
   ·rw [if_pos rfl]
   ·rw [if_neg (show ¬ (1:Int)=2 by decide),if_neg (show ¬ (1:Int)=3 by decide)]
  have hfg:fgB T1=fgB T:=by rw [<-hT1];rfl
  have hmo1:T1.mo=T.mo:=by rw [<-hT1];rfl
  have hhd:okHd T1=okHd T:=by rw [<-hT1];rfl
  refine ⟨rfl,.inr ⟨rfl,⟨_,rfl,rfl,rfl,rfl⟩,A,_,rfl,ok_evs _ _ _,?_⟩⟩
  have e1:=hbg 59999 (by decide) (by decide)
  rw [if_pos (by decide),ok_stored _ _ T T body hb now _ hrd] at e1
  have e2:=hbg 60000 (by decide) (by decide)
  rw [if_neg (by decide)] at e2
  refine ⟨?_,?_,?_,?_⟩
  ·show (beginF ([]:List Ck) (now+59999) S [okE4 T body now]).s.ph=3
   rw [e1]
  ·show (beginF ([]:List Ck) (now+59999) S [okE4 T body now]).ev=_
   rw [e1,hfg,hmo1,hhd]
   rfl
  ·show (beginF ([]:List Ck) (now+60000) S [okE4 T body now]).s.ph=1
   rw [e2];rfl
  ·obtain ⟨x,hx,hk1⟩:∃ x,(askO ([]:List Ck) (now+60000) T [okE4 T body now] [] false).ev=[x]/\x.k=1:=⟨_,rfl,rfl⟩
   refine ⟨x,?_,hk1⟩
   show (beginF ([]:List Ck) (now+60000) S [okE4 T body now]).ev=_
   rw [e2]
   exact hx
abbrev exU:ByteArray:=⟨#[104,116,116,112,58,47,47,97,46,99,111,109,47,120]⟩
abbrev exG:ByteArray:=⟨#[104,116,116,112,58,47,47,97,46,99,111,109]⟩
abbrev exM:ByteArray:=⟨#[71,69,84]⟩
def exS:FS:=newS 0 exM exU exG 2 [] ⟨#[]⟩ false
theorem ex_ph:(beginF [] 0 exS []).s.ph=1:=by decide +kernel
theorem ex_ck:(beginF [] 0 exS []).s.ck=false:=by decide +kernel
theorem ex_ev:(beginF [] 0 exS []).ev.map (fun e=>(e.k,e.ur.data.toList))=[(1,exU.data.toList)]:=by decide +kernel
theorem ex_hd:(headF [] 0 200 [] (beginF [] 0 exS []).s (beginF [] 0 exS []).c).ev.map (fun e=>(e.k,e.st))=[(2,200)]:=by decide +kernel
theorem one_of {α β:Type}{l:List α}{f:α->β}{y:β}(h:l.map f=[y]):∃ x,l=[x]/\f x=y:=by
 match l,h with
 | [x],h=>exact ⟨x,rfl,by simpa using h⟩
 | [],h=>simp at h
 | _ :: _ :: _,h=>simp at h
theorem evs_one [Prot]{M:Nat->Prop}{n:Nat}{w:World}{v:Value}{l:List (Value × Ev)}{e:Ev}(h:Evs M n w v l [e]):∃ (b o c:Nat) (u:Value),v = .slice (some ⟨b,o,none⟩) 1 c/\b<w.heap.size/\¬ M b/\∀ j x,(evC (u,e))[j]? = some x->w.cell? ⟨b,o+j,none⟩=some x:=by
 obtain ⟨⟨u,e'⟩,rfl,rfl⟩:=one_of h.eq
 obtain ⟨ea,ek,hv,_⟩:=own_reads h.own
 obtain ⟨b,o,c,he,hb,hc⟩:=slk_at (SlK.of_own evC_len h.own) (by show 0<1;decide)
 refine ⟨b,o,c,u,he,hb,h.far b ?_,fun j x hx=>by have:=hc 0 (by show 0<1;decide) j x hx;simpa using this⟩
 rcases h.own.2 with ⟨h1,_⟩ | ⟨g,cap,cur,h1,_⟩
 ·rw [h1] at he;cases he
 ·rw [h1] at he
  injection he with he _ _
  injection he with he
  injection he with he
  rw [h1,<-he];rfl
theorem fitP {w:World}(hM:MaxAt w){w3:World}(hb:Below w.heap.size w w3)(hJ:AtL w3 w.heap.size [.slice none 0 0,.int .i64 0])(hC:AtL w3 (w.heap.size+1) [.slice none 0 0]): @EnvP ⟨fun _=>False⟩ w3 w.heap.size (w.heap.size+1) w.heap.size (.slice none 0 0) (.slice none 0 0) [] 0 []:=
 @EnvP.mk ⟨fun _=>False⟩ w3 w.heap.size (w.heap.size+1) w.heap.size (.slice none 0 0) (.slice none 0 0) [] 0 [] (hM.below hb lr) hM.lt lr (Nat.le_succ _) (by omega)
  ⟨hJ,World.ownsRow_nil _ _ _ _,by simp [Value.ownBlock],hb.size⟩ ⟨hC,World.ownsRow_nil _ _ _ _,by simp [Value.ownBlock],hb.size,(fun x hx=>by cases hx),(fun x hx=>by cases hx)⟩ (by simp [Value.ownBlock]) (by simp [Value.ownBlock]) (fun g hg=>by simp [Value.ownBlock] at hg) (fun x hx=>by cases hx) (fun b h=>h.elim)
theorem ex_begin {w w3 w4:World}{x:Ending}(hM:MaxAt w)(hb:Below w.heap.size w w3)(q : @BeginR ⟨fun _=>False⟩ w3 w.heap.size (w.heap.size+1) w.heap.size (.slice none 0 0) [] 0 (.slice none 0 0) (beginF [] 0 exS []) x w4):
 ∃ (L : List Value) (b o c : Nat) (u : Value) (e : Ev) (vc : Value) (lx : List Ee), x = .returned (.tuple #[.agg L.toArray, .slice (some ⟨b, o, none⟩) 1 c]) ∧ (L.length = 23 ∧ L.all (·.oneCell') = true) ∧ (e.k = 1 ∧ e.ur = exU) ∧ (b < w4.heap.size ∧ ∀ j x, (evC (u, e))[j]? = some x → w4.cell? ⟨b, o + j, none⟩ = some x) ∧ Kp w3.heap.size (fun k => k = w.heap.size ∨ k = w.heap.size + 1) w3 w4 ∧
   ¬ MuP w.heap.size (w.heap.size+1) (.slice none 0 0) vc b/\(∀ k,k<w3.heap.size->MuP w.heap.size (w.heap.size+1) (.slice none 0 0) vc k->k=w.heap.size\/k=w.heap.size+1)/\∀ w5,Below w4.heap.size w4 w5->AtL w5 w4.heap.size L->@FIn ⟨fun _=>False⟩ w5 w4.heap.size w.heap.size (w.heap.size+1) w.heap.size (.slice none 0 0) [] 0 vc lx (beginF [] 0 exS []).s/\lx.map (·.2)=(beginF [] 0 exS []).c:=by
 obtain ⟨va,vk,wa,wk,v,l,vc,lx,rfl,E4,hc4,hq4,hh4,ev4,K4,M4,_⟩:=q
 obtain ⟨e,he,hf⟩:=one_of ex_ev
 rw [he] at ev4
 obtain ⟨b,o,c,u,rfl,hb4,hm,hcell⟩:=@evs_one ⟨fun _=>False⟩ _ _ _ _ _ _ ev4
 injection hf with hf1 hf2
 have hMu:∀ k,MuP w.heap.size (w.heap.size+1) (.slice none 0 0) (.slice none 0 0) k->k=w.heap.size\/k=w.heap.size+1:=by
  rintro k (h | h | h | h)
  ·exact .inl h
  ·exact .inr h
  ·simp [Value.ownBlock] at h
  ·simp [Value.ownBlock] at h
 refine ⟨_,b,o,c,u,e,vc,lx,rfl,⟨rfl,rfl⟩,⟨hf1,ba_ext' hf2⟩,⟨hb4,hcell⟩,⟨K4.os,K4.tape,K4.output,K4.size,fun k hk hn=>K4.block k hk fun h=>hn (hMu k h)⟩,hm,fun k hk h=>hMu k (M4 k hk h),fun w5 h5 S5=>⟨@FIn.mk ⟨fun _=>False⟩ _ _ _ _ _ _ _ _ _ _ _ (@EnvP.mk' w4 w5 w4.heap.size w.heap.size (w.heap.size+1) w.heap.size _ vc [] 0 lx (fun _=>False) ⟨fun _=>False⟩ E4 h5 lr S5.lt (fun b h=>h.elim) (fun b h=>h.elim)) ⟨va,vk,wa,wk,S5,?_,?_⟩,hc4⟩⟩
 all_goals
  refine ⟨SlK.below (by first | exact hq4.1 | exact hh4.1) h5 lr,fun h0 b off n c e2 hm2=>?_⟩
  rcases hm2 with (hm2 | hm2) | hm2
  ·have:=slk_lt (by first | exact hq4.1 | exact hh4.1) h0 e2;omega
  ·first
    | exact hq4.2 h0 b off n c e2 (.inl hm2)
    | exact hh4.2 h0 b off n c e2 (.inl hm2)
  ·exact hm2
theorem fit_is45 (w:World)(hM:MaxAt w):Calls Tryz.prog 11 #[] w fun e w'=>e = .returned (.bool true)/\Below w.heap.size w w':=by
 have hal1:=(Below.refl _ w).alloc lr (.cells [.slice none 0 0,.int .i64 0].toArray 24)
 have hal2:=hal1.alloc (by simp) (.cells [.slice none 0 0].toArray 79)
 have hal3:=hal2.alloc (by simp;omega) (.cells (envL w.heap.size (w.heap.size+1) 0).toArray 83)
 have J3:=((AtL.new w [.slice none 0 0,.int .i64 0] 24).alloc (.cells [.slice none 0 0].toArray 79)).alloc (.cells (envL w.heap.size (w.heap.size+1) 0).toArray 83)
 have C3:=(AtL.new (w.alloc (.cells [.slice none 0 0,.int .i64 0].toArray 24)) [.slice none 0 0] 79).alloc (.cells (envL w.heap.size (w.heap.size+1) 0).toArray 83)
 have E3:=AtL.new ((w.alloc (.cells [.slice none 0 0,.int .i64 0].toArray 24)).alloc (.cells [.slice none 0 0].toArray 79)) (envL w.heap.size (w.heap.size+1) 0) 83
 rw [show (w.alloc (.cells [.slice none 0 0,.int .i64 0].toArray 24)).heap.size=w.heap.size+1 by simp] at C3
 rw [show ((w.alloc (.cells [.slice none 0 0,.int .i64 0].toArray 24)).alloc (.cells [.slice none 0 0].toArray 79)).heap.size=w.heap.size+1+1 by simp] at E3
 have EP:=fitP hM hal3 J3 C3
 have CB:=Lib.hid (@Begin_is ⟨fun _=>False⟩ _ _ _ _ _ _ _ _ _ 0 0 EP 0 exM exU exG 2 (.slice none 0 0) [] ⟨#[]⟩ false (slk0 _) (newS_ok (Nat.zero_le _) (fun h hh=>by cases hh) (by decide) (by decide)) ⟨Nat.zero_le _,fun c hc=>by cases hc⟩ ⟨Nat.zero_le _,fun c hc=>by cases hc⟩ (by decide) (by decide) 0 (beginF [] 0 exS []) rfl)
 have HM:=Lib.hid hM
 have hok:=beginF_ok (n:=0) (m:=100) (by decide) [] 0 (S:=exS) (newS_ok (Nat.zero_le _) (fun h hh=>by cases hh) (by decide) (by decide)) (C:=[]) ⟨Nat.zero_le _,fun c hc=>by cases hc⟩
 have HOK:=Lib.hid hok
 clear EP J3 C3 hal1 hal2 hok
 go_enter Tryz.func11,Tryz.ntmps11
 go_upto_region 4 with fail
 obtain ⟨w3,hw3⟩:∃ w3:World,((w.alloc (.cells [.slice none 0 0,.int .i64 0].toArray 24)).alloc (.cells [.slice none 0 0].toArray 79)).alloc (.cells (envL w.heap.size (w.heap.size+1) 0).toArray 83)=w3:=⟨_,rfl⟩
 rw [hw3] at CB hal3 E3
 rw [hw3]
 have hs3:w3.heap.size=w.heap.size+3:=by rw [<-hw3];simp
 have HEX:=Lib.hid (fun (x:Ending) (w4:World)=>@ex_begin w w3 w4 x HM.out hal3)
 clear hw3 hM
 have q_:=E3.o3
 have el3:=E3.lt
 go_upto_region 5 with (first
  | (go_at_call 30;(with_reducible refine CB.out.mono ?_);rintro e4 w4 hq4;obtain ⟨L,b1,o1,k1,u1,ev1,vc4,lx4,rfl,hL,hev,⟨hbl,hcell⟩,K4,hmu,hM4,hF⟩:=HEX.out _ _ hq4;have HL:=Lib.hid hL;have Z5:=AtL.new w4 fz 40;have E4:=E3.kp K4 E3.lt (by rintro (h | h) <;> omega);clear hq4 hL)
  | (refine wpList_store_at rfl 40 _ _ rfl w4.heap.size L rfl rfl Z5 HL.out.1 (by rw [HL.out.1];kernel_rfl) HL.out.2 ?_)
  | fail)
 have h45:=Below.sets (k:=w4.heap.size) lr (o:=0) L ((Below.refl _ w4).alloc lr (.cells fz.toArray 40))
 have S5:=AtL.sets (vs:=L) Z5 HL.out.1
 obtain ⟨w5,hw5⟩:∃ w5:World,(w4.alloc (.cells fz.toArray 40)).setCells w4.heap.size 0 L=w5:=⟨_,rfl⟩
 rw [hw5] at h45 S5
 rw [hw5]
 obtain ⟨F5,hc5⟩:=hF w5 h45 S5
 have E5:=E4.next h45
 have h34:=K4.size
 have h45s:=h45.size
 have hB4:Below w.heap.size w w4:=hal3.trans (K4.low (by omega) (by rintro b (h | h) <;> omega))
 have hB5:=hB4.trans (h45.mono hB4.size)
 have hge:=@EnvIn.mge ⟨fun _=>False⟩ _ _ _ _ _ _ _ _ _ _ (@FIn.env ⟨fun _=>False⟩ _ _ _ _ _ _ _ _ _ _ _ F5)
 have hb1s:¬ Mu w4.heap.size w.heap.size (w.heap.size+1) (.slice none 0 0) vc4 b1:=by
  rintro (h | h)
  ·omega
  ·exact hmu h
 have hph:=ex_ph
 obtain ⟨p,hp⟩:∃ p,headA 0 200 [] (beginF [] 0 exS []).s ([],0) (lx4.map (·.2))=p:=⟨_,rfl⟩
 have hpe:p.2.ev.map (fun e=>(e.k,e.st))=[(2,200)]:=by
  rw [<-hp,hc5]
  unfold headA jarH
  rw [if_pos hph,ex_ck,if_neg (by decide)]
  exact ex_hd
 obtain ⟨e2,he2,hf2⟩:=one_of hpe
 injection hf2 with hf3 hf4
 have CH:=Lib.hid (@head_is ⟨fun _=>False⟩ _ _ _ _ _ _ _ _ _ _ _ 0 100 F5 HOK.out.s ⟨Nat.zero_le _,fun c hc=>by cases hc⟩ (by rw [hc5];exact HOK.out.c) (by decide) (by decide) (by decide) (by decide) (by decide) 200 (.slice none 0 0) [] (@Hs.nil ⟨fun _=>False⟩ _ _) (HOk.nil 8) (fun h=>by obtain ⟨_,h,_⟩:=h;cases h) 0 p hp)
 have hc1:∀ j x,(evC (u1,ev1))[j]? = some x->w5.cell? ⟨b1,o1+j,none⟩=some x:=fun j x hx=>(brl h45 _ _ hbl).trans (hcell j x hx)
 have HQ:Hid (∀ (x:Ending) (w6:World),@HeadQ ⟨fun _=>False⟩ w5 w4.heap.size w.heap.size (w.heap.size+1) w.heap.size (.slice none 0 0) vc4 p.1 p.2 x w6->∃ (b2 o2 k2:Nat) (u2:Value),x = .returned (.slice (some ⟨b2,o2,none⟩) 1 k2)/\b2<w6.heap.size/\(w6.cell? ⟨b2,o2,none⟩=some (.int .i64 2)/\w6.cell? ⟨b2,o2+5,none⟩=some (.int .i64 200))/\(w6.cell? ⟨b1,o1,none⟩=some (.int .i64 1)/\w6.cell? ⟨b1,o1+2,none⟩=some (.string exU))/\b1<w6.heap.size/\Below w.heap.size w w6):=Lib.hid (by
  intro x w6 q
  obtain ⟨v,l,vj',vc',lx',rfl,_,_,ev6,K6,_⟩:=q
  rw [he2] at ev6
  obtain ⟨b2,o2,k2,u2,rfl,hb2,_,hc2⟩:=@evs_one ⟨fun _=>False⟩ _ _ _ _ _ _ ev6
  have hb15:b1<w5.heap.size:=by omega
  have d0:=hc2 0 _ rfl
  have d5:=hc2 5 _ rfl
  have g0:=(K6.cell hb15 hb1s).trans (hc1 0 _ rfl)
  have g2:=(K6.cell hb15 hb1s).trans (hc1 2 _ rfl)
  simp only [Nat.add_zero] at d0 g0
  refine ⟨b2,o2,k2,u2,rfl,hb2,⟨by rw [d0];exact congrArg some (by show Value.int .i64 e2.k=_;rw [hf3]),by rw [d5];exact congrArg some (by show Value.int .i64 e2.st=_;rw [hf4])⟩,⟨by rw [g0];exact congrArg some (by show Value.int .i64 ev1.k=_;rw [hev.1]),by rw [g2];exact congrArg some (by show Value.string ev1.ur=_;rw [hev.2])⟩,by have:=K6.size;omega,hB5.trans ((K6.low (n:=w5.heap.size) (B:=w.heap.size) (by have:=hB5.size;omega) hge).mono lr)⟩)
 clear hw5 Z5 S5 F5 hc5 hF hcell hc1 hmu hM4 hev K4 E4 E3 q_ el3 hp hpe he2 hf3 hf4 hph hge hbl hb1s
 have q_:=E5.o3
 have el5:=E5.lt
 go_wp2_with (first
  | (go_at_call 31;(with_reducible refine CH.out.mono ?_);rintro e6 w6 hq6;obtain ⟨b2,o2,k2,u2,rfl,hb2,⟨d0,d5⟩,⟨g0,g2⟩,hb1,hB6⟩:=HQ.out _ _ hq6)
  | fail)
 go_ret
 exact ⟨rfl,hB6⟩
end Go.Proofs.YtjdhaacmlpegoaaGreatDoor
