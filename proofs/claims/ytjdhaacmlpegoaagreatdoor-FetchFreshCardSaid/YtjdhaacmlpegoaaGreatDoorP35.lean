/- Part 35 of what the proof needs: XN. -/
import Derived.Test.YtjdhaacmlpegoaaGreatDoorP34
import Derived.Test.YtjdhaacmlpegoaaGreatDoorP01
set_option maxRecDepth 20000
set_option maxHeartbeats 16000000
namespace Go.Proofs.YtjdhaacmlpegoaaGreatDoor
open Go.RowKit
set_option linter.unusedSimpArgs false
set_option linter.unusedVariables false
theorem mov_has (st:Int):([301,302,303,307,308]:List Int).contains st=movB st:=by
 unfold movB
 rw [Bool.eq_iff_iff,decide_eq_true_eq,List.contains_iff_mem]
 simp
theorem FIn.head [Prot]{w:World}{s0 jb cb B:Nat}{vj:Value}{J:List Ck}{nx:Int}{vc:Value}{lx:List Ee}{S:FS}(h:FIn w s0 jb cb B vj J nx vc lx S)(st:Int)(hd:List Hd)(ca:Option Addr)(cc:Nat)(hn:Hs (Mu s0 jb cb vj vc) w (.slice ca hd.length cc) hd):
 FIn ((((w.setCell ⟨s0,19,none⟩ (.int .i64 st)).setCell ⟨s0,20,none⟩ (.slice ca hd.length cc)).setCell ⟨s0,21,none⟩ (.string ⟨#[]⟩)).setCell ⟨s0,8,none⟩ (.int .i64 2)) s0 jb cb B vj J nx vc lx { S with ph:=2,st:=st,hs:=hd,sb:=eS }:=by
 obtain ⟨E,va,vk,wa,wk,S0,hq,hh⟩:=h
 have K:=((((Kp.refl w.heap.size (Mu s0 jb cb vj vc) w).setCell ⟨s0,19,none⟩ (.inl E.ms) (.int .i64 st)).setCell ⟨s0,20,none⟩ (.inl E.ms) (.slice ca hd.length cc)).setCell ⟨s0,21,none⟩ (.inl E.ms) (.string ⟨#[]⟩)).setCell ⟨s0,8,none⟩ (.inl E.ms) (.int .i64 2)
 exact ⟨(((E.set 19 _).set 20 _).set 21 _).set 8 _,va,vk,ca,cc,(((S0.set 19 (.int .i64 st)).set 20 (.slice ca hd.length cc)).set 21 (.string ⟨#[]⟩)).set 8 (.int .i64 2),hq.same K lr,hn.same K lr⟩
theorem RedA.head [Prot]{w w0:World}{s0 jb cb B:Nat}{vj:Value}{J:List Ck}{nx:Int}{vc:Value}{S:FS}{C:List En}{V:Nat}{now:Int}{vc1:Value}{lx1:List Ee}(h:RedA w0 s0 jb cb B vj J nx vc S C V now vc1 lx1 w)(hV:s0≠V)(st:Int)(hd:List Hd)(ca:Option Addr)(cc:Nat)(hn:Hs (Mu s0 jb cb vj vc1) w (.slice ca hd.length cc) hd):
 RedA w0 s0 jb cb B vj J nx vc { S with ph:=2,st:=st,hs:=hd,sb:=eS } C V now vc1 lx1 ((((w.setCell ⟨s0,19,none⟩ (.int .i64 st)).setCell ⟨s0,20,none⟩ (.slice ca hd.length cc)).setCell ⟨s0,21,none⟩ (.string ⟨#[]⟩)).setCell ⟨s0,8,none⟩ (.int .i64 2)):=
 ⟨h.f.head st hd ca cc hn,h.c,(((h.k.setCell ⟨s0,19,none⟩ (.inl (.inl rfl)) _).setCell ⟨s0,20,none⟩ (.inl (.inl rfl)) _).setCell ⟨s0,21,none⟩ (.inl (.inl rfl)) _).setCell ⟨s0,8,none⟩ (.inl (.inl rfl)) _,h.m,(((h.v.far ⟨s0,19,none⟩ _ hV).far ⟨s0,20,none⟩ _ hV).far ⟨s0,21,none⟩ _ hV).far ⟨s0,8,none⟩ _ hV⟩
theorem new_hs [Prot]{w w':World}{s0 jb cb B:Nat}{vj:Value}{J:List Ck}{nx:Int}{vc:Value}{lx:List Ee}(E:EnvIn w s0 jb cb B vj vc J nx lx){hd:List Hd}{ca:Option Addr}{n cc:Nat}(hs:SlK hdC 2 w' (.slice ca n cc) hd)(hn:∀ b off n' k,Value.slice ca n cc = .slice (some ⟨b,off,none⟩) n' k->w.heap.size<=b):Hs (Mu s0 jb cb vj vc) w' (.slice ca n cc) hd:=
 ⟨hs,FarM.newP hn E.mlt E.px⟩
theorem take_is [Prot]{w:World}{s0 jb cb B:Nat}{vj:Value}{J:List Ck}{nx:Int}{vc:Value}{lx:List Ee}{S:FS}{n m:Nat}(F:FIn w s0 jb cb B vj J nx vc lx S)(hS:SOk S)(hC:COk n m (lx.map (·.2)))(hn:n<=900)(hm:m<=800)
 (st:Int) (u:Value) (hd:List Hd) (hu:SlK hdC 2 w u hd) (hs0:FarM (fun b=>b=s0) hd u) (hh:HOk m hd) (net:Bool) (hfm:net=true->FarM (Px (Mu s0 jb cb vj vc)) hd u) (now:Int) (snd:FS->List En->Out)
 (hsnd:∀ (S2:FS) (w':World) (vc2:Value) (lx2:List Ee),SOk S2->S2.ho=S.ho+1->COk (n+1) m (lx2.map (·.2))->FIn w' s0 jb cb B vj J nx vc2 lx2 S2->Calls Tryz.prog 116 #[.pointer (some ⟨s0,0,none⟩),envA jb cb now] w' (StepQ w' s0 jb cb B vj J nx vc2 (snd S2 (lx2.map (·.2)))))
 (o:Out) (ho:takeF snd net now st hd S (lx.map (·.2))=o) :
 Calls Tryz.prog 78 #[.pointer (some ⟨s0,0,none⟩),.int .i64 st,u,envA jb cb now,.bool net] w (StepQ w s0 jb cb B vj J nx vc o):=by
 have hal:=(Below.refl _ w).alloc lr (.cells (envL jb cb now).toArray 83)
 have V1:=AtL.new w (envL jb cb now) 83
 have F1:=F.below hal
 have hzd:=hh.hd (by omega)
 have hu1:=hu.below hal lr
 have hV1:¬ Mu s0 jb cb vj vc w.heap.size:=fun e=>by have:=F.env.mlt _ e;omega
 have hsV:s0≠w.heap.size:=by have:=F.env.ls;omega
 have A1:RedA w s0 jb cb B vj J nx vc S (lx.map (·.2)) w.heap.size now vc lx (w.alloc (.cells (envL jb cb now).toArray 83)):=⟨F1,rfl,Kp.of_below hal lr,fun _ _ e=>e,V1⟩
 obtain ⟨ua,uk,rfl,_⟩:=hu.shape
 obtain ⟨Vl,hVl⟩:∃ Vl,valL hd loN.data.toList=Vl:=⟨_,rfl⟩
 obtain ⟨Bm,hBm⟩:∃ Bm,(hdrL hd loN.data.toList).isSome=Bm:=⟨_,rfl⟩
 have CH:=Lib.hid (fun (w':World) hv=>hdr_at hd (.slice ua hd.length uk) ⟨#[76,111,99,97,116,105,111,110]⟩ w' hv hzd (by decide) Vl Bm hVl hBm)
 have CC:=Lib.hid (fun (w':World)=>Tryz.slices_Contains_int w'.heap.size 0 5 5 [301,302,303,307,308] st (w'.alloc (.cells (([301,302,303,307,308]:List Int).map (Value.int .i64)).toArray 3)) lr (by decide) (fun j hj=>by rw [Nat.zero_add];exact (AtL.new w' (([301,302,303,307,308]:List Int).map (Value.int .i64)) 3).c j (by rw [List.getElem?_map,List.getElem?_eq_getElem hj];simp [List.getD_eq_getElem?_getD,List.getElem?_eq_getElem hj])))
 unfold takeF at ho
 rw [hBm,hVl] at ho
 obtain ⟨mv,hmv⟩:∃ mv,movB st=mv:=⟨_,rfl⟩
 rw [hmv] at ho
 have hmc:(([301,302,303,307,308]:List Int).take 5).contains st=mv:=(mov_has st).trans hmv
 rw [hmc] at CC
 have hloc:Vl.size<=300:=by rw [<-hVl];exact hh.loc
 have CR:=Lib.hid (fun (w':World) (hb:Below w.heap.size w w') (o':Out) ho'=>redirect_is (F.below hb) hS hC hn hm st (.slice ua hd.length uk) hd (hu.below hb lr) hh Vl hloc net hfm now snd hsnd o' ho')
 have CF:=Lib.hid (fun (w':World) (vc':Value) (lx':List Ee) (S':FS) (F':FIn w' s0 jb cb B vj J nx vc' lx' S') (e:Int)=>fail_is F' e)
 have CFg:=Lib.hid (fun (w':World) (F':FIn w' s0 jb cb B vj J nx vc lx S)=>(show Calls Tryz.prog 126 #[.pointer (some ⟨s0,0,none⟩)] w' fun x w''=>x = .returned (.bool (fgB S))/\Below w'.heap.size w' w'' by
  obtain ⟨va,vk,wa,wk,S',_,_⟩:=F'.st
  exact fgn_is F'.env.mx S' hS.u4 _ rfl))
 have CRd:=Lib.hid (fun (w':World) (H:Bool) (R:Bool) (hR:rdF S hd=R) (F':FIn w' s0 jb cb B vj J nx vc lx { S with hi:=H }) (hu':SlK hdC 2 w' (.slice ua hd.length uk) hd)=>(show Calls Tryz.prog 129 #[.pointer (some ⟨s0,0,none⟩),.slice ua hd.length uk] w' fun e w''=>e = .returned (.bool R)/\Below w'.heap.size w' w'' by
  obtain ⟨va,vk,wa,wk,S',_,_⟩:=F'.st
  exact rdb_is { S with hi:=H } s0 va vk _ w' F'.env.mx S' hS.u4 _ hd hu' hzd R hR))
 have CCl:=Lib.hid (fun (w':World) (hv:SlK hdC 2 w' (.slice ua hd.length uk) hd)=>clo_is hd (.slice ua hd.length uk) w' hv hzd.1)
 obtain ⟨L,hL⟩:∃ L,woL hd [scN]=L:=⟨_,rfl⟩
 obtain ⟨T,hT⟩:∃ T,bs (formatL S.u)=T:=⟨_,rfl⟩
 have CWo:=Lib.hid (fun (w':World) (hv:SlK hdC 2 w' (.slice ua hd.length uk) hd)=>(show Calls Tryz.prog 125 #[.slice ua hd.length uk,.slice (some ⟨w'.heap.size,0,none⟩) 1 1] (w'.alloc (.cells [.string scN].toArray 9)).drew (HdsQ (w'.alloc (.cells [.string scN].toArray 9)).drew L) from
  without_is hd (.slice ua hd.length uk) [scN] w'.heap.size _ ((hv.below ((Below.refl _ w').alloc lr _) lr).below (Below.refl _ _).drew lr) hzd (by decide) (by intro n hn;obtain rfl:=List.mem_singleton.1 hn;decide) (AtL.new w' [.string scN] 9).lt (fun i hi=>(AtL.new w' [.string scN] 9).drew.c i (by
   match i,hi with
   | 0,_=>rfl)) L hL))
 have CFo:=Lib.hid (fun (w':World)=>format_is4 S.a S.b S.c S.d S.e S.f T w' (by have:=hS.u4.a;omega) (by have:=hS.u4.b;omega) (by have:=hS.u4.c;omega) (by have:=hS.u4.d;omega) (by have:=hS.u4.e;omega) (by have:=hS.u4.f;omega) (by rw [<-hT];rfl))
 have HO:=Lib.hid ho
 have HU:Hid (Hq (fun b=>b=s0) w (.slice ua hd.length uk) hd):=Lib.hid ⟨hu,hs0⟩
 have HU1:=Lib.hid hu1
 have HLT:=Lib.hid (And.intro hL hT)
 clear ho hu hu1 hs0 hfm hC hh hzd hsnd hS hL hT F hVl hBm hmc
 obtain ⟨w1,hw1⟩:∃ w1:World,w.alloc (.cells (envL jb cb now).toArray 83)=w1:=⟨_,rfl⟩
 obtain ⟨V,hV⟩:∃ V,w.heap.size=V:=⟨_,rfl⟩
 rw [hw1] at A1 F1 V1 HU1 hal
 rw [hV] at A1 V1 hV1 hsV
 have HAL:=Lib.hid hal
 clear F1 hal
 by_cases hmm:Bm=true/\mv=true
 ·obtain ⟨rfl,rfl⟩:=hmm
  have ho:=HO.out
  rw [if_pos (by rfl)] at ho
  have HR:=Lib.hid ho
  clear ho
  go_enter Tryz.func78,Tryz.ntmps78
  have v_:=V1.o3;have f_:=V1.of3
  have vl1:=V1.lt
  go_wp2_with (first
   | (go_at_call 15;(refine (CH.out w1 HU1.out).mono ?_);rintro e2 w2 ⟨rfl,hb2⟩;clear v_ f_;have V2:=V1.next hb2)
   | (go_at_call 127;(refine (CC.out w2).mono ?_);rintro e3 w3 ⟨rfl,hw3⟩;have hb3:Below w2.heap.size w2 w3:=(by rw [hw3];exact (Below.refl _ _).alloc lr _);clear hw3;have V3:=V2.next hb3;have v_:=V3.o3;have f_:=V3.of3;have vl3:=V3.lt;have HB3:=Lib.hid ((HAL.out.trans (hb2.mono HAL.out.size)).trans (hb3.mono (Nat.le_trans HAL.out.size hb2.size))))
   | (go_at_call 128;(with_reducible refine (CR.out w3 HB3.out o HR.out).mono ?_);rintro e4 w4 hq4;have HQ:=Lib.hid (hq4.below HB3.out);obtain ⟨oa,on,oc,rfl⟩:=stepq_shape hq4)
   | fail)
  go_ret
  exact HQ.out
 ·have hoH:headO st hd S (lx.map (·.2))=o:=by
   have:=HO.out
   rw [if_neg (by simpa using hmm)] at this
   exact this
  obtain ⟨H,hH⟩:∃ H,(decide (S.mo=4) && fgB S)=H:=⟨_,rfl⟩
  obtain ⟨R,hR⟩:∃ R,rdF S hd=R:=⟨_,rfl⟩
  have CRd2:=Lib.hid (fun (w':World)=>CRd.out w' H R hR)
  unfold headO at hoH
  rw [hR,hH,HLT.out.1,HLT.out.2] at hoH
  have HO2:=Lib.hid hoH
  obtain ⟨FG,hFG⟩:∃ FG,fgB S=FG:=⟨_,rfl⟩
  have CFg2:=Lib.hid (fun (w':World) F'=>(show Calls Tryz.prog 126 #[.pointer (some ⟨s0,0,none⟩)] w' fun x w''=>x = .returned (.bool FG)/\Below w'.heap.size w' w'' by rw [<-hFG];exact CFg.out w' F'))
  rw [hFG] at hH
  clear hoH HO CRd CFg CR hR hFG
  have hm4:((S.mo == 4)=true/\H=FG)\/((S.mo == 4)=false/\false=H):=by
   by_cases h4:S.mo=4
   ·exact .inl ⟨by rw [h4];rfl,by rw [<-hH,decide_eq_true h4];rfl⟩
   ·exact .inr ⟨beq_eq_false_iff_ne.2 h4,by rw [<-hH,decide_eq_false h4];rfl⟩
  clear hH
  rcases hm4 with ⟨hm4,rfl⟩ | ⟨hm4,hF⟩ <;> cases Bm <;> cases mv
  all_goals first
   | exact absurd ⟨rfl,rfl⟩ hmm
   | skip
  all_goals
   clear hmm
   try (have HF0:=Lib.hid hF;clear hF)
   go_enter Tryz.func78,Tryz.ntmps78
   go_upto_region 5 with (first
    | (go_at_call 15;(refine (CH.out w1 HU1.out).mono ?_);rintro e2 wq ⟨rfl,hb2⟩;have HA2:=Lib.hid (A1.below hb2);have HB2:=Lib.hid (HAL.out.trans (hb2.mono HAL.out.size));obtain ⟨vh2,wh2,S2,_,_⟩:=HA2.out.f.cells;have z_:=S2.o23;have y_:=S2.of23;have zl2:=S2.lt;clear S2)
    | (go_at_call 127;(refine (CC.out wq).mono ?_);rintro e3 w3 ⟨rfl,hw3⟩;have hb3:Below wq.heap.size wq w3:=(by rw [hw3];exact (Below.refl _ _).alloc lr _);clear hw3;have HA3:=Lib.hid (HA2.out.below hb3);have HB3:=Lib.hid (HB2.out.trans (hb3.mono HB2.out.size));clear z_ y_;clear HA2 HB2 zl2 hb2 hb3;obtain ⟨wq,hwq⟩:∃ wq':World,wq'=w3:=⟨w3,rfl⟩;subst hwq;have HA2:=HA3;have HB2:=HB3;clear HA3 HB3;obtain ⟨vh2,wh2,S2,_,_⟩:=HA2.out.f.cells;have z_:=S2.o23;have y_:=S2.of23;have zl2:=S2.lt;clear S2)
    | (go_at_call 126;(refine (CFg2.out wq HA2.out.f).mono ?_);rintro e4 w4 ⟨rfl,hb4⟩;have HA4:=Lib.hid (HA2.out.below hb4);have HB4:=Lib.hid (HB2.out.trans (hb4.mono HB2.out.size));clear z_ y_;clear HA2 HB2 zl2 hb4;obtain ⟨wq,hwq⟩:∃ wq':World,wq'=w4:=⟨w4,rfl⟩;subst hwq;have HA2:=HA4;have HB2:=HB4;clear HA4 HB4;obtain ⟨vh2,wh2,S2,_,_⟩:=HA2.out.f.cells;have z_:=S2.o23;have y_:=S2.of23;have zl2:=S2.lt;clear S2)
    | fail)
   obtain ⟨w5,hw5⟩:∃ w5:World,wq.setCell ⟨s0,18,none⟩ (.bool H)=w5:=⟨_,rfl⟩
   have A5:RedA w s0 jb cb B vj J nx vc { S with hi:=H } (lx.map (·.2)) V now vc lx w5:=by rw [<-hw5];exact HA2.out.set hsV 18 (.bool H) (fun _ _=>rfl) rfl rfl
   first
    | rw [hw5]
    | rw [show wq.setCell ⟨s0,18,none⟩ (.bool false)=w5 by rw [<-hw5,<-HF0.out]]
    | fail
   clear z_ y_
   have HU5:Hid (Hq (fun b=>b=s0) w5 (.slice ua hd.length uk) hd):=Lib.hid (HU.out.same (by rw [<-hw5];exact (Kp.of_below (M:=fun b=>b=s0) HB2.out lr).setCell ⟨s0,18,none⟩ (.inl rfl) _) lr)
   clear hw5 zl2 HA2 HB2
   have HA5:=Lib.hid A5
   cases R with
   | false=>
     clear A5
     go_wp2_with (first
      | (go_at_call 129;(refine (CRd2.out w5 HA5.out.f HU5.out.1).mono ?_);rintro e6 w6 ⟨rfl,hb6⟩;have HA6:=Lib.hid (HA5.out.below hb6))
      | (go_at_call 76;(refine (CF.out _ _ _ _ HA6.out.f _).mono ?_);rintro e9 w9 hq9;have HQ:=Lib.hid (HA6.out.fin hq9);obtain ⟨oa,on,oc,rfl⟩:=stepq_shape hq9)
      | fail)
     go_ret
     have hq:=HQ.out
     have e:failO { S with hi:=H } (lx.map (·.2)) 15=o:=(if_pos trivial).symm.trans HO2.out
     rw [e] at hq
     exact hq
   | true=>
     have ho2:(⟨{ S with ph:=2,hi:=H,st:=st,hs:=hd,sb:=eS },lx.map (·.2),[if H then ⟨2,eS,eS,[],eS,0,0⟩ else ⟨2,eS,T,L,eS,st,0⟩]⟩:Out)=o:=(if_neg (by decide)).symm.trans HO2.out
     have HO3:=Lib.hid ho2
     clear ho2 HO2 A5
     go_upto_region 9 with (first
      | (go_at_call 129;(refine (CRd2.out w5 HA5.out.f HU5.out.1).mono ?_);rintro e6 w6 ⟨rfl,hb6⟩;have HA6:=Lib.hid (HA5.out.below hb6);have HU6:=Lib.hid (HU5.out.1.below hb6 lr))
      | (go_at_call 69;(refine (CCl.out w6 HU6.out).mono ?_);rintro e7 w7 hq7;obtain ⟨ca,cc,rfl,hs7,hb7,hn7⟩:=cloq_open hq7;have HA7:=Lib.hid (HA6.out.below hb7);have HN7:=Lib.hid (new_hs HA6.out.f.env hs7 hn7);clear hq7 hs7 hn7;obtain ⟨vh2,wh2,S2,_,_⟩:=HA7.out.f.cells;have z_:=S2.o23;have y_:=S2.of23;have zl2:=S2.lt;clear S2)
      | fail)
     obtain ⟨w8,hw8⟩:∃ w8:World,(((w7.setCell ⟨s0,19,none⟩ (.int .i64 st)).setCell ⟨s0,20,none⟩ (.slice ca hd.length cc)).setCell ⟨s0,21,none⟩ (.string ⟨#[]⟩)).setCell ⟨s0,8,none⟩ (.int .i64 2)=w8:=⟨_,rfl⟩
     have A8:RedA w s0 jb cb B vj J nx vc { { S with hi:=H } with ph:=2,st:=st,hs:=hd,sb:=eS } (lx.map (·.2)) V now vc lx w8:=by rw [<-hw8];exact HA7.out.head hsV st hd ca cc HN7.out
     have HU8:Hid (SlK hdC 2 w8 (.slice ua hd.length uk) hd):=Lib.hid (by
      rw [<-hw8]
      exact (((HU5.out.below hb6).below hb7).same (((((Kp.refl w7.heap.size (fun b=>b=s0) w7).setCell ⟨s0,19,none⟩ (.inl rfl) _).setCell ⟨s0,20,none⟩ (.inl rfl) _).setCell ⟨s0,21,none⟩ (.inl rfl) _).setCell ⟨s0,8,none⟩ (.inl rfl) _) lr).1)
     rw [hw8]
     clear z_ y_
     clear hw8 zl2 hb6 hb7 HA5 HA6 HA7 HU5 HU6
     obtain ⟨vh2,wh2,S8,_,_⟩:=A8.f.cells
     have S8:AtL w8 s0 (fsC S.tk S.me S.ur S.og S.mo vh2 S.qb S.ck 2 S.a S.b S.c S.d S.e S.f S.sm S.ho S.ch H st wh2 eS S.er):=S8
     have z_:=S8.o23;have y_:=S8.of23
     have zl2:=S8.lt
     have HA8:=Lib.hid A8
     clear A8
     cases H with
     | true=>
       go_wp2_with fail
       go_ret
       rw [<-HO3.out]
       exact StepQ.one (w:=w) HA8.out.f.env HA8.out.f.st HA8.out.c HA8.out.k HA8.out.m (.slice none 0 0) ⟨2,eS,eS,[],eS,0,0⟩ (by first | rfl | simp) (Hs.nil _ _) _ rfl
     | false=>
       have HWO:=Lib.hid (CWo.out w8 HU8.out)
       have hal8:Below w8.heap.size w8 (w8.alloc (.cells [.string scN].toArray 9)).drew:=((Below.refl _ w8).alloc lr _).drew
       go_upto_region 11 with fail
       go_region_held3 (fun w'=>w'.cell? ⟨s0,3,none⟩=some (.string S.og)/\w'.cell? ⟨s0,9,none⟩=some (.string S.a)/\w'.cell? ⟨s0,10,none⟩=some (.string S.b)/\w'.cell? ⟨s0,11,none⟩=some (.string S.c)/\w'.cell? ⟨s0,12,none⟩=some (.string S.d)/\w'.cell? ⟨s0,13,none⟩=some (.string S.e)/\w'.cell? ⟨s0,14,none⟩=some (.string S.f))
        (first | exact s7_mk S8 (Below.refl _ w8).drew | exact s7_mk S8 hal8 | exact s7_mk S8 h810 | exact s7_mk S8 h811 | go_keep)
        (first
          | (go_at_call 125;(refine HWO.out.mono ?_);rintro e10 w10 hq10;obtain ⟨v10,rfl,o10,_,hb10⟩:=hq10;obtain ⟨oa,oc,rfl,_⟩:=own_reads o10;have h810:Below w8.heap.size w8 w10:=hal8.trans (hb10.mono hal8.size))
          | (go_at_call 104;(refine (CFo.out _).mono ?_);rintro e11 w11 ⟨rfl,hb11⟩;have h811:Below w8.heap.size w8 w11:=h810.trans (hb11.mono h810.size);have HO11:=Lib.hid (own_below o10 hb11 lr))
          | fail)
       go_wp2_with fail
       go_ret
       rw [<-HO3.out]
       exact StepQ.one (w:=w) (HA8.out.below h811).f.env (HA8.out.below h811).f.st HA8.out.c (HA8.out.below h811).k HA8.out.m (.slice oa L.length oc) ⟨2,eS,T,L,eS,st,0⟩ (by first | rfl | simp) (new_hs HA8.out.f.env (SlK.of_own hdC_len HO11.out) (fun b off n k e=>Nat.le_trans hal8.size (own_nw HO11.out b off n k e))) _ rfl
end Go.Proofs.YtjdhaacmlpegoaaGreatDoor
