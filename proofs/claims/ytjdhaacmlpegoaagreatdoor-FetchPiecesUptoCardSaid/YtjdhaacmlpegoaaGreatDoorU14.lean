/- Part 14 of what the proof needs: HS2 HT HU JN JO. -/
import Derived.Test.YtjdhaacmlpegoaaGreatDoorU13
set_option maxRecDepth 20000
set_option maxHeartbeats 16000000
set_option linter.unusedSimpArgs false
set_option linter.unusedVariables false
namespace Go.Proofs.YtjdhaacmlpegoaaGreatDoor
open Go.RowKit
theorem ask_use (jb B:Nat)(v:Value)(l:List Ee)(w:World)(hM:MaxAt w)(hJ:CaIn w jb B v l)(hz:∀ x∈l,HdSz x.2.va/\HdSz x.2.hd)(hl:l.length<=1000)(url:ByteArray)(rq:List Hd)(vr:Value)(hq:SlK hdC 2 w vr rq)(hzq:HdSz rq)(now:Int)(i:Nat)(hi:i<l.length)(x:Ee)(hx:l[i]=x)(hR:LastAt (fun x=>ansB x.2 url rq) l (i:Int))(d2 d3:Bool)(d4:Int)(hD:dirL rq=⟨false,d2,d3,d4⟩)(hu:useB ⟨false,d2,d3,d4⟩ x.2 now=true):
 Calls Tryz.prog 169 #[.pointer (some ⟨jb,0,none⟩),.string url,vr,.int .i64 now] w (AskQ w jb B v 2 x.2 [] (l.eraseIdx i ++ [x])):=by
 obtain ⟨F,hF⟩:=Ka (freshE x.2 now)
 obtain ⟨A,hA⟩:=Ka (ageE x.2.ti now)
 have hu2:(F && (!d2 && (decide (d4<0) || decide (A<=1000 * d4))))=true:=by rw [<-hu];unfold useB;rw [hF,hA]
 clear hu
 cases F with
 | false=>simp at hu2
 | true=>
   cases d2 with
   | true=>simp at hu2
   | false=>
     by_cases h0:d4<0
     ·have h4:decide (d4<0)=true:=Kx h0
      clear hu2 h0
      have hjl:=hJ.at_.lt
      obtain ⟨a,cap,rfl,hcap,hcm,ha⟩:=own_reads hJ.own
      rcases ha with ⟨_,h0⟩ | ⟨g,rfl,hBg,hgw,hcell⟩
      ·omega
      have hmx:x∈l:=by rw [<-hx];exact Ky hi
      have hrdx:=hJ.rd x hmx
      have hzx:=hz x hmx
      have hmem:∀ y∈l.eraseIdx i ++ [x],y∈l:=by rw [<-hx];exact erase_mem l i hi
      have cc:∀ j u,(eeC x)[j]? = some u->w.cell? ⟨g,i * 6+j,none⟩=some u:=fun j u hu=>hcell _ _ (cellsK_get eelen l i hi j u (by rw [hx];exact hu))
      have R0:=AtL.new w pl0 178
      have hB0:Below w.heap.size w (w.alloc (.cells pl0.toArray 178)):=(Kc w).alloc lr _
      have J0:=hJ.below hB0 lr
      have q0:=hq.below hB0 lr
      have CF:=Kb (find_is jb _ l _ J0.at_ J0.reads (fun x hx=>⟨J0.rd x hx,(hz x hx).1⟩) hl url rq vr q0 hzq _ hR)
      have CD:=Kb (fun (w:World) hM hv=>(dir_is rq vr w hM hv hzq ⟨false,false,d3,d4⟩ hD).mono fun e w' (h:e=Ending.returned (dirA ⟨false,false,d3,d4⟩)/\Below w.heap.size w w')=>(show e=Ending.returned (.agg #[.bool false,.bool false,.bool d3,.int .i64 d4])/\Below w.heap.size w w' from h))
      have CM:=Kb (fun (w:World) (hJ:CaIn w jb B (.slice (some ⟨g,0,none⟩) l.length cap) l)=>move_is jb B _ l w hJ i hi hl x hx)
      have CC:=Kb (fun (w:World) (hr:Rd w x.1 x.2)=>cop_is x w hr hzx.1.1 hzx.2.1)
      have CFr:=Kb (fun (w:World) (r:Er) hM (hr:Rd w r x.2)=>fresh_is r x.2 now w hM hr hzx.2 _ hF)
      have CAg:=Kb (fun (w:World) (r:Er) (h:r.ti=x.2.ti)=>eage_is r now w A (by rw [h];exact hA))
      have hdb:=dirL_bd rq
      rw [hD] at hdb
      have hda : -1<=d4:=hdb.1
      have hdc:d4<1000000000:=hdb.2
      have hab:=ageE_bd x.2.ti now
      rw [hA] at hab
      have ha0:=hab.1
      have ha1:=hab.2
      have HM:=Kb hM
      have HQ:=Kb hq
      have HJ:=Kb hJ
      have HI:=Kb hi
      have HX:=Kb hx
      have HRD:=Kb hrdx
      have HMEM:=Kb hmem
      have hshp:=hrdx.shp
      obtain ⟨sa,sc,rfl,_⟩:=hq.shape
      have hii:(i:Int)<(l.length:Int):=by omega
      have hi0:(0:Int)<=(i:Int):=by omega
      have hgj:g≠jb:=fun e=>hJ.ne (by rw [e];rfl)
      obtain ⟨⟨u,vv,st,hh,bo,ti⟩,xe⟩:=x
      obtain ⟨⟨a1,n1,k1,e1⟩,a2,n2,k2,e2⟩:=hshp
      have e1:vv = .slice a1 n1 k1:=e1
      have e2:hh = .slice a2 n2 k2:=e2
      subst e1 e2
      have HCC:=Kb cc
      clear cc hcell hx hD hR hq hJ hz hM hrdx hmem hmx hF hA hab hdb hzx
      go_enter Tryz.func169,Tryz.ntmps169
      go_wp2_with (first
       | (with_reducible refine CF.out.mono ?_;rintro e w1 ⟨rfl,hb1⟩;have hB1:=Kd hB0 hb1)
       | (with_reducible refine (CD.out _ (HM.out.below hB1 lr) (HQ.out.below hB1 lr)).mono ?_;rintro e w2 ⟨rfl,hb2⟩;have hB2:=Kd hB1 hb2;have hB3:=hB2.alloc hB2.size (.cells #[.bool false,.bool false,.bool d3,.int .i64 d4] 228);have R3:=((R0.next hb1).next hb2).alloc (.cells #[.bool false,.bool false,.bool d3,.int .i64 d4] 228);have D3:=AtL.new w2 [.bool false,.bool false,.bool d3,.int .i64 d4] 228;have J3:=HJ.out.below hB3 lr;have j0:=J3.at_.c 0 rfl;have jl3:=J3.at_.lt;have c0:=(brl hB3 _ _ hgw).trans (HCC.out 0 _ rfl);have c1:=(brl hB3 _ _ hgw).trans (HCC.out 1 _ rfl);have c2:=(brl hB3 _ _ hgw).trans (HCC.out 2 _ rfl);have c3:=(brl hB3 _ _ hgw).trans (HCC.out 3 _ rfl);have c4:=(brl hB3 _ _ hgw).trans (HCC.out 4 _ rfl);have c5:=(brl hB3 _ _ hgw).trans (HCC.out 5 _ rfl);simp only [Ku] at c0)
       | (go_at_call 120;refine (CC.out _ (HRD.out.below hB3 lr)).mono ?_;rintro e w4 hq4;obtain ⟨⟨⟨pu,pv,ps,ph,pb,pt⟩,pe⟩,rfl,hxe,hrd4,hb4,hnv,hnh⟩:=hq4;obtain ⟨⟨a3,n3,k3,e3⟩,a4,n4,k4,e4⟩:=hrd4.shp;have e3:pv = .slice a3 n3 k3:=e3;have e4:ph = .slice a4 n4 k4:=e4;subst e3 e4;have hxe:pe=xe:=hxe;subst hxe;have hrd4:Rd w4 ⟨pu,.slice a3 n3 k3,ps,.slice a4 n4 k4,pb,pt⟩ pe:=hrd4;have hnw:NewE (⟨pu,.slice a3 n3 k3,ps,.slice a4 n4 k4,pb,pt⟩,pe) (w2.heap.size+1):=⟨fun b off n k e=>(by have:=hnv b off n k e;simp at this;omega),fun b off n k e=>(by have:=hnh b off n k e;simp at this;omega)⟩;clear hnv hnh j0 c0 c1 c2 c3 c4 c5))
      obtain ⟨W5,hW5⟩:∃ W5:World,w4.alloc (.cells (eeC (⟨pu,.slice a3 n3 k3,ps,.slice a4 n4 k4,pb,pt⟩,pe)).toArray 90)=W5:=⟨_,rfl⟩
      have E5:=AtL.new w4 (eeC (⟨pu,.slice a3 n3 k3,ps,.slice a4 n4 k4,pb,pt⟩,pe)) 90
      have R5:=(R3.next hb4).alloc (.cells (eeC (⟨pu,.slice a3 n3 k3,ps,.slice a4 n4 k4,pb,pt⟩,pe)).toArray 90)
      have D5:=(D3.next hb4).alloc (.cells (eeC (⟨pu,.slice a3 n3 k3,ps,.slice a4 n4 k4,pb,pt⟩,pe)).toArray 90)
      have hB4:=Kd hB3 hb4
      have hB5:=hB4.alloc hB4.size (.cells (eeC (⟨pu,.slice a3 n3 k3,ps,.slice a4 n4 k4,pb,pt⟩,pe)).toArray 90)
      have X5:=hrd4.below ((Kc w4).alloc lr (.cells (eeC (⟨pu,.slice a3 n3 k3,ps,.slice a4 n4 k4,pb,pt⟩,pe)).toArray 90)) lr
      rw [hW5] at E5 R5 D5 hB5 X5
      obtain ⟨Rb,hRb⟩:=Ka w.heap.size
      obtain ⟨Db,hDb⟩:=Ka w2.heap.size
      obtain ⟨Eb,hEb⟩:=Ka w4.heap.size
      have hRD:Rb<Db:=by have:=(R0.next hb1).next hb2;have:=this.lt;omega
      have hDE:Db<Eb:=by have:=(D3.next hb4).lt;omega
      rw [hEb] at E5
      rw [hDb] at D5 hnw
      rw [hRb] at R5
      have hgR:g<Rb:=by omega
      have hjR:jb<Rb:=by omega
      rw [hW5,hRb,hDb,hEb]
      have HRb:=Kb hRb
      clear hW5 hRb hDb hEb R3 D3 J3 hB4 hrd4 hb4 hB3 hB2 hB1 hb1 hb2 R0 hB0 J0 q0
      have H5:=Kb hB5
      have hz5:=hB5.size
      have X5:=Kb X5
      clear hB5
      have z_:=E5.o6
      have y_:=D5.o4
      have el5:=E5.lt
      have dl5:=D5.lt
      have rl5:=R5.lt
      refine wp_region_held_drew (S:=(fun w'=>w'.cell? ⟨Eb,0,none⟩=some (.string pu)/\w'.cell? ⟨Eb,1,none⟩=some (.slice a3 n3 k3)/\w'.cell? ⟨Eb,2,none⟩=some (.int .i64 ps)/\w'.cell? ⟨Eb,3,none⟩=some (.slice a4 n4 k4)/\w'.cell? ⟨Eb,4,none⟩=some (.string pb)/\w'.cell? ⟨Eb,5,none⟩=some (.int .i64 pt)/\w'.cell? ⟨Db,1,none⟩=some (.bool false)/\w'.cell? ⟨Db,3,none⟩=some (.int .i64 d4))) (by kernel_rfl) ?_ (fun hHeld=>?_)
      ·exact ed_mk E5 D5 (Kc W5).drew
      refine tkH 0 ?_
      refine tkH 1 ?_
      refine wpAnyH_ready (rs:=[2]) (by kernel_rfl) (by simp) ?_
      refine AllReadyH.cons rfl (fun K hK=>?_) AllReadyH.nil
      go_simp
      go_wp2_with ((with_reducible refine (CFr.out _ ⟨pu,.slice a3 n3 k3,ps,.slice a4 n4 k4,pb,pt⟩ (HM.out.below (H5.out.trans ((Kc W5).drew.mono hz5)) lr) (X5.out.below (Kc W5).drew lr)).mono ?_);rintro e w6 ⟨rfl,hbb6⟩;have hb6:=(Kc W5).drew.trans hbb6)
      refine hK.out _ _ ?_ (fun hHeld2=>?_)
      ·exact ed_mk E5 D5 hb6
      clear hK K hHeld
      have hHeld:=hHeld2
      clear hHeld2
      refine tkH 3 ?_
      refine tkH 4 ?_
      refine tkH 5 ?_
      refine tkH 6 ?_
      refine tkH 7 ?_
      refine tkH 8 ?_
      refine tkH 9 ?_
      refine tkH 10 ?_
      refine tkH 11 ?_
      refine tkH 12 ?_
      refine skH 13 ?_
      refine skH 14 ?_
      refine skH 15 ?_
      refine skH 16 ?_
      refine skH 17 ?_
      refine skH 18 ?_
      refine skH 19 ?_
      refine tkH 20 ?_
      refine tkH 21 ?_
      refine wpAnyH_done (by kernel_rfl) ?_ _
      have hbL:=hb6
      have EL:=E5.next hbL
      have RL:=R5.next hbL
      have HBL:=H5.out.trans (hbL.mono hz5)
      have XL:=X5.out.below hbL lr
      have hzL:=HBL.size
      have elL:=EL.lt
      have rlL:=RL.lt
      clear z_ y_ hHeld
      have z_:=EL.o6
      go_wp2_with (go_at_call 123;refine (CM.out _ (HJ.out.below HBL lr)).mono ?_;rintro e w9 ⟨rfl,hto⟩;have R9:=RL.row hto.2 rlL (by omega) (own_ne (by omega) _ _);have E9:=EL.row hto.2 elL (by omega) (own_ne (by omega) _ _);clear z_;have z_:=E9.o6;have r_:=R9.o8;have g_:=R9.of8;have rl9:=R9.lt;have el9:=E9.lt)
      have X9:Rd w9 ⟨pu,.slice a3 n3 k3,ps,.slice a4 n4 k4,pb,pt⟩ pe:=XL.row (x:=(⟨pu,.slice a3 n3 k3,ps,.slice a4 n4 k4,pb,pt⟩,pe)) hto.2 lr (hnw.far (by omega) (own_ltN (by omega) _ _))
      exact bodyPost_ret (ret8_run Tryz.results169 Tryz.sizeOf178 Tryz.isAgg178 _ _ Rb _ _ _ _ _ _ _ _ rfl (R9.set8 rfl _ _ _ _ _ _ _ _)) rfl ⟨_,.slice none 0 0,rfl,rd_set8 (x:=(⟨pu,.slice a3 n3 k3,ps,.slice a4 n4 k4,pb,pt⟩,pe)) X9 (hnw.far (by omega) (fun b h=>by cases h)) _ _ _ _ _ _ _ _,slk0 _,cato_fin HJ.out HBL hto HMEM.out (Jl HRb.out) rlL _ _ _ _ _ _ _ _,hnw.mono (by have hrb:=HRb.out;omega),fun b off n k e=>(by cases e)⟩
     ·have h4:decide (d4<0)=false:=Kj h0
      have h5:decide (A<=1000 * d4)=true:=by simpa [h4] using hu2
      have h40:0<=d4:=by omega
      clear hu2 h0
      exact N1
theorem RowBut.lowB {w w':World}{jb B E s n:Nat}{v:Value}{xs:List Value}(h:RowBut w.heap.size jb v.ownBlock w w')(hown:w.ownsRow B E s v n xs)(hjB:B<=jb)(hBw:B<=w.heap.size):Below B w w':=
 ⟨h.os,h.tape,h.output,h.size,fun k hk=>h.block k (by omega) (by omega) (fun e=>by have:=own_base hown e;omega)⟩
theorem MaxAt.low {w w':World}{B:Nat}(h:MaxAt w)(hb:Below B w w')(hG:0<B):MaxAt w':=by obtain ⟨m,hm⟩:=h;exact ⟨m,(hb.cell (p:=⟨0,0,none⟩) hG).trans hm⟩
theorem put1_is (x:Ee)(url:ByteArray)(rq:List Hd)(vr:Value)(C D:Nat)(W:World)(hU:AtL W C [.string url])(hQ:AtL W D [vr])(hr:Rd W x.1 x.2)(hv:SlK hdC 2 W vr rq)(hz:HdSz rq)(hy:HdSz x.2.va):
 Calls Tryz.prog 191 #[eeA x,.pointer (some ⟨C,0,none⟩),.pointer (some ⟨D,0,none⟩)] W fun e W'=>e = .returned (.bool (ansB x.2 url rq))/\Below W.heap.size W W':=by
 obtain ⟨R,hR⟩:=Ka (ansB x.2 url rq);rw [hR];have hal:=(Kc W).alloc lr (.cells (eeC x).toArray 90);have A0:=AtL.new W (eeC x) 90;have CA:=Kb (ans_is x url rq vr _ (hr.below hal lr) (hv.below hal lr) hz hy R hR);have U1:=hU.next hal;have Q1:=hQ.next hal;obtain ⟨sa,sc,rfl,_⟩:=hv.shape;obtain ⟨⟨a1,n1,k1,e1⟩,a2,n2,k2,e2⟩:=hr.shp;obtain ⟨⟨u,vv,st,hh,bo,ti⟩,xe⟩:=x;have e1:vv = .slice a1 n1 k1:=e1;have e2:hh = .slice a2 n2 k2:=e2;subst e1 e2;have c0:=U1.c 0 rfl;have q0:=Q1.c 0 rfl;have cl:=U1.lt;have ql:=Q1.lt;have hcl:=hU.lt;have hql:=hQ.lt;have u0:=hU.c 0 rfl;have v0:=hQ.c 0 rfl;clear hR hv hr hz hy hU hQ U1 Q1;go_enter Tryz.func191,Tryz.ntmps191;go_wp2_with (with_reducible refine CA.out.mono ?_;rintro e w1 ⟨rfl,hb1⟩)
 go_ret;exact ⟨rfl,hal.trans (hb1.mono hal.size)⟩
abbrev keepL (l:List Ee)(url:ByteArray)(rq:List Hd):List Ee:=l.filter (fun x=>!ansB x.2 url rq)
theorem put_no (jb B:Nat)(v:Value)(l:List Ee)(w:World)(hM:MaxAt w)(hG:0<B)(hjB:B<=jb)(hJ:CaIn w jb B v l)(hz:∀ x∈l,HdSz x.2.va)(hl:l.length<=1000)(url:ByteArray)(rq hs:List Hd)(vr vh:Value)(hq:SlK hdC 2 w vr rq)(hh:SlK hdC 2 w vh hs)(hzq:HdSz rq)(hzh:HdSz hs)(hfq:FarV rq vr jb v.ownBlock)(hfh:FarV hs vh jb v.ownBlock)(st:Int)(body:ByteArray)(now:Int)(hS:storL st rq hs=false):
 Calls Tryz.prog 130 #[.pointer (some ⟨jb,0,none⟩),.string url,vr,.int .i64 st,vh,.string body,.int .i64 now] w fun e w'=>e = .returned (.bool false)/\CaTo w jb B v (keepL l url rq) w':=by
 have hjl:=hJ.at_.lt;have hB0:Below w.heap.size w ((w.alloc (.cells [.string url].toArray 9)).alloc (.cells [vr].toArray 28)):=((Kc w).alloc lr _).alloc (by simp) _;have U0:=(AtL.new w [.string url] 9).alloc (.cells [vr].toArray 28);have Q0:=AtL.new (w.alloc (.cells [.string url].toArray 9)) [vr] 28;rw [show (w.alloc (.cells [.string url].toArray 9)).heap.size=w.heap.size+1 by simp] at Q0;have J0:=hJ.below hB0 lr;have q0:=hq.below hB0 lr;have ho:=hown_lt hJ.own
 have CDel:=Kb (eedel (fun x=>ansB x.2 url rq) 191 #[.pointer (some ⟨w.heap.size,0,none⟩),.pointer (some ⟨w.heap.size+1,0,none⟩)] (enters_of Tryz.func191 (by kernel_rfl) rfl) l v _ B (fun x hx=>(J0.rd x hx).shp) J0.own
  (fun W d hd hr=>put1_is d url rq vr _ _ W (U0.row (hr jb) U0.lt (by omega) (fun e=>by have:=ho _ e;omega)) (Q0.row (hr jb) Q0.lt (by omega) (fun e=>by have:=ho _ e;omega)) ((J0.rd d hd).row (hr jb) lr (J0.far d hd)) (slk_row q0 (hr jb) lr hfq) hzq (hz d hd)) (by omega))
 have h0:=hh.below hB0 lr;have M0:=hM.below hB0 lr;have j0:=J0.at_.c 0 rfl;have CS:=Kb (fun w hM hv hw=>stor_is st rq hs vr vh w hM hv hw hzq hzh _ hS);have HJ:=Kb hJ;have HJ0:=Kb J0;have HQ0:=Kb q0;have HH0:=Kb h0;have HM0:=Kb M0;have HFQ:=Kb hfq;have HFH:=Kb hfh;obtain ⟨sa,sc,rfl,_⟩:=hq.shape;obtain ⟨sb,sd,rfl,_⟩:=hh.shape;obtain ⟨ta,tc,hve,_⟩:=hJ.reads.shape;subst hve;have hjne:jb≠jb+1:=by omega
 clear hq hh hM hJ hS J0 q0 h0 M0 hz hzq hfq hfh;go_enter Tryz.func130,Tryz.ntmps130
 go_wp2_with (first
  | (go_at_call 190; refine CDel.out.mono ?_; rintro e w1 hq1; obtain ⟨a1, c1, rfl, hown1, hob1, hr1⟩ := delq_open hq1; clear hq1; have hrj := hr1 jb; have RI := HJ0.out.row.less hown1 (fun y hy => (Zp.1 hy).1) hrj hob1; have J1 := HJ0.out.at_.row (hr1 (jb + 1)) HJ0.out.at_.lt (by omega) HJ0.out.ne; have j1 := J1.c 0 rfl; have f1 := J1.f 0 rfl; have jl1 := J1.lt; have RS := RI.store J1; have hb3 := (hrj.lowB HJ0.out.own hjB HJ0.out.le).setCell (p := ⟨jb, 0, none⟩) hjB (.slice a1 (keepL l url rq).length c1); have M3 := HM0.out.low hb3 hG; have q3 := slk_far (x := .slice a1 (keepL l url rq).length c1) (slk_row HQ0.out hrj lr HFQ.out) HFQ.out; have h3 := slk_far (x := .slice a1 (keepL l url rq).length c1) (slk_row HH0.out hrj lr HFH.out) HFH.out; have U3 := (U0.row hrj U0.lt (by omega) (fun e => by have := ho _ e; omega)).far ⟨jb, 0, none⟩ (.slice a1 (keepL l url rq).length c1) (by show jb ≠ w.heap.size; omega); have Q3 := (Q0.row hrj Q0.lt (by omega) (fun e => by have := ho _ e; omega)).far ⟨jb, 0, none⟩ (.slice a1 (keepL l url rq).length c1) (by show jb ≠ w.heap.size + 1; omega); have qc3 := Q3.c 0 rfl; have ql3 := Q3.lt; have hR3 : RowBut w.heap.size jb (Value.slice ta l.length tc).ownBlock w (w1.setCell ⟨jb, 0, none⟩ (.slice a1 (keepL l url rq).length c1)) := (((RowBut.refl w.heap.size jb (Value.slice ta l.length tc).ownBlock w).below hB0 lr).trans (hrj.mono hB0.size)).setCell ⟨jb, 0, none⟩ (Or.inl rfl) _; have hT3 : RowTo (.slice ta l.length tc) (.slice a1 (keepL l url rq).length c1) w.heap.size := fun g e => .inl (by rw [← hob1]; exact e); clear j0)
    | (with_reducible refine (CS.out _ M3 q3 h3).mono ?_;rintro e w4 ⟨rfl,hb4⟩)
  )
 go_ret;exact ⟨rfl,CaTo.below ⟨⟨_,RS,hT3⟩,hR3⟩ hb4⟩
def vstep (rq:List Hd)(va:List Hd)(w:List UInt8):List Hd:=if va.any (fun d=>d.1.data.toList == lowL w) then va else va ++ [(bs (lowL w),valL rq (lowL w))]
def varyE (rq hs:List Hd):List Hd:=(varyL hs).foldl (vstep rq) []
theorem put2_is (T:ByteArray)(d:Hd)(N:Nat)(W:World)(hA:AtL W N [.string T]):
 Calls Tryz.prog 195 #[hdA d,.pointer (some ⟨N,0,none⟩)] W fun e W'=>e = .returned (.bool (d.1.toList == T.toList))/\Below W.heap.size W W':=by obtain ⟨yn,yv⟩:=d;have a0:=hA.c 0 rfl;have al:=hA.lt;go_enter Tryz.func195,Tryz.ntmps195;go_wp2;go_ret;exact ⟨rfl,(Kc W).alloc lr _⟩
abbrev setE6 (W:World)(k:Nat)(a b c d e f:Value):World:=(((((W.setCell ⟨k,0,none⟩ a).setCell ⟨k,1,none⟩ b).setCell ⟨k,2,none⟩ c).setCell ⟨k,3,none⟩ d).setCell ⟨k,4,none⟩ e).setCell ⟨k,5,none⟩ f
theorem AtL.setE6 {W:World}{k:Nat}{vs:List Value}(hv:AtL W k vs)(hl:vs.length=6)(a b c d e f:Value):AtL (setE6 W k a b c d e f) k [a,b,c,d,e,f]:=by
 match vs,hl with
 | [_,_,_,_,_,_],_=>exact (((((hv.set 0 a).set 1 b).set 2 c).set 3 d).set 4 e).set 5 f
theorem below_setE6 {B k:Nat}{w W:World}(h:Below B w W)(hk:B<=k)(a b c d e f:Value):Below B w (setE6 W k a b c d e f):=
 (((((h.setCell (p:=⟨k,0,none⟩) hk a).setCell (p:=⟨k,1,none⟩) hk b).setCell (p:=⟨k,2,none⟩) hk c).setCell (p:=⟨k,3,none⟩) hk d).setCell (p:=⟨k,4,none⟩) hk e).setCell (p:=⟨k,5,none⟩) hk f
theorem slk_setE6 {hs:List Hd}{u:Value}{w:World}{k:Nat}(h:SlK hdC 2 w u hs)(hf:FarV hs u k none)(x0 x1 x2 x3 x4 x5:Value):SlK hdC 2 (setE6 w k x0 x1 x2 x3 x4 x5) u hs:=
 slk_row h ((((((( RowBut.refl w.heap.size k none w).setCell ⟨k,0,none⟩ (Or.inl rfl) x0).setCell ⟨k,1,none⟩ (Or.inl rfl) x1).setCell ⟨k,2,none⟩ (Or.inl rfl) x2).setCell ⟨k,3,none⟩ (Or.inl rfl) x3).setCell ⟨k,4,none⟩ (Or.inl rfl) x4).setCell ⟨k,5,none⟩ (Or.inl rfl) x5) lr hf
theorem c_setE6 {w:World}{k b o:Nat}{u:Value}(h:w.cell? ⟨b,o,none⟩=some u)(hk:k≠b)(x0 x1 x2 x3 x4 x5:Value):(setE6 w k x0 x1 x2 x3 x4 x5).cell? ⟨b,o,none⟩=some u:=by have c:=fun (w:World) (h:w.cell? ⟨b,o,none⟩=some u) (i:Nat) (x:Value)=>(World.cell?_setCell_far w ⟨k,i,none⟩ ⟨b,o,none⟩ x hk).trans h;exact c _ (c _ (c _ (c _ (c _ (c _ h 0 x0) 1 x1) 2 x2) 3 x3) 4 x4) 5 x5
theorem RowTo.grown {v v':Value}{jb:Nat}{w w4 w':World}(h:RowTo v v' w.heap.size)(hr:RowBut w.heap.size jb v.ownBlock w w4)(hg:w4.grownBy w' v'.ownBlock)(hn:w.heap.size<=w4.heap.size):RowBut w.heap.size jb v.ownBlock w w':=
 ⟨hg.os.trans hr.os,hg.tape.trans hr.tape,hg.output.trans hr.output,Kg hr.size hg.size,fun k hk h1 h2=>(hg.block k (by omega) (fun e=>by
  rcases h k e.symm with h3 | h3
  ·exact h2 h3
  ·omega)).trans (hr.block k hk h1 h2)⟩
def NewAt (w4:World)(url:ByteArray)(st:Int)(body:ByteArray)(now:Int)(hs:List Hd)(c:Value)(w5:World):Prop:=
 ∃ (E:Nat) (ha:Option Addr) (hc:Nat),.pointer (some ⟨E,0,none⟩)=c/\AtL w5 E [.string url,.slice none 0 0,.int .i64 st,.slice ha hs.length hc,.string body,.int .i64 now]/\SlK hdC 2 w5 (.slice ha hs.length hc) hs/\(∀ b off n k,Value.slice ha hs.length hc = .slice (some ⟨b,off,none⟩) n k->w4.heap.size<=b)/\FarV hs (.slice ha hs.length hc) E none/\w4.heap.size<=E/\Below w4.heap.size w4 w5
abbrev zE:List Value:=[.string ⟨#[]⟩,.slice none 0 0,.int .i64 0,.slice none 0 0,.string ⟨#[]⟩,.int .i64 0]
theorem newat_a {w4 w5:World}{url:ByteArray}{st:Int}{body:ByteArray}{now:Int}{hs:List Hd}{ha:Option Addr}{hc:Nat}(hs5:SlK hdC 2 w5 (.slice ha hs.length hc) hs)(hb5:Below (w4.alloc (.cells zE.toArray 90)).drew.heap.size (w4.alloc (.cells zE.toArray 90)).drew w5)(hn5:∀ b off n k,Value.slice ha hs.length hc = .slice (some ⟨b,off,none⟩) n k->(w4.alloc (.cells zE.toArray 90)).drew.heap.size<=b):
 NewAt w4 url st body now hs (.pointer (some ⟨w4.heap.size,0,none⟩)) (setE6 w5 w4.heap.size (.string url) (.slice none 0 0) (.int .i64 st) (.slice ha hs.length hc) (.string body) (.int .i64 now)):=by
 have hsz:(w4.alloc (.cells zE.toArray 90)).drew.heap.size=w4.heap.size+1:=by simp
 have hA:=(AtL.new w4 zE 90).drew.next hb5;have hb:Below w4.heap.size w4 w5:=((Kc w4).alloc lr _).drew.trans (hb5.mono (by rw [hsz];omega));have hf:FarV hs (.slice ha hs.length hc) w4.heap.size none:=fun _ b off n k e=>⟨by have:=hn5 b off n k e;omega,by simp⟩
 exact ⟨_,ha,hc,rfl,hA.setE6 rfl _ _ _ _ _ _,slk_setE6 hs5 hf _ _ _ _ _ _,fun b off n k e=>by have:=hn5 b off n k e;omega,hf,lr,below_setE6 hb lr _ _ _ _ _ _⟩
theorem newat_b {w4 w5:World}{url:ByteArray}{st:Int}{body:ByteArray}{now:Int}{hs:List Hd}{ha:Option Addr}{hc:Nat}(hs5:SlK hdC 2 w5 (.slice ha hs.length hc) hs)(hb5:Below w4.drew.heap.size w4.drew w5)(hn5:∀ b off n k,Value.slice ha hs.length hc = .slice (some ⟨b,off,none⟩) n k->w4.drew.heap.size<=b):
 NewAt w4 url st body now hs (.pointer (some ⟨w5.heap.size,0,none⟩)) (w5.alloc (.cells #[.string url,.slice none 0 0,.int .i64 st,.slice ha hs.length hc,.string body,.int .i64 now] 90)):=by have hA:=AtL.new w5 [.string url,.slice none 0 0,.int .i64 st,.slice ha hs.length hc,.string body,.int .i64 now] 90;have hb:Below w4.heap.size w4 w5:=(Kc w4).drew.trans hb5;have hf:FarV hs (.slice ha hs.length hc) w5.heap.size none:=slk_new hs5 lr;have hal:Below w5.heap.size w5 (w5.alloc (.cells #[.string url,.slice none 0 0,.int .i64 st,.slice ha hs.length hc,.string body,.int .i64 now] 90)):=(Kc w5).alloc lr _;exact ⟨_,ha,hc,rfl,hA,hs5.below hal lr,hn5,hf,hb.size,hb.trans (hal.mono hb.size)⟩
theorem put_yes (jb B:Nat)(v:Value)(l:List Ee)(w:World)(hM:MaxAt w)(hG:0<B)(hjB:B<=jb)(hJ:CaIn w jb B v l)(hz:∀ x∈l,HdSz x.2.va)(hl:l.length<=1000)(url:ByteArray)(rq hs:List Hd)(vr vh:Value)(hq:SlK hdC 2 w vr rq)(hh:SlK hdC 2 w vh hs)(hzq:HdSz rq)(hzh:HdSz hs)(hfq:FarV rq vr jb v.ownBlock)(hfh:FarV hs vh jb v.ownBlock)(st:Int)(body:ByteArray)(now:Int)(hS:storL st rq hs=true):
 Calls Tryz.prog 130 #[.pointer (some ⟨jb,0,none⟩),.string url,vr,.int .i64 st,vh,.string body,.int .i64 now] w fun e w'=>e = .returned (.bool true)/\∃ r:Er,CaTo w jb B v (keepL l url rq ++ [(r,⟨url,varyE rq hs,st,hs,body,now⟩)]) w'/\NewE (r,⟨url,varyE rq hs,st,hs,body,now⟩) w.heap.size:=by
 have CCl:=Kb (fun (w:World) hv=>clo_is hs vh w hv hzh.1);obtain ⟨L,hL⟩:=Ka (varyL hs);have CV:=Kb (fun w hM hv=>vary_is hs vh w hM hv hzh L hL);have CH:=Kb (fun (w:World) (T:ByteArray) (hT:T.size<=100000) (hv:SlK hdC 2 w vr rq)=>hdr_at rq vr T w hv hzq hT (valL rq T.data.toList) _ rfl rfl);have HL:=Kb hL;clear hL;have hjl:=hJ.at_.lt;have hB0:Below w.heap.size w ((w.alloc (.cells [.string url].toArray 9)).alloc (.cells [vr].toArray 28)):=((Kc w).alloc lr _).alloc (by simp) _;have U0:=(AtL.new w [.string url] 9).alloc (.cells [vr].toArray 28);have Q0:=AtL.new (w.alloc (.cells [.string url].toArray 9)) [vr] 28;rw [show (w.alloc (.cells [.string url].toArray 9)).heap.size=w.heap.size+1 by simp] at Q0;have J0:=hJ.below hB0 lr;have q0:=hq.below hB0 lr;have ho:=hown_lt hJ.own
 have CDel:=Kb (eedel (fun x=>ansB x.2 url rq) 191 #[.pointer (some ⟨w.heap.size,0,none⟩),.pointer (some ⟨w.heap.size+1,0,none⟩)] (enters_of Tryz.func191 (by kernel_rfl) rfl) l v _ B (fun x hx=>(J0.rd x hx).shp) J0.own
  (fun W d hd hr=>put1_is d url rq vr _ _ W (U0.row (hr jb) U0.lt (by omega) (fun e=>by have:=ho _ e;omega)) (Q0.row (hr jb) Q0.lt (by omega) (fun e=>by have:=ho _ e;omega)) ((J0.rd d hd).row (hr jb) lr (J0.far d hd)) (slk_row q0 (hr jb) lr hfq) hzq (hz d hd)) (by omega))
 have h0:=hh.below hB0 lr;have M0:=hM.below hB0 lr;have j0:=J0.at_.c 0 rfl;have CS:=Kb (fun w hM hv hw=>stor_is st rq hs vr vh w hM hv hw hzq hzh _ hS);have HJ:=Kb hJ;have HJ0:=Kb J0;have HQ0:=Kb q0;have HH0:=Kb h0;have HM0:=Kb M0;have HFQ:=Kb hfq;have HFH:=Kb hfh;obtain ⟨sa,sc,rfl,_⟩:=hq.shape;obtain ⟨sb,sd,rfl,_⟩:=hh.shape;obtain ⟨ta,tc,hve,_⟩:=hJ.reads.shape;subst hve;have hjne:jb≠jb+1:=by omega
 clear hq hh hM hJ hS J0 q0 h0 M0 hz hzq hfq hfh;go_enter Tryz.func130,Tryz.ntmps130
 go_upto_region 4 with (first
  | (go_at_call 190; refine CDel.out.mono ?_; rintro e w1 hq1; obtain ⟨a1, c1, rfl, hown1, hob1, hr1⟩ := delq_open hq1; clear hq1; have hrj := hr1 jb; have RI := HJ0.out.row.less hown1 (fun y hy => (Zp.1 hy).1) hrj hob1; have J1 := HJ0.out.at_.row (hr1 (jb + 1)) HJ0.out.at_.lt (by omega) HJ0.out.ne; have j1 := J1.c 0 rfl; have f1 := J1.f 0 rfl; have jl1 := J1.lt; have RS := RI.store J1; have hb3 := (hrj.lowB HJ0.out.own hjB HJ0.out.le).setCell (p := ⟨jb, 0, none⟩) hjB (.slice a1 (keepL l url rq).length c1); have M3 := HM0.out.low hb3 hG; have q3 := slk_far (x := .slice a1 (keepL l url rq).length c1) (slk_row HQ0.out hrj lr HFQ.out) HFQ.out; have h3 := slk_far (x := .slice a1 (keepL l url rq).length c1) (slk_row HH0.out hrj lr HFH.out) HFH.out; have U3 := (U0.row hrj U0.lt (by omega) (fun e => by have := ho _ e; omega)).far ⟨jb, 0, none⟩ (.slice a1 (keepL l url rq).length c1) (by show jb ≠ w.heap.size; omega); have Q3 := (Q0.row hrj Q0.lt (by omega) (fun e => by have := ho _ e; omega)).far ⟨jb, 0, none⟩ (.slice a1 (keepL l url rq).length c1) (by show jb ≠ w.heap.size + 1; omega); have qc3 := Q3.c 0 rfl; have ql3 := Q3.lt; have hR3 : RowBut w.heap.size jb (Value.slice ta l.length tc).ownBlock w (w1.setCell ⟨jb, 0, none⟩ (.slice a1 (keepL l url rq).length c1)) := (((RowBut.refl w.heap.size jb (Value.slice ta l.length tc).ownBlock w).below hB0 lr).trans (hrj.mono hB0.size)).setCell ⟨jb, 0, none⟩ (Or.inl rfl) _; have hT3 : RowTo (.slice ta l.length tc) (.slice a1 (keepL l url rq).length c1) w.heap.size := fun g e => .inl (by rw [← hob1]; exact e); clear j0)
    | (with_reducible refine (CS.out _ M3 q3 h3).mono ?_;rintro e w4 ⟨rfl,hb4⟩)
  )
 obtain ⟨w3,hw3⟩:∃ w3:World,w1.setCell ⟨jb,0,none⟩ (.slice a1 (keepL l url rq).length c1)=w3:=⟨_,rfl⟩
 rw [hw3] at hb4 RS M3 q3 h3 U3 Q3 hR3;have M4:=M3.below hb4 lr;have q4:=q3.below hb4 lr;have h4:=h3.below hb4 lr;have U4:=U3.next hb4;have Q4:=Q3.next hb4;have RS4:=RS.below hb4 lr;have hR4:=hR3.below hb4 (by have:=hR3.size;omega);obtain ⟨C,hC⟩:=Ka w.heap.size;obtain ⟨D,hD⟩:=Ka (w.heap.size+1);have hgC:w.heap.size=C:=hC;rw [hC] at U4;rw [hD] at Q4;rw [hD,hC];have HCC:=Kb hC;have HDD:=Kb hD;have uc:=U4.c 0 rfl;have ul:=U4.lt;have h4d:=h4.below (Kc w4).drew lr;have h4a:=(h4.below ((Kc w4).alloc lr (.cells zE.toArray 90)) lr).below (Kc (w4.alloc (.cells zE.toArray 90))).drew lr;clear hC hD hgC hw3;go_cut [15] from 35 to 41 (fun c15 w5=>NewAt w4 url st body now hs c15 w5)
 case first=>
  have hC4:w4.heap.size≠C:=by omega
  go_region_held3 (fun w'=>w'.cell? ⟨C,0,none⟩=some (.string url)) (first | with_reducible exact U4.drew.c 0 rfl | with_reducible exact (U4.alloc _).drew.c 0 rfl | with_reducible exact uc5 | with_reducible exact (U5.alloc _).c 0 rfl | exact c_setE6 uc5 hC4 _ _ _ _ _ _ | exact c_setE6 ((U5.alloc _).c 0 rfl) hC5 _ _ _ _ _ _)
   (first
     | ((with_reducible refine (CCl.out w4.drew h4d).mono ?_);rintro e w5 hq5;obtain ⟨ha,hc,rfl,hs5,hb5,hn5⟩:=cloq_open hq5;have U5:=U4.drew.next hb5;have uc5:=U5.c 0 rfl;have hC5:w5.heap.size≠C:=(by have:=U5.lt;omega);have HN:=Kb (newat_b (url:=url) (st:=st) (body:=body) (now:=now) hs5 hb5 hn5))
     | ((with_reducible refine (CCl.out (w4.alloc (.cells zE.toArray 90)).drew h4a).mono ?_);rintro e w5 hq5;obtain ⟨ha,hc,rfl,hs5,hb5,hn5⟩:=cloq_open hq5;have U5:=(U4.alloc _).drew.next hb5;have uc5:=U5.c 0 rfl;have hC5:w5.heap.size≠C:=(by have:=U5.lt;omega);have HN:=Kb (newat_a (url:=url) (st:=st) (body:=body) (now:=now) hs5 hb5 hn5);have EA:=(AtL.new w4 zE 90).drew.next hb5;have z0:=EA.c 0 rfl;have z1:=EA.c 1 rfl;have z2:=EA.c 2 rfl;have z3:=EA.c 3 rfl;have z4:=EA.c 4 rfl;have z5:=EA.c 5 rfl;have f0:=EA.f 0 rfl;have f1:=EA.f 1 rfl;have f2:=EA.f 2 rfl;have f3:=EA.f 3 rfl;have f4:=EA.f 4 rfl;have f5:=EA.f 5 rfl;have eal:=EA.lt))
  all_goals go_wp2_with fail;go_meet;case rel=>exact HN.out
 case rest=>
  obtain ⟨E,ha,hc,rfl,AE,hsE,hnE,hfE,hE4,hb5⟩:=hcut;have hvz:=hdr_size hs [118,97,114,121] hzh;obtain ⟨VV,hVV⟩:=Ka ((hdrL hs [118,97,114,121]).getD ⟨#[]⟩);rw [hVV] at hvz;have hLV:wordsL VV.data.toList=L:=by rw [<-hVV];exact HL.out
  go_wp2_with (with_reducible refine (CV.out _ (M4.below hb5 lr) (h4.below hb5 lr)).mono ?_;rintro e w6 hq6;obtain ⟨ps,pa,pc,rfl,hownw,hps,hb6⟩:=wordsq_open hq6;clear hq6)
  have hpz:∀ p∈ps,p.size<=100000:=fun p hp=>by have:=words_size VV.data.toList p.data.toList (by rw [hLV,<-hps];exact Zc hp);rw [size_len,size_len] at this;omega
  have hpl:ps.length<=100001:=by
   have h1:(wordsL VV.data.toList).length<=VV.size+1:=by
    unfold wordsL
    refine Kg (Zj _ _) ?_
    rw [Za]
    have:=segs_count 44 VV.data.toList
    rwa [size_len] at this
   rw [hLV,<-hps] at h1;simp [lists] at h1;omega
  have HPS:=Kb hps;have HPZ:=Kb hpz;have A6:=AE.next hb6;have hEl:=A6.lt;have hE5:=AE.lt;have hb46:=Kd hb5 hb6;have q6:=q4.below hb46 lr;have Q6:=Q4.next hb46;have RS6:=RS4.below hb46 lr;have sE6:=hsE.below hb6 lr;obtain ⟨_,_,hve,hlc,hlm,hra⟩:=own_reads hownw;injection hve with e1 _ e3;subst e1 e3;have HRA:=Kb hra;have hDE:D≠E:=by have:=Q4.lt;omega
  have hDl:=Q6.lt;have HBK:=Kb hb46;have HQ4:=Kb q4;have HRS4:=Kb RS4;clear hps hpz hra hVV hLV hb46 q4 h4 U4 Q4 RS4 hsE AE;go_loopw [45] (fun iv wr=>∃ (k:Nat) (va:List Hd) (u:Value),k<=ps.length/\iv = .int .i64 k/\va.length<=k/\Hid (va=((lists ps).take k).foldl (vstep rq) [])/\AtL wr E [.string url,u,.int .i64 st,.slice ha hs.length hc,.string body,.int .i64 now]/\wr.ownsRow w6.heap.size 70 2 u va.length (cellsK hdC va)/\BelowBut w6.heap.size E w6 wr) (fun iv _=>ps.length - (intOf iv).toNat);case atStart=>exact ⟨0,[],_,Kh _,rfl,lr,Kb rfl,A6,World.ownsRow_nil _ _ _ _,BelowBut.refl _ _ _⟩
  case round=>
   obtain ⟨k,va,u,hk,rfl,hvk,HV,AW,hown,hbb⟩:=hrel;have hwz:=hbb.size;by_cases hlt:k<ps.length
   ·have hki:(k:Int)<(ps.length:Int):=by omega
    have hk0:(0:Int)<=(k:Int):=by omega
    rcases HRA.out with ⟨_,h0⟩ | ⟨gw,rfl,hgB,hgw,hcg⟩
    ·omega
    have c0:=(hbb.cell (p:=⟨gw,k,none⟩) hgw (by show gw≠E;omega)).trans (hcg k (.string ps[k]) (by simp [strsV,hlt]));have hx:=HPZ.out _ (Ky hlt);have hfs:=fold_step (vstep rq) [] (lists ps) k (by simpa [lists] using hlt) ps[k].data.toList (by simp [lists]) va HV.out.symm;obtain ⟨x,hxe⟩:=Ka (ps[k]);rw [hxe] at c0 hx hfs;obtain ⟨T,hT⟩:=Ka (bs (lowL x.data.toList));have hTl:T.data.toList=lowL x.data.toList:=by rw [<-hT];rfl
    have hTz:T.size<=100000:=by rw [<-hT,low_size];exact hx
    have CLo:=Kb (fun w=>lowh_is x T hTl w (by omega));obtain ⟨ua,uc,rfl,_,_,_⟩:=own_reads hown;have hst:vstep rq va x.data.toList=if va.any (fun d=>d.1.toList == T.toList) then va else va ++ [(T,valL rq T.data.toList)]:=by
     unfold vstep;have e:(fun d:Hd=>d.1.data.toList == lowL x.data.toList)=(fun d:Hd=>d.1.toList == T.toList):=by funext d;rw [Kt,Kt,hTl]
     rw [e,hT,hTl]
    rw [hst] at hfs;obtain ⟨R,hR⟩:=Ka (va.any (fun d=>d.1.toList == T.toList));have CCo:=Kb (fun (W:World) (N:Nat) (hA:AtL W N [.string T]) (hv:SlK hdC 2 W (.slice ua va.length uc) va)=>hdcont (fun d=>d.1.toList == T.toList) 195 #[.pointer (some ⟨N,0,none⟩)] (enters_of Tryz.func195 (by kernel_rfl) rfl) va _ W hv (fun W' d hd hb=>put2_is T d N W' (hA.next hb)) (by omega) R hR);rw [hR] at hfs;have hgl:gw<wr.heap.size:=Ko hgw hwz;have hElr:E<wr.heap.size:=AW.lt;obtain ⟨V,hV⟩:=Ka (valL rq T.data.toList);rw [hV] at hfs;have CHe:=Kb (fun (w:World) (hv:SlK hdC 2 w (.slice sa rq.length sc) rq)=>by have:=CH.out w T hTz hv;rw [hV] at this;exact this);have HQ6:=Kb Q6;cases R with
    | true=>
      rw [Kf rfl] at hfs;have HFS:=Kb hfs;clear hfs hst hR hT hTl hxe hcg hV
      go_wp2_with (first
       | (with_reducible refine (CLo.out _).mono ?_;rintro e w7 ⟨rfl,hb7⟩;have A8:=(AW.next hb7).alloc (.cells #[.string T] 9);have N8:=AtL.new w7 [.string T] 9;have o8:=(own_below hown hb7 lr).alloc (.cells #[.string T] 9);have hb8:=(but_below hbb hb7 hwz).alloc (Kg hwz hb7.size) (.cells #[.string T] 9);have z1:=A8.c 1 rfl;have al8:=A8.lt)
       | (go_at_call 194;refine (CCo.out _ _ N8 (SlK.of_own hdC_len o8)).mono ?_;rintro e w9 ⟨rfl,hb9⟩))
      go_roundw;case rel=>exact ⟨k+1,va,_,by omega,by go_num,by omega,Kb HFS.out.symm,A8.next hb9,own_below o8 hb9 lr,but_below hb8 hb9 hb8.size⟩
      case measure=>simp [intOf];omega
    | false=>
      rw [Ke (by simp)] at hfs;have HFS:=Kb hfs;clear hfs hst hR hT hTl hxe hcg hV
      go_wp2_with (first
       | (with_reducible refine (CLo.out _).mono ?_;rintro e w7 ⟨rfl,hb7⟩;have A8:=(AW.next hb7).alloc (.cells #[.string T] 9);have N8:=AtL.new w7 [.string T] 9;have o8:=(own_below hown hb7 lr).alloc (.cells #[.string T] 9);have hb8:=(but_below hbb hb7 hwz).alloc (Kg hwz hb7.size) (.cells #[.string T] 9);have z1:=A8.c 1 rfl;have al8:=A8.lt)
       | (go_at_call 194;refine (CCo.out _ _ N8 (SlK.of_own hdC_len o8)).mono ?_;rintro e w9 ⟨rfl,hb9⟩;have A9:=A8.next hb9;have N9:=N8.next hb9;have o9:=own_below o8 hb9 lr;have hb99:=but_below hb8 hb9 hb8.size;have q9:=SlK.below HQ4.out (BelowBut.to_below hb99 HBK.out HBK.out.size hE4) lr;have D9:=HQ6.out.but hb99 hDl hDE;have dc9:=D9.c 0 rfl;have dl9:=D9.lt;have nc9:=N9.c 0 rfl;have nl9:=N9.lt;clear z1)
       | (with_reducible refine (CHe.out _ q9).mono ?_;rintro e w10 ⟨rfl,hb10⟩;have A10:=A9.next hb10;have o10:=own_below o9 hb10 lr;have hb101:=but_below hb99 hb10 hb99.size;have z1:=A10.c 1 rfl;have al10:=A10.lt;have N10:=N9.next hb10;have nc10:=N10.c 0 rfl;have nl10:=N10.lt;have hz10:=hb101.size)
       | (refine app2 slH _ (by rfl) (.tmp 63) (.tmp 67) (by rfl) w6.heap.size _ _ _ (by rfl) o10 [_,_] 1 _ (by rfl) rfl (by rfl) (by intro u hu;simp at hu;rcases hu with rfl | rfl <;> rfl) (by decide) (by omega) (by omega) hz10 ?_;intro v11 w11 o11 g11 f11;obtain ⟨ub,uk,rfl,_,_,_⟩:=own_reads o11;have A11:=A10.grown g11 (fun e=>by have:=own_base o10 e;omega);have z1:=A11.c 1 rfl;have y1:=A11.f 1 rfl;have al11:=A11.lt))
      go_roundw;case rel=>exact ⟨k+1,va ++ [(T,V)],_,by omega,by go_num,by simp;omega,Kb HFS.out.symm,A11.set 1 _,own_eq (ownsRow_setCell_other (a:=⟨E,1,none⟩) o11 (by intro e;have h1:w6.heap.size<=E:=own_base o11 e;omega) _) (by simp) (by rw [cellsK_app];rfl),(hb101.grown o10 g11 hz10).setCell ⟨E,1,none⟩ (Or.inl rfl) _⟩
      case measure=>simp [intOf];omega
   ·obtain rfl:k=ps.length:=by omega
    have hVV:va=varyE rq hs:=by rw [HV.out];unfold varyE;rw [HL.out,<-HPS.out,Zb (by simp [lists])]
    have HVV:=Kb hVV;have hb4r:=BelowBut.to_below hbb HBK.out HBK.out.size hE4;have RSr:=HRS4.out.below hb4r lr;have hRr:=hR4.below hb4r hR4.size;have sEr:SlK hdC 2 wr (.slice ha hs.length hc) hs:=slk_row (jb:=E) (o:=none) sE6 ⟨hbb.os,hbb.tape,hbb.output,hbb.size,fun k hk h1 _=>hbb.block k hk h1⟩ lr hfE;obtain ⟨ua,uc,rfl,_,_,hub⟩:=own_reads hown;have hKl:(keepL l url rq).length<=1000:=Kg (Zj _ _) hl;have hjr:=RSr.at_.lt;have hj4:=HRS4.out.at_.lt;have ha4:=hown_lt HRS4.out.own;have hfx:FarE (⟨url,.slice ua va.length uc,st,.slice ha hs.length hc,body,now⟩,⟨url,va,st,hs,body,now⟩) jb (Value.slice a1 (keepL l url rq).length c1).ownBlock:=by
     refine ⟨fun _ b off n c e=>?_,fun _ b off n c e=>?_⟩
     ·rcases hub with ⟨h1,_⟩ | ⟨gu,h1,h2,_⟩
      ·have e:Value.slice ua va.length uc = .slice (some ⟨b,off,none⟩) n c:=e;rw [h1] at e;cases e
      ·have e:Value.slice ua va.length uc = .slice (some ⟨b,off,none⟩) n c:=e;rw [h1] at e;injection e with e1 _ _;injection e1 with e1;injection e1 with e1;subst e1;have:=HBK.out.size;exact ⟨by omega,fun e2=>by have:=ha4 _ e2;omega⟩
     ·have:=hnE b off n c e;exact ⟨by omega,fun e2=>by have:=ha4 _ e2;omega⟩
    have hnx:NewE (⟨url,.slice ua va.length uc,st,.slice ha hs.length hc,body,now⟩,⟨url,va,st,hs,body,now⟩) w.heap.size:=by
     have hws4:=hR4.size;have:=HBK.out.size;refine ⟨fun b off n c e=>?_,fun b off n c e=>by have:=hnE b off n c e;omega⟩;have e:Value.slice ua va.length uc = .slice (some ⟨b,off,none⟩) n c:=e;rcases hub with ⟨h1,_⟩ | ⟨gu,h1,h2,_⟩
     ·rw [h1] at e;cases e
     ·rw [h1] at e;injection e with e1 _ _;injection e1 with e1;injection e1 with e1;omega
    have HNX:=Kb hnx;have hrx:Rd wr (⟨url,.slice ua va.length uc,st,.slice ha hs.length hc,body,now⟩:Er) ⟨url,va,st,hs,body,now⟩:=⟨rfl,rfl,rfl,rfl,SlK.of_own hdC_len hown,sEr⟩
    have HFX:=Kb hfx;have HRX:=Kb hrx;have HONE:=Kb (one6 (⟨url,.slice ua va.length uc,st,.slice ha hs.length hc,body,now⟩,⟨url,va,st,hs,body,now⟩) ⟨⟨_,_,_,rfl⟩,⟨_,_,_,rfl⟩⟩);have HRS:=Kb RSr;have HRR:=Kb hRr;have hjE:jb≠E:=by omega
    have j0:=RSr.at_.c 0 rfl;have f0:=RSr.at_.f 0 rfl;have hBr:=RSr.le;have hgj:=RSr.ne;have hwr:=HRR.out.size;have z0:=AW.c 0 rfl;have z1:=AW.c 1 rfl;have z2:=AW.c 2 rfl;have z3:=AW.c 3 rfl;have z4:=AW.c 4 rfl;have z5:=AW.c 5 rfl;have awl:=AW.lt;have hal1:=(Kc wr).alloc lr (.cells (eeC (⟨url,.slice ua va.length uc,st,.slice ha hs.length hc,body,now⟩,⟨url,va,st,hs,body,now⟩)).toArray 90);have R9:=(RSr.row.al (.cells (eeC (⟨url,.slice ua va.length uc,st,.slice ha hs.length hc,body,now⟩,⟨url,va,st,hs,body,now⟩)).toArray 90)).dr;have X9:Rd (wr.alloc (.cells (eeC (⟨url,.slice ua va.length uc,st,.slice ha hs.length hc,body,now⟩,⟨url,va,st,hs,body,now⟩)).toArray 90)).drew (⟨url,.slice ua va.length uc,st,.slice ha hs.length hc,body,now⟩:Er) ⟨url,va,st,hs,body,now⟩:=hrx.below hal1.drew lr;have J9:=(RSr.at_.alloc (.cells (eeC (⟨url,.slice ua va.length uc,st,.slice ha hs.length hc,body,now⟩,⟨url,va,st,hs,body,now⟩)).toArray 90)).drew;have B9:RowBut w.heap.size jb (Value.slice ta l.length tc).ownBlock w (wr.alloc (.cells (eeC (⟨url,.slice ua va.length uc,st,.slice ha hs.length hc,body,now⟩,⟨url,va,st,hs,body,now⟩)).toArray 90)).drew:=hRr.below hal1.drew hwr;have hs9:B<=(wr.alloc (.cells (eeC (⟨url,.slice ua va.length uc,st,.slice ha hs.length hc,body,now⟩,⟨url,va,st,hs,body,now⟩)).toArray 90)).drew.heap.size:=by simp;omega
    have hk9:jb<(wr.alloc (.cells (eeC (⟨url,.slice ua va.length uc,st,.slice ha hs.length hc,body,now⟩,⟨url,va,st,hs,body,now⟩)).toArray 90)).drew.heap.size:=by simp;omega
    have hw9:w.heap.size<=(wr.alloc (.cells (eeC (⟨url,.slice ua va.length uc,st,.slice ha hs.length hc,body,now⟩,⟨url,va,st,hs,body,now⟩)).toArray 90)).drew.heap.size:=by simp;omega
    have HR9:=Kb R9;have HX9:=Kb X9;have HJ9:=Kb J9;have HB9:=Kb B9;have HS9:=Kb hs9;have HK9:=Kb hk9;have HW9:=Kb hw9;have HT3:=Kb hT3;clear hVV RSr hRr sEr hub hfx hrx hnx ha4 hgj HV R9 X9 J9 B9 hal1 hs9 hk9 hw9 hT3;go_wp2_with fail
    go_region_law (first
     | (refine step_appG slE (wr.alloc (.cells (eeC (⟨url,.slice ua va.length uc,st,.slice ha hs.length hc,body,now⟩,⟨url,va,st,hs,body,now⟩)).toArray 90)).drew (by rfl) (.tmp 75) (.tmp 77) (by rfl) B _ (keepL l url rq).length (cellsK eeC (keepL l url rq)) (by rfl) HR9.out.own (eeC (⟨url,.slice ua va.length uc,st,.slice ha hs.length hc,body,now⟩,⟨url,va,st,hs,body,now⟩)) 1 wr.heap.size (by rfl) (AtL.new wr (eeC (⟨url,.slice ua va.length uc,st,.slice ha hs.length hc,body,now⟩,⟨url,va,st,hs,body,now⟩)) 90).drew rfl HONE.out (by decide) (by omega) (by omega) HS9.out ?_;intro g5 cap5 w8 hown8 hgrow hat hlt8;have F8:=RowIn.app HR9.out HX9.out HFX.out HK9.out rfl hown8 hgrow hat;have J8:=HJ9.out.grown hgrow HR9.out.ne;have t8:=J8.c 0 rfl;have s8:=J8.f 0 rfl;have jl8:=J8.lt;have B8:=HT3.out.grown HB9.out hgrow HW9.out))
    all_goals
     go_wp2_with fail;go_ret;refine ⟨rfl,⟨url,.slice ua va.length uc,st,.slice ha hs.length hc,body,now⟩,?_⟩;rw [<-HVV.out];refine ⟨⟨⟨_,F8.1.store J8,fun g' e=>?_⟩,B8.setCell ⟨jb,0,none⟩ (Or.inl rfl) _⟩,HNX.out⟩;rcases F8.2 g' e with h1 | h1
     ·exact HT3.out g' h1
     ·exact .inr (Kg HW9.out h1)
theorem keepg_snoc {α:Type}(l:List α)(p:α->Bool)(k:Nat)(h:k<l.length)(x:α)(hx:l[k]=x):(l.take (k+1)).filter p=(l.take k).filter p ++ if p x then [x] else []:=by subst hx;rw [Jf h,Zs];cases hq:p l[k] <;> simp [hq]
theorem run_append_none {P:Program}{w:World}(base:Nat)(t ty e:TypeId)(i:TypeInfo)(size:Nat)(ht:P.underlying t=some (.slice e))(hi:P.info? e=some i)
 (v:Value) (n:Nat) (xs:List Value) (hown:w.ownsRow base e size v n xs) (c:Nat):(Builtin.append_ #[t,t] ty #[v,.slice none 0 c]).run P w = .ok v w:=by
 rcases hown.2 with ⟨rfl,rfl⟩ | ⟨g,cap,cur,rfl,_,_,hnc,_⟩
 ·simp [Builtin.append_,run_underlying ht,sizeOf,typeInfo,hi,Builtin.lenOf,Builtin.firstCells]
 ·simp [Builtin.append_,run_underlying ht,sizeOf,typeInfo,hi,Builtin.lenOf,Builtin.firstCells,hnc,storeCells]
theorem app_src {P:Program}{T E size bytes:Nat}(ty:SlTy P T E size bytes)(W:World){ops:Array Oper}{rest:List Oper}{o:Oper}{a:Act}{Q:Exit->Act->World->Prop}
 (hgd:o.guard=none) (s x:Operand) (ho:o.op = .call { callee:=.builtin .append,args:=#[s,x],argTypes:=#[T,T] })
 (B:Nat) (v:Value) (n:Nat) (xs:List Value) (hs:a.eval s=v) (hown:W.ownsRow B E size v n xs) (news:List Value) (A:Option Addr) (m c:Nat)
 (hx:a.eval x = .slice A m c) (hl:news.length=m * size) (hc:(A=none/\m=0)\/∃ ad,A=some ad/\∀ j u,news[j]? = some u->W.cell? (ad.add j)=some u) (h1:∀ u∈news,u.oneCell'=true)
 (hb:(n+m) * bytes<=140737488355328) (hn:n+m<=140737488355328) (hB:B<=W.heap.size)
 (h:∀ v' w',w'.ownsRow B E size v' (n+m) (xs ++ news)->W.grownBy w' v.ownBlock->wpList P ops Q rest (a.put o.dst v') w') :
 wpList P ops Q (o :: rest) a W:=by
 obtain ⟨hu,⟨i,z,hi,hz,h2,h3,h4⟩,hp⟩:=ty;rcases hc with ⟨rfl,rfl⟩ | ⟨ad,rfl,hc⟩
 ·obtain rfl:news=[]:=Ja (by simpa using hl);refine wpList_plain hgd fun K hK=>?_;have hr:=run_append_none (P:=P) (w:=W) B T o.type E i size hu hi v n xs hown c;unfold Oper.wp execOp;simp only [ho,resolve,invoke,builtin,Sem.run_bind,Sem.run_pure,Result.andThen_ok,List.map_toArray,Jw,Zt,hs,hx,hr];exact hK _ _ (h v W (by simpa using hown) (World.grownBy.refl W _))
 ·exact wpList_append_own _ hgd s x T ho B E i z size bytes hu hi hz h2 h3 h4 hp v n xs hs hown ad m c news hx hl hc h1 (by unfold maxLen;omega) hb hB fun v' w' a1 a2 _=>h v' w' a1 a2
theorem hd_cells {w:World}{l:List Hd}{sa:Option Addr}{n c:Nat}(hv:SlK hdC 2 w (.slice sa n c) l)(hn:l.length=n):
 0<n->∃ b0 off:Nat,sa=some ⟨b0,off,none⟩/\b0<w.heap.size/\∀ kk (h:kk<l.length) j u,(hdC l[kk])[j]? = some u->w.cell? ⟨b0,off+kk * 2+j,none⟩=some u:=by
 intro h0;rcases hv with ⟨rfl,_⟩ | ⟨_,b0,off,cap,he,hc1,hc2,hc3,hcell⟩
 ·simp at hn;omega
 ·injection he with e1 _ _;exact ⟨b0,off,e1,hc3,hcell⟩
theorem hd_src {w:World}{l:List Hd}{sa:Option Addr}{c:Nat}(hv:SlK hdC 2 w (.slice sa l.length c) l):(sa=none/\l.length=0)\/∃ ad,sa=some ad/\∀ j u,(cellsK hdC l)[j]? = some u->w.cell? (ad.add j)=some u:=by
 by_cases h0:l.length=0
 ·cases sa with
  | none=>exact .inl ⟨rfl,h0⟩
  | some ad=>
    have:l=[]:=Ja h0;subst this;exact .inr ⟨ad,rfl,fun j u hu=>by simp [cellsK] at hu⟩
 ·obtain ⟨b0,off,rfl,_,hc⟩:=hd_cells hv rfl (by omega);refine .inr ⟨_,rfl,fun j u hu=>?_⟩;obtain ⟨i,hi,q,rfl,hq⟩:=cellsK_inv hdC_len l j u hu;rw [add_none,<-Nat.add_assoc];exact hc i hi q u hq
def hasH (hs:List Hd)(d:Hd):Bool:=(hdrL hs d.1.data.toList).isSome
def mergeL (old hs:List Hd):List Hd:=old.filter (fun d=>!hasH hs d) ++ hs
def sameH (h d:Hd):Bool:=lowL d.1.data.toList == lowL h.1.data.toList
theorem hasH_any (hs:List Hd)(d:Hd):hasH hs d=hs.any (fun h=>lowL h.1.data.toList == lowL d.1.data.toList):=by unfold hasH hdrL;rw [Option.isSome_map,Zm,List.find?_isSome,List.any_eq_true];rfl
theorem merge_again (old hs:List Hd)(h:Hd)(hh:hasH hs h=true):mergeL old (hs ++ [h])=mergeL old hs ++ [h]:=by
 unfold mergeL;rw [<-Jj];congr 2;refine List.filter_congr fun d _=>?_;rw [hasH_any,hasH_any,List.any_append];cases hd:(lowL h.1.data.toList == lowL d.1.data.toList)
 ·simp [hd]
 ·have e:lowL h.1.data.toList=lowL d.1.data.toList:=by simpa using hd
  rw [hasH_any,e] at hh;rw [hh];rfl
theorem merge_new (old hs:List Hd)(h:Hd)(hh:hasH hs h=false):mergeL old (hs ++ [h])=(mergeL old hs).filter (fun d=>!sameH h d) ++ [h]:=by
 unfold mergeL;rw [Zs,List.filter_filter,<-Jj];congr 1;have h2:hs.filter (fun d=>!sameH h d)=hs:=by rw [List.filter_eq_self];intro d hd;rw [hasH_any,List.any_eq_false] at hh;have:=hh d hd;unfold sameH;simpa using this
 rw [h2];congr 1;refine List.filter_congr fun d _=>?_;rw [hasH_any,hasH_any,List.any_append];unfold sameH;have e:(lowL h.1.data.toList == lowL d.1.data.toList)=(lowL d.1.data.toList == lowL h.1.data.toList):=BEq.comm;simp only [List.any_cons,List.any_nil,Bool.or_false,Bool.not_or,e];exact Bool.and_comm _ _
theorem merge_step (old hs:List Hd)(k:Nat)(hk:k<hs.length)(h:Hd)(hh:hs[k]=h):mergeL old (hs.take (k+1))=(if hasH (hs.take k) h then mergeL old (hs.take k) else (mergeL old (hs.take k)).filter (fun d=>!sameH h d)) ++ [h]:=by
 rw [Jf hk,hh]
 cases hq:hasH (hs.take k) h with
 | true=>rw [merge_again _ _ _ hq];rfl
 | false=>rw [merge_new _ _ _ hq];rfl
theorem merge_mem (old hs:List Hd):∀ d∈mergeL old hs,d∈old\/d∈hs:=fun d hd=>by
 rcases Kz.1 hd with h | h
 ·exact .inl (Zp.1 h).1
 ·exact .inr h
theorem merge_len (old hs:List Hd):(mergeL old hs).length<=old.length+hs.length:=by unfold mergeL;rw [Kw];have:=Zj (fun d=>!hasH hs d) old;omega
theorem merge_nil (old:List Hd):mergeL old []=old:=by unfold mergeL;rw [Je,List.filter_eq_self];intro d _;rw [hasH_any];rfl
theorem two_mk {W w':World}{A B:Nat}{a b c d:Value}(h:AtL W A [a,b])(h2:AtL W B [c,d])(hb:Below W.heap.size W w'):w'.cell? ⟨A,0,none⟩=some a/\w'.cell? ⟨B,0,none⟩=some c:=
 ⟨(brl hb _ _ h.lt).trans (h.c 0 rfl),(brl hb _ _ h2.lt).trans (h2.c 0 rfl)⟩
theorem conf_clos (h d:Hd)(B:Nat)(W:World)(hA:AtL W B (hdC h))(hd:d.1.size<=100000)(hh:h.1.size<=100000)(R:Bool)(hR:sameH h d=R):
 Calls Tryz.prog 122 #[hdA d,.pointer (some ⟨B,0,none⟩)] W fun e W'=>e = .returned (.bool R)/\Below W.heap.size W W':=by
 obtain ⟨dn,dv⟩:=d;obtain ⟨hn,hv⟩:=h;have hd:dn.size<=100000:=hd;have hh:hn.size<=100000:=hh;have hR:(lowL dn.data.toList == lowL hn.data.toList)=R:=hR;obtain ⟨X,hX⟩:=Ka (bs (lowL dn.data.toList));obtain ⟨Y,hY⟩:=Ka (bs (lowL hn.data.toList));have C1:=Kb (fun w=>lowh_is dn X (by rw [<-hX];rfl) w (by omega));have C2:=Kb (fun w=>lowh_is hn Y (by rw [<-hY];rfl) w (by omega));have hRR:(X.toList == Y.toList)=R:=by rw [<-hR,Kt,Kt,<-hX,<-hY];rfl
 have HR:=Kb hRR;have hb:=(Kc W).alloc lr (.cells (hdC (dn,dv)).toArray 70);have K0:=AtL.new W (hdC (dn,dv)) 70;have A0:=hA.alloc (.cells (hdC (dn,dv)).toArray 70);clear hA hR hRR hX hY;go_enter Tryz.func122,Tryz.ntmps122;go_wp2_with fail;obtain ⟨W1,hW1⟩:∃ W1:World,W.alloc (.cells (hdC (dn,dv)).toArray 70)=W1:=⟨_,rfl⟩
 obtain ⟨C,hC⟩:=Ka W.heap.size;rw [hW1] at hb A0 K0;rw [hC] at K0;rw [hW1,hC];have HC:=Kb hC;clear hW1 hC;have z0:=K0.c 0 rfl;have z1:=K0.c 1 rfl;have y0:=A0.c 0 rfl;have y1:=A0.c 1 rfl;have al:=A0.lt;have kl:=K0.lt
 go_region_held3 (fun w'=>w'.cell? ⟨C,0,none⟩=some (.string dn)/\w'.cell? ⟨B,0,none⟩=some (.string hn)) (first | exact two_mk K0 A0 (Kc W1).drew | exact two_mk K0 A0 hb4 | exact two_mk K0 A0 hb5 | go_keep)
  (first
    | ((with_reducible refine (C1.out _).mono ?_);rintro e w4 ⟨rfl,hbb4⟩;have hb4:=(Kc W1).drew.trans hbb4)
    | ((with_reducible refine (C2.out _).mono ?_);rintro e w5 ⟨rfl,hbb5⟩;have hb5:=Kd hb4 hbb5))
 go_wp2_with fail;go_ret;exact ⟨ret_bool HR.out,Kd hb hb5⟩
def CopO (w:World)(x:Ee)(e:Ending)(w':World):Prop:=∃ (a b:Option Addr) (c d:Nat),e = .returned (.agg #[.string x.1.u,.slice a x.2.va.length c,.int .i64 x.1.st,.slice b x.2.hd.length d,.string x.1.bo,.int .i64 x.1.ti])/\w'.ownsRow w.heap.size 70 2 (.slice a x.2.va.length c) x.2.va.length (cellsK hdC x.2.va)/\w'.ownsRow w.heap.size 70 2 (.slice b x.2.hd.length d) x.2.hd.length (cellsK hdC x.2.hd)/\(∀ g,(Value.slice a x.2.va.length c).ownBlock=some g->(Value.slice b x.2.hd.length d).ownBlock≠some g)/\Below w.heap.size w w'
theorem own_cell {w:World}{b e s n k o:Nat}{v:Value}{xs:List Value}(h:w.ownsRow b e s v n xs)(hk:v.ownBlock≠some k)(x:Value):(w.setCell ⟨k,o,none⟩ x).ownsRow b e s v n xs:=ownsRow_setCell_other (a:=⟨k,o,none⟩) h hk x
theorem own_setE6 {w:World}{b e s n k:Nat}{v:Value}{xs:List Value}(h:w.ownsRow b e s v n xs)(hk:v.ownBlock≠some k)(x0 x1 x2 x3 x4 x5:Value):(setE6 w k x0 x1 x2 x3 x4 x5).ownsRow b e s v n xs:=
 own_cell (own_cell (own_cell (own_cell (own_cell (own_cell h hk x0) hk x1) hk x2) hk x3) hk x4) hk x5
theorem cop_own (x:Ee)(w:World)(hr:Rd w x.1 x.2)(h1:x.2.va.length<=1000000)(h2:x.2.hd.length<=1000000):Calls Tryz.prog 120 #[eeA x] w (CopO w x):=by
 obtain ⟨⟨u,vv,st,hh,bo,ti⟩,xe⟩:=x;have hva:SlK hdC 2 w vv xe.va:=hr.va;have hhd:SlK hdC 2 w hh xe.hd:=hr.hd;have h1:xe.va.length<=1000000:=h1;have h2:xe.hd.length<=1000000:=h2;have C1:=Kb (fun w hv=>clo_is xe.va vv w hv h1);have C2:=Kb (fun w hv=>clo_is xe.hd hh w hv h2);have E0:=(AtL.new w (erC ⟨u,vv,st,hh,bo,ti⟩) 90).alloc (.cells [.string ⟨#[]⟩,.slice none 0 0,.int .i64 0,.slice none 0 0,.string ⟨#[]⟩,.int .i64 0].toArray 90);have R0:=AtL.new (w.alloc (.cells (erC ⟨u,vv,st,hh,bo,ti⟩).toArray 90)) [.string ⟨#[]⟩,.slice none 0 0,.int .i64 0,.slice none 0 0,.string ⟨#[]⟩,.int .i64 0] 90;rw [show (w.alloc (.cells (erC ⟨u,vv,st,hh,bo,ti⟩).toArray 90)).heap.size=w.heap.size+1 by simp] at R0;have hB0:Below w.heap.size w ((w.alloc (.cells (erC ⟨u,vv,st,hh,bo,ti⟩).toArray 90)).alloc (.cells [.string ⟨#[]⟩,.slice none 0 0,.int .i64 0,.slice none 0 0,.string ⟨#[]⟩,.int .i64 0].toArray 90)):=((Kc w).alloc lr _).alloc (by simp) _;have hva0:=hva.below hB0 lr;obtain ⟨ta,tc,rfl,_⟩:=hva.shape;obtain ⟨ua,uc,rfl,_⟩:=hhd.shape;have HHD:=Kb hhd;clear hva hhd hr;go_enter Tryz.func120,Tryz.ntmps120;go_wp2_with fail;obtain ⟨W0,hW0⟩:∃ W0:World,(w.alloc (.cells (erC ⟨u,.slice ta xe.va.length tc,st,.slice ua xe.hd.length uc,bo,ti⟩).toArray 90)).alloc (.cells [.string ⟨#[]⟩,.slice none 0 0,.int .i64 0,.slice none 0 0,.string ⟨#[]⟩,.int .i64 0].toArray 90)=W0:=⟨_,rfl⟩
 obtain ⟨E,hE⟩:=Ka w.heap.size;obtain ⟨R,hR⟩:=Ka (w.heap.size+1);have hER:E<R:=by omega
 rw [hW0] at E0 R0 hB0 hva0;rw [hE] at E0 hB0;rw [hR] at R0;rw [hW0,hR,hE];have HE:=Kb hE;have hne:E≠R:=by omega
 clear hW0 hE hR;have el0:=E0.lt;have z0:=E0.c 0 rfl;have z1:=E0.c 1 rfl;have z2:=E0.c 2 rfl;have z3:=E0.c 3 rfl;have z4:=E0.c 4 rfl;have z5:=E0.c 5 rfl
 go_wp2_with (first
  | (go_at_call 69;refine (C1.out _ hva0).mono ?_;rintro e w1 hq;obtain ⟨v1,rfl,ho1,hb1⟩:=hq;obtain ⟨a1,k1,rfl,_,_,_⟩:=own_reads ho1;clear z0 z1 z2 z3 z4 z5;have E1:=E0.next hb1;have z1:=E1.c 1 rfl;have f1:=E1.f 1 rfl;have el1:=E1.lt;have E1s:=E1.set 1 (.slice a1 xe.va.length k1);have y_:=E1s.o6;have hB1:=hB0.trans (hb1.mono (Kl el0)))
  | (go_at_call 69;refine (C2.out _ (HHD.out.below (hB1.setCell (p:=⟨E,1,none⟩) lr _) (Jl HE.out))).mono ?_;rintro e w2 hq;obtain ⟨v2,rfl,ho2,hb2⟩:=hq;obtain ⟨a2,k2,rfl,_,_,_⟩:=own_reads ho2;clear y_;have hB2:=(hB1.setCell (p:=⟨E,1,none⟩) lr (.slice a1 xe.va.length k1)).trans (hb2.mono (by simp;have:=hB1.size;have:=HE.out;omega));have E2:=E1s.next hb2;have e3:=E2.c 3 rfl;have f3:=E2.f 3 rfl;have el2:=E2.lt;have E2s:=E2.set 3 (.slice a2 xe.hd.length k2);have x_:=E2s.o6;have R1:=((R0.next hb1).far ⟨E,1,none⟩ (.slice a1 xe.va.length k1) hne).next hb2;have R2:=R1.far ⟨E,3,none⟩ (.slice a2 xe.hd.length k2) hne;have r_:=R2.o6;have g_:=R2.of6;have rl:=R2.lt))
 have RF:=R2.setE6 rfl (.string u) (.slice a1 xe.va.length k1) (.int .i64 st) (.slice a2 xe.hd.length k2) (.string bo) (.int .i64 ti);have hBF:=below_setE6 (hB2.setCell (p:=⟨E,3,none⟩) lr (.slice a2 xe.hd.length k2)) (Kl hER) (.string u) (.slice a1 xe.va.length k1) (.int .i64 st) (.slice a2 xe.hd.length k2) (.string bo) (.int .i64 ti);have hE1:E<W0.heap.size:=el0;have hR1:R<W0.heap.size:=R0.lt;have hw01:=hb1.size;have hws:(w1.setCell ⟨E,1,none⟩ (.slice a1 xe.va.length k1)).heap.size=w1.heap.size:=World.size_setCell _ _ _;have n1:∀ g,(Value.slice a1 xe.va.length k1).ownBlock=some g->W0.heap.size<=g/\g<w1.heap.size:=fun g e=>⟨own_base ho1 e,hown_lt ho1 g e⟩
 have n2:∀ g,(Value.slice a2 xe.hd.length k2).ownBlock=some g->w1.heap.size<=g:=fun g e=>by have:=own_base ho2 e;omega
 have n1E:(Value.slice a1 xe.va.length k1).ownBlock≠some E:=fun e=>by have:=n1 _ e;omega
 have n1R:(Value.slice a1 xe.va.length k1).ownBlock≠some R:=fun e=>by have:=n1 _ e;omega
 have n2E:(Value.slice a2 xe.hd.length k2).ownBlock≠some E:=fun e=>by have:=n2 _ e;omega
 have n2R:(Value.slice a2 xe.hd.length k2).ownBlock≠some R:=fun e=>by have:=n2 _ e;omega
 have s1:=own_below (own_cell (o:=1) ho1 n1E (.slice a1 xe.va.length k1)) hb2 lr;have s1F:=own_setE6 (own_cell (o:=3) s1 n1E (.slice a2 xe.hd.length k2)) n1R (.string u) (.slice a1 xe.va.length k1) (.int .i64 st) (.slice a2 xe.hd.length k2) (.string bo) (.int .i64 ti);have s2F:=own_setE6 (own_cell (o:=3) ho2 n2E (.slice a2 xe.hd.length k2)) n2R (.string u) (.slice a1 xe.va.length k1) (.int .i64 st) (.slice a2 xe.hd.length k2) (.string bo) (.int .i64 ti);refine bodyPost_ret (ret6_run Tryz.results120 Tryz.sizeOf90 Tryz.isAgg90 _ _ R _ _ _ _ _ _ rfl RF) rfl ?_;have hEE:=HE.out;refine ⟨a1,a2,k1,k2,rfl,own_mono s1F (by omega),own_mono s2F (by rw [hws];omega),fun g e e2=>?_,by rw [hEE];exact hBF⟩;have:=n1 _ e;have:=n2 _ e2;omega
theorem ret6t_run {P:Program}{fn:Func}{q T r:Nat}(hr:fn.results = #[.cell q T,.tmp r])(hz:∀ w,(Go.sizeOf T).run P w = .ok 6 w)(ha:∀ w,(isAgg T).run P w = .ok true w)(tmps:Array Value)(W:World)(k:Nat)(a b c d e f x:Value)(h2:tmps.getD q undef = .pointer (some ⟨k,0,none⟩))(h3:tmps.getD r undef=x)(hA:AtL W k [a,b,c,d,e,f]):
 (results fn tmps).run P W = .ok (.tuple #[.agg #[a,b,c,d,e,f],x]) W:=by have c0:=hA.c 0 rfl;have c1:=hA.c 1 rfl;have c2:=hA.c 2 rfl;have c3:=hA.c 3 rfl;have c4:=hA.c 4 rfl;have c5:=hA.c 5 rfl;rw [Xg] at h2 h3;simp [results,hr,h2,h3,go_sem,hz,ha,c0,c1,c2,c3,c4,c5]
theorem CaIn.put {w:World}{jb B g n cap:Nat}{l:List Ee}(h:CaIn w jb B (.slice (some ⟨g,0,none⟩) n cap) l)(hl:l.length=n)(i:Nat)(hi:i<n)(y:Ee)(hy:Rd w y.1 y.2)(hf:FarE y jb (some g)):
 CaIn (eeput w g (i * 6) y) jb B (.slice (some ⟨g,0,none⟩) n cap) (l.set i y)/\RowBut w.heap.size jb (some g) w (eeput w g (i * 6) y):=by
 have hgj:g≠jb:=fun e=>h.ne (by rw [e];rfl);have hb:BelowBut w.heap.size g w (eeput w g (i * 6) y):=by rw [eeput_eq];exact BelowBut.setCells _ _ _ (BelowBut.refl _ _ _)
 have hr:RowBut w.heap.size jb (some g) w (eeput w g (i * 6) y):=hb.toRow jb;have ho:=eeown_put hl (own_eq h.own hl rfl) i hi y;refine ⟨⟨h.at_.but hb h.at_.lt (fun e=>hgj e.symm),own_eq ho (by rw [Zk,hl]) rfl,h.ne,Kg h.le hb.size,fun x hx=>?_,fun x hx=>?_⟩,hr⟩
 ·rcases List.mem_or_eq_of_mem_set hx with h1 | h1
  ·exact (h.rd x h1).row hr lr (h.far x h1)
  ·rw [h1];exact hy.row hr lr hf
 ·rcases List.mem_or_eq_of_mem_set hx with h1 | h1
  ·exact h.far x h1
  ·rw [h1];exact hf
theorem cato_fin6 {w W6 W7:World}{jb B Rb:Nat}{v:Value}{l l':List Ee}(hJ:CaIn w jb B v l)(hb:Below w.heap.size w W6)(h:CaTo W6 jb B v l' W7)(hfar:∀ y∈l',FarE y Rb none)(hR:w.heap.size<=Rb)(hR6:Rb<W6.heap.size)(x0 x1 x2 x3 x4 x5:Value):CaTo w jb B v l' (setE6 W7 Rb x0 x1 x2 x3 x4 x5):=by
 have hjl:=hJ.at_.lt;obtain ⟨⟨v',h1,h2⟩,h3⟩:=h;have h3':RowBut w.heap.size jb v.ownBlock w W7:=((RowBut.refl w.heap.size jb v.ownBlock w).below hb lr).trans (h3.mono hb.size);have hvo:v'.ownBlock≠some Rb:=fun e=>by
  rcases h2 Rb e with h4 | h4
  ·have:=hown_lt hJ.own Rb h4;omega
  ·omega
 have c:=fun (W:World) (h:CaIn W jb B v' l'/\RowBut w.heap.size jb v.ownBlock w W) (o:Nat) (x:Value)=>(show CaIn (W.setCell ⟨Rb,o,none⟩ x) jb B v' l'/\RowBut w.heap.size jb v.ownBlock w (W.setCell ⟨Rb,o,none⟩ x) from ⟨ca_set h.1 ⟨Rb,o,none⟩ x (by show Rb≠jb;omega) hvo hfar,h.2.setCell ⟨Rb,o,none⟩ (Or.inr (Or.inr hR)) x⟩)
 obtain ⟨h6,h7⟩:=c _ (c _ (c _ (c _ (c _ (c _ ⟨h1,h3'⟩ 0 x0) 1 x1) 2 x2) 3 x3) 4 x4) 5 x5;exact ⟨⟨v',h6,fun g e=>(h2 g e).imp id (fun h=>Kg hb.size h)⟩,h7⟩
end Go.Proofs.YtjdhaacmlpegoaaGreatDoor
