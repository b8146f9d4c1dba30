/- Part 24 of what the proof needs: HS2. -/
import Derived.Test.YtjdhaacmlpegoaaGreatDoorP22
import Derived.Test.YtjdhaacmlpegoaaGreatDoorP21
import Derived.Test.YtjdhaacmlpegoaaGreatDoorP01
set_option maxRecDepth 20000
set_option maxHeartbeats 16000000
namespace Go.Proofs.YtjdhaacmlpegoaaGreatDoor
open Go.RowKit
set_option linter.unusedSimpArgs false
set_option linter.unusedVariables false
theorem ask_use (jb B:Nat)(v:Value)(l:List Ee)(w:World)(hM:MaxAt w)(hJ:CaIn w jb B v l)(hz:∀ x∈l,HdSz x.2.va/\HdSz x.2.hd)(hl:l.length<=1000)(url:ByteArray)(rq:List Hd)(vr:Value)(hq:SlK hdC 2 w vr rq)(hzq:HdSz rq)(now:Int)(i:Nat)(hi:i<l.length)(x:Ee)(hx:l[i]=x)(hR:LastAt (fun x=>ansB x.2 url rq) l (i:Int))(d2 d3:Bool)(d4:Int)(hD:dirL rq=⟨false,d2,d3,d4⟩)(hu:useB ⟨false,d2,d3,d4⟩ x.2 now=true):
 Calls Tryz.prog 169 #[.pointer (some ⟨jb,0,none⟩),.string url,vr,.int .i64 now] w (AskQ w jb B v 2 x.2 [] (l.eraseIdx i ++ [x])):=by
 obtain ⟨F,hF⟩:∃ F,freshE x.2 now=F:=⟨_,rfl⟩
 obtain ⟨A,hA⟩:∃ A,ageE x.2.ti now=A:=⟨_,rfl⟩
 have hu2:(F && (!d2 && (decide (d4<0) || decide (A<=1000 * d4))))=true:=by rw [<-hu];unfold useB;rw [hF,hA]
 clear hu
 cases F with
 | false=>simp at hu2
 | true=>
   cases d2 with
   | true=>simp at hu2
   | false=>
     by_cases h0:d4<0
     ·have h4:decide (d4<0)=true:=decide_eq_true h0
      clear hu2 h0
      have hjl:=hJ.at_.lt
      obtain ⟨a,cap,rfl,hcap,hcm,ha⟩:=own_reads hJ.own
      rcases ha with ⟨_,h0⟩ | ⟨g,rfl,hBg,hgw,hcell⟩
      ·omega
      have hmx:x∈l:=by rw [<-hx];exact List.getElem_mem hi
      have hrdx:=hJ.rd x hmx
      have hzx:=hz x hmx
      have hmem:∀ y∈l.eraseIdx i ++ [x],y∈l:=by rw [<-hx];exact erase_mem l i hi
      have cc:∀ j u,(eeC x)[j]? = some u->w.cell? ⟨g,i * 6+j,none⟩=some u:=fun j u hu=>hcell _ _ (cellsK_get eelen l i hi j u (by rw [hx];exact hu))
      have R0:=AtL.new w pl0 178
      have hB0:Below w.heap.size w (w.alloc (.cells pl0.toArray 178)):=(Below.refl _ w).alloc lr _
      have J0:=hJ.below hB0 lr
      have q0:=hq.below hB0 lr
      have CF:=Lib.hid (find_is jb _ l _ J0.at_ J0.reads (fun x hx=>⟨J0.rd x hx,(hz x hx).1⟩) hl url rq vr q0 hzq _ hR)
      have CD:=Lib.hid (fun (w:World) hM hv=>(dir_is rq vr w hM hv hzq ⟨false,false,d3,d4⟩ hD).mono fun e w' (h:e=Ending.returned (dirA ⟨false,false,d3,d4⟩)/\Below w.heap.size w w')=>(show e=Ending.returned (.agg #[.bool false,.bool false,.bool d3,.int .i64 d4])/\Below w.heap.size w w' from h))
      have CM:=Lib.hid (fun (w:World) (hJ:CaIn w jb B (.slice (some ⟨g,0,none⟩) l.length cap) l)=>move_is jb B _ l w hJ i hi hl x hx)
      have CC:=Lib.hid (fun (w:World) (hr:Rd w x.1 x.2)=>cop_is x w hr hzx.1.1 hzx.2.1)
      have CFr:=Lib.hid (fun (w:World) (r:Er) hM (hr:Rd w r x.2)=>fresh_is r x.2 now w hM hr hzx.2 _ hF)
      have CAg:=Lib.hid (fun (w:World) (r:Er) (h:r.ti=x.2.ti)=>eage_is r now w A (by rw [h];exact hA))
      have hdb:=dirL_bd rq
      rw [hD] at hdb
      have hda : -1<=d4:=hdb.1
      have hdc:d4<1000000000:=hdb.2
      have hab:=ageE_bd x.2.ti now
      rw [hA] at hab
      have ha0:=hab.1
      have ha1:=hab.2
      have HM:=Lib.hid hM
      have HQ:=Lib.hid hq
      have HJ:=Lib.hid hJ
      have HI:=Lib.hid hi
      have HX:=Lib.hid hx
      have HRD:=Lib.hid hrdx
      have HMEM:=Lib.hid hmem
      have hshp:=hrdx.shp
      obtain ⟨sa,sc,rfl,_⟩:=hq.shape
      have hii:(i:Int)<(l.length:Int):=by omega
      have hi0:(0:Int)<=(i:Int):=by omega
      have hgj:g≠jb:=fun e=>hJ.ne (by rw [e];rfl)
      obtain ⟨⟨u,vv,st,hh,bo,ti⟩,xe⟩:=x
      obtain ⟨⟨a1,n1,k1,e1⟩,a2,n2,k2,e2⟩:=hshp
      have e1:vv = .slice a1 n1 k1:=e1
      have e2:hh = .slice a2 n2 k2:=e2
      subst e1 e2
      have HCC:=Lib.hid cc
      clear cc hcell hx hD hR hq hJ hz hM hrdx hmem hmx hF hA hab hdb hzx
      go_enter Tryz.func169,Tryz.ntmps169
      go_wp2_with (first
       | (go_at_call 119;with_reducible refine CF.out.mono ?_;rintro e w1 ⟨rfl,hb1⟩;have hB1:=hB0.trans (hb1.mono hB0.size))
       | (go_at_call 230;with_reducible refine (CD.out _ (HM.out.below hB1 lr) (HQ.out.below hB1 lr)).mono ?_;rintro e w2 ⟨rfl,hb2⟩;have hB2:=hB1.trans (hb2.mono hB1.size);have hB3:=hB2.alloc hB2.size (.cells #[.bool false,.bool false,.bool d3,.int .i64 d4] 228);have R3:=((R0.next hb1).next hb2).alloc (.cells #[.bool false,.bool false,.bool d3,.int .i64 d4] 228);have D3:=AtL.new w2 [.bool false,.bool false,.bool d3,.int .i64 d4] 228;have J3:=HJ.out.below hB3 lr;have j0:=J3.at_.c 0 rfl;have jl3:=J3.at_.lt;have c0:=(brl hB3 _ _ hgw).trans (HCC.out 0 _ rfl);have c1:=(brl hB3 _ _ hgw).trans (HCC.out 1 _ rfl);have c2:=(brl hB3 _ _ hgw).trans (HCC.out 2 _ rfl);have c3:=(brl hB3 _ _ hgw).trans (HCC.out 3 _ rfl);have c4:=(brl hB3 _ _ hgw).trans (HCC.out 4 _ rfl);have c5:=(brl hB3 _ _ hgw).trans (HCC.out 5 _ rfl);simp only [Nat.add_zero] at c0)
       | (go_at_call 120;refine (CC.out _ (HRD.out.below hB3 lr)).mono ?_;rintro e w4 hq4;obtain ⟨⟨⟨pu,pv,ps,ph,pb,pt⟩,pe⟩,rfl,hxe,hrd4,hb4,hnv,hnh⟩:=hq4;obtain ⟨⟨a3,n3,k3,e3⟩,a4,n4,k4,e4⟩:=hrd4.shp;have e3:pv = .slice a3 n3 k3:=e3;have e4:ph = .slice a4 n4 k4:=e4;subst e3 e4;have hxe:pe=xe:=hxe;subst hxe;have hrd4:Rd w4 ⟨pu,.slice a3 n3 k3,ps,.slice a4 n4 k4,pb,pt⟩ pe:=hrd4;have hnw:NewE (⟨pu,.slice a3 n3 k3,ps,.slice a4 n4 k4,pb,pt⟩,pe) (w2.heap.size+1):=⟨fun b off n k e=>(by have:=hnv b off n k e;simp at this;omega),fun b off n k e=>(by have:=hnh b off n k e;simp at this;omega)⟩;clear hnv hnh j0 c0 c1 c2 c3 c4 c5))
      obtain ⟨W5,hW5⟩:∃ W5:World,w4.alloc (.cells (eeC (⟨pu,.slice a3 n3 k3,ps,.slice a4 n4 k4,pb,pt⟩,pe)).toArray 90)=W5:=⟨_,rfl⟩
      have E5:=AtL.new w4 (eeC (⟨pu,.slice a3 n3 k3,ps,.slice a4 n4 k4,pb,pt⟩,pe)) 90
      have R5:=(R3.next hb4).alloc (.cells (eeC (⟨pu,.slice a3 n3 k3,ps,.slice a4 n4 k4,pb,pt⟩,pe)).toArray 90)
      have D5:=(D3.next hb4).alloc (.cells (eeC (⟨pu,.slice a3 n3 k3,ps,.slice a4 n4 k4,pb,pt⟩,pe)).toArray 90)
      have hB4:=hB3.trans (hb4.mono hB3.size)
      have hB5:=hB4.alloc hB4.size (.cells (eeC (⟨pu,.slice a3 n3 k3,ps,.slice a4 n4 k4,pb,pt⟩,pe)).toArray 90)
      have X5:=hrd4.below ((Below.refl _ w4).alloc lr (.cells (eeC (⟨pu,.slice a3 n3 k3,ps,.slice a4 n4 k4,pb,pt⟩,pe)).toArray 90)) lr
      rw [hW5] at E5 R5 D5 hB5 X5
      obtain ⟨Rb,hRb⟩:∃ Rb,w.heap.size=Rb:=⟨_,rfl⟩
      obtain ⟨Db,hDb⟩:∃ Db,w2.heap.size=Db:=⟨_,rfl⟩
      obtain ⟨Eb,hEb⟩:∃ Eb,w4.heap.size=Eb:=⟨_,rfl⟩
      have hRD:Rb<Db:=by have:=(R0.next hb1).next hb2;have:=this.lt;omega
      have hDE:Db<Eb:=by have:=(D3.next hb4).lt;omega
      rw [hEb] at E5
      rw [hDb] at D5 hnw
      rw [hRb] at R5
      have hgR:g<Rb:=by omega
      have hjR:jb<Rb:=by omega
      rw [hW5,hRb,hDb,hEb]
      have HRb:=Lib.hid hRb
      clear hW5 hRb hDb hEb R3 D3 J3 hB4 hrd4 hb4 hB3 hB2 hB1 hb1 hb2 R0 hB0 J0 q0
      have H5:=Lib.hid hB5
      have hz5:=hB5.size
      have X5:=Lib.hid X5
      clear hB5
      have z_:=E5.o6
      have y_:=D5.o4
      have el5:=E5.lt
      have dl5:=D5.lt
      have rl5:=R5.lt
      refine wp_region_held_drew (S:=(fun w'=>w'.cell? ⟨Eb,0,none⟩=some (.string pu)/\w'.cell? ⟨Eb,1,none⟩=some (.slice a3 n3 k3)/\w'.cell? ⟨Eb,2,none⟩=some (.int .i64 ps)/\w'.cell? ⟨Eb,3,none⟩=some (.slice a4 n4 k4)/\w'.cell? ⟨Eb,4,none⟩=some (.string pb)/\w'.cell? ⟨Eb,5,none⟩=some (.int .i64 pt)/\w'.cell? ⟨Db,1,none⟩=some (.bool false)/\w'.cell? ⟨Db,3,none⟩=some (.int .i64 d4))) (by kernel_rfl) ?_ (fun hHeld=>?_)
      ·exact ed_mk E5 D5 (Below.refl _ W5).drew
      refine tkH 0 ?_
      try simp only [Act.put,List.setIfInBounds_toArray,List.set_cons_zero,List.set_cons_succ]
      refine tkH 1 ?_
      try simp only [Act.put,List.setIfInBounds_toArray,List.set_cons_zero,List.set_cons_succ]
      refine wpAnyH_ready (rs:=[2]) (by kernel_rfl) (by simp) ?_
      refine AllReadyH.cons rfl (fun K hK=>?_) AllReadyH.nil
      go_simp
      go_wp2_with (go_at_call 231;(with_reducible refine (CFr.out _ ⟨pu,.slice a3 n3 k3,ps,.slice a4 n4 k4,pb,pt⟩ (HM.out.below (H5.out.trans ((Below.refl _ W5).drew.mono hz5)) lr) (X5.out.below (Below.refl _ W5).drew lr)).mono ?_);rintro e w6 ⟨rfl,hbb6⟩;have hb6:=(Below.refl _ W5).drew.trans hbb6)
      refine hK.out _ _ ?_ (fun hHeld2=>?_)
      ·exact ed_mk E5 D5 hb6
      clear hK K hHeld
      have hHeld:=hHeld2
      clear hHeld2
      refine tkH 3 ?_
      try simp only [Act.put,List.setIfInBounds_toArray,List.set_cons_zero,List.set_cons_succ]
      refine tkH 4 ?_
      try simp only [Act.put,List.setIfInBounds_toArray,List.set_cons_zero,List.set_cons_succ]
      refine tkH 5 ?_
      try simp only [Act.put,List.setIfInBounds_toArray,List.set_cons_zero,List.set_cons_succ]
      refine tkH 6 ?_
      try simp only [Act.put,List.setIfInBounds_toArray,List.set_cons_zero,List.set_cons_succ]
      refine tkH 7 ?_
      try simp only [Act.put,List.setIfInBounds_toArray,List.set_cons_zero,List.set_cons_succ]
      refine tkH 8 ?_
      try simp only [Act.put,List.setIfInBounds_toArray,List.set_cons_zero,List.set_cons_succ]
      refine tkH 9 ?_
      try simp only [Act.put,List.setIfInBounds_toArray,List.set_cons_zero,List.set_cons_succ]
      refine tkH 10 ?_
      try simp only [Act.put,List.setIfInBounds_toArray,List.set_cons_zero,List.set_cons_succ]
      refine tkH 11 ?_
      try simp only [Act.put,List.setIfInBounds_toArray,List.set_cons_zero,List.set_cons_succ]
      refine tkH 12 ?_
      try simp only [Act.put,List.setIfInBounds_toArray,List.set_cons_zero,List.set_cons_succ]
      refine skH 13 ?_
      try simp only [Act.put,List.setIfInBounds_toArray,List.set_cons_zero,List.set_cons_succ]
      refine skH 14 ?_
      try simp only [Act.put,List.setIfInBounds_toArray,List.set_cons_zero,List.set_cons_succ]
      refine skH 15 ?_
      try simp only [Act.put,List.setIfInBounds_toArray,List.set_cons_zero,List.set_cons_succ]
      refine skH 16 ?_
      try simp only [Act.put,List.setIfInBounds_toArray,List.set_cons_zero,List.set_cons_succ]
      refine skH 17 ?_
      try simp only [Act.put,List.setIfInBounds_toArray,List.set_cons_zero,List.set_cons_succ]
      refine skH 18 ?_
      try simp only [Act.put,List.setIfInBounds_toArray,List.set_cons_zero,List.set_cons_succ]
      refine skH 19 ?_
      try simp only [Act.put,List.setIfInBounds_toArray,List.set_cons_zero,List.set_cons_succ]
      refine tkH 20 ?_
      try simp only [Act.put,List.setIfInBounds_toArray,List.set_cons_zero,List.set_cons_succ]
      refine tkH 21 ?_
      try simp only [Act.put,List.setIfInBounds_toArray,List.set_cons_zero,List.set_cons_succ]
      refine wpAnyH_done (by kernel_rfl) ?_ _
      have hbL:=hb6
      have EL:=E5.next hbL
      have RL:=R5.next hbL
      have HBL:=H5.out.trans (hbL.mono hz5)
      have XL:=X5.out.below hbL lr
      have hzL:=HBL.size
      have elL:=EL.lt
      have rlL:=RL.lt
      clear z_ y_ hHeld
      have z_:=EL.o6
      go_wp2_with (go_at_call 123;refine (CM.out _ (HJ.out.below HBL lr)).mono ?_;rintro e w9 ⟨rfl,hto⟩;have R9:=RL.row hto.2 rlL (by omega) (own_ne (by omega) _ _);have E9:=EL.row hto.2 elL (by omega) (own_ne (by omega) _ _);clear z_;have z_:=E9.o6;have r_:=R9.o8;have g_:=R9.of8;have rl9:=R9.lt;have el9:=E9.lt)
      have X9:Rd w9 ⟨pu,.slice a3 n3 k3,ps,.slice a4 n4 k4,pb,pt⟩ pe:=XL.row (x:=(⟨pu,.slice a3 n3 k3,ps,.slice a4 n4 k4,pb,pt⟩,pe)) hto.2 lr (hnw.far (by omega) (own_ltN (by omega) _ _))
      exact bodyPost_ret (ret8_run Tryz.results169 Tryz.sizeOf178 Tryz.isAgg178 _ _ Rb _ _ _ _ _ _ _ _ rfl (R9.set8 rfl _ _ _ _ _ _ _ _)) rfl ⟨_,.slice none 0 0,rfl,rd_set8 (x:=(⟨pu,.slice a3 n3 k3,ps,.slice a4 n4 k4,pb,pt⟩,pe)) X9 (hnw.far (by omega) (fun b h=>by cases h)) _ _ _ _ _ _ _ _,slk0 _,cato_fin HJ.out HBL hto HMEM.out (Nat.le_of_eq HRb.out) rlL _ _ _ _ _ _ _ _,hnw.mono (by have hrb:=HRb.out;omega),fun b off n k e=>(by cases e)⟩
     ·have h4:decide (d4<0)=false:=decide_eq_false h0
      have h5:decide (A<=1000 * d4)=true:=by simpa [h4] using hu2
      have h40:0<=d4:=by omega
      clear hu2 h0
      have hjl:=hJ.at_.lt
      obtain ⟨a,cap,rfl,hcap,hcm,ha⟩:=own_reads hJ.own
      rcases ha with ⟨_,h0⟩ | ⟨g,rfl,hBg,hgw,hcell⟩
      ·omega
      have hmx:x∈l:=by rw [<-hx];exact List.getElem_mem hi
      have hrdx:=hJ.rd x hmx
      have hzx:=hz x hmx
      have hmem:∀ y∈l.eraseIdx i ++ [x],y∈l:=by rw [<-hx];exact erase_mem l i hi
      have cc:∀ j u,(eeC x)[j]? = some u->w.cell? ⟨g,i * 6+j,none⟩=some u:=fun j u hu=>hcell _ _ (cellsK_get eelen l i hi j u (by rw [hx];exact hu))
      have R0:=AtL.new w pl0 178
      have hB0:Below w.heap.size w (w.alloc (.cells pl0.toArray 178)):=(Below.refl _ w).alloc lr _
      have J0:=hJ.below hB0 lr
      have q0:=hq.below hB0 lr
      have CF:=Lib.hid (find_is jb _ l _ J0.at_ J0.reads (fun x hx=>⟨J0.rd x hx,(hz x hx).1⟩) hl url rq vr q0 hzq _ hR)
      have CD:=Lib.hid (fun (w:World) hM hv=>(dir_is rq vr w hM hv hzq ⟨false,false,d3,d4⟩ hD).mono fun e w' (h:e=Ending.returned (dirA ⟨false,false,d3,d4⟩)/\Below w.heap.size w w')=>(show e=Ending.returned (.agg #[.bool false,.bool false,.bool d3,.int .i64 d4])/\Below w.heap.size w w' from h))
      have CM:=Lib.hid (fun (w:World) (hJ:CaIn w jb B (.slice (some ⟨g,0,none⟩) l.length cap) l)=>move_is jb B _ l w hJ i hi hl x hx)
      have CC:=Lib.hid (fun (w:World) (hr:Rd w x.1 x.2)=>cop_is x w hr hzx.1.1 hzx.2.1)
      have CFr:=Lib.hid (fun (w:World) (r:Er) hM (hr:Rd w r x.2)=>fresh_is r x.2 now w hM hr hzx.2 _ hF)
      have CAg:=Lib.hid (fun (w:World) (r:Er) (h:r.ti=x.2.ti)=>eage_is r now w A (by rw [h];exact hA))
      have hdb:=dirL_bd rq
      rw [hD] at hdb
      have hda : -1<=d4:=hdb.1
      have hdc:d4<1000000000:=hdb.2
      have hab:=ageE_bd x.2.ti now
      rw [hA] at hab
      have ha0:=hab.1
      have ha1:=hab.2
      have HM:=Lib.hid hM
      have HQ:=Lib.hid hq
      have HJ:=Lib.hid hJ
      have HI:=Lib.hid hi
      have HX:=Lib.hid hx
      have HRD:=Lib.hid hrdx
      have HMEM:=Lib.hid hmem
      have hshp:=hrdx.shp
      obtain ⟨sa,sc,rfl,_⟩:=hq.shape
      have hii:(i:Int)<(l.length:Int):=by omega
      have hi0:(0:Int)<=(i:Int):=by omega
      have hgj:g≠jb:=fun e=>hJ.ne (by rw [e];rfl)
      obtain ⟨⟨u,vv,st,hh,bo,ti⟩,xe⟩:=x
      obtain ⟨⟨a1,n1,k1,e1⟩,a2,n2,k2,e2⟩:=hshp
      have e1:vv = .slice a1 n1 k1:=e1
      have e2:hh = .slice a2 n2 k2:=e2
      subst e1 e2
      have HCC:=Lib.hid cc
      clear cc hcell hx hD hR hq hJ hz hM hrdx hmem hmx hF hA hab hdb hzx
      go_enter Tryz.func169,Tryz.ntmps169
      go_wp2_with (first
       | (go_at_call 119;with_reducible refine CF.out.mono ?_;rintro e w1 ⟨rfl,hb1⟩;have hB1:=hB0.trans (hb1.mono hB0.size))
       | (go_at_call 230;with_reducible refine (CD.out _ (HM.out.below hB1 lr) (HQ.out.below hB1 lr)).mono ?_;rintro e w2 ⟨rfl,hb2⟩;have hB2:=hB1.trans (hb2.mono hB1.size);have hB3:=hB2.alloc hB2.size (.cells #[.bool false,.bool false,.bool d3,.int .i64 d4] 228);have R3:=((R0.next hb1).next hb2).alloc (.cells #[.bool false,.bool false,.bool d3,.int .i64 d4] 228);have D3:=AtL.new w2 [.bool false,.bool false,.bool d3,.int .i64 d4] 228;have J3:=HJ.out.below hB3 lr;have j0:=J3.at_.c 0 rfl;have jl3:=J3.at_.lt;have c0:=(brl hB3 _ _ hgw).trans (HCC.out 0 _ rfl);have c1:=(brl hB3 _ _ hgw).trans (HCC.out 1 _ rfl);have c2:=(brl hB3 _ _ hgw).trans (HCC.out 2 _ rfl);have c3:=(brl hB3 _ _ hgw).trans (HCC.out 3 _ rfl);have c4:=(brl hB3 _ _ hgw).trans (HCC.out 4 _ rfl);have c5:=(brl hB3 _ _ hgw).trans (HCC.out 5 _ rfl);simp only [Nat.add_zero] at c0)
       | (go_at_call 120;refine (CC.out _ (HRD.out.below hB3 lr)).mono ?_;rintro e w4 hq4;obtain ⟨⟨⟨pu,pv,ps,ph,pb,pt⟩,pe⟩,rfl,hxe,hrd4,hb4,hnv,hnh⟩:=hq4;obtain ⟨⟨a3,n3,k3,e3⟩,a4,n4,k4,e4⟩:=hrd4.shp;have e3:pv = .slice a3 n3 k3:=e3;have e4:ph = .slice a4 n4 k4:=e4;subst e3 e4;have hxe:pe=xe:=hxe;subst hxe;have hrd4:Rd w4 ⟨pu,.slice a3 n3 k3,ps,.slice a4 n4 k4,pb,pt⟩ pe:=hrd4;have hnw:NewE (⟨pu,.slice a3 n3 k3,ps,.slice a4 n4 k4,pb,pt⟩,pe) (w2.heap.size+1):=⟨fun b off n k e=>(by have:=hnv b off n k e;simp at this;omega),fun b off n k e=>(by have:=hnh b off n k e;simp at this;omega)⟩;clear hnv hnh j0 c0 c1 c2 c3 c4 c5))
      obtain ⟨W5,hW5⟩:∃ W5:World,w4.alloc (.cells (eeC (⟨pu,.slice a3 n3 k3,ps,.slice a4 n4 k4,pb,pt⟩,pe)).toArray 90)=W5:=⟨_,rfl⟩
      have E5:=AtL.new w4 (eeC (⟨pu,.slice a3 n3 k3,ps,.slice a4 n4 k4,pb,pt⟩,pe)) 90
      have R5:=(R3.next hb4).alloc (.cells (eeC (⟨pu,.slice a3 n3 k3,ps,.slice a4 n4 k4,pb,pt⟩,pe)).toArray 90)
      have D5:=(D3.next hb4).alloc (.cells (eeC (⟨pu,.slice a3 n3 k3,ps,.slice a4 n4 k4,pb,pt⟩,pe)).toArray 90)
      have hB4:=hB3.trans (hb4.mono hB3.size)
      have hB5:=hB4.alloc hB4.size (.cells (eeC (⟨pu,.slice a3 n3 k3,ps,.slice a4 n4 k4,pb,pt⟩,pe)).toArray 90)
      have X5:=hrd4.below ((Below.refl _ w4).alloc lr (.cells (eeC (⟨pu,.slice a3 n3 k3,ps,.slice a4 n4 k4,pb,pt⟩,pe)).toArray 90)) lr
      rw [hW5] at E5 R5 D5 hB5 X5
      obtain ⟨Rb,hRb⟩:∃ Rb,w.heap.size=Rb:=⟨_,rfl⟩
      obtain ⟨Db,hDb⟩:∃ Db,w2.heap.size=Db:=⟨_,rfl⟩
      obtain ⟨Eb,hEb⟩:∃ Eb,w4.heap.size=Eb:=⟨_,rfl⟩
      have hRD:Rb<Db:=by have:=(R0.next hb1).next hb2;have:=this.lt;omega
      have hDE:Db<Eb:=by have:=(D3.next hb4).lt;omega
      rw [hEb] at E5
      rw [hDb] at D5 hnw
      rw [hRb] at R5
      have hgR:g<Rb:=by omega
      have hjR:jb<Rb:=by omega
      rw [hW5,hRb,hDb,hEb]
      have HRb:=Lib.hid hRb
      clear hW5 hRb hDb hEb R3 D3 J3 hB4 hrd4 hb4 hB3 hB2 hB1 hb1 hb2 R0 hB0 J0 q0
      have H5:=Lib.hid hB5
      have hz5:=hB5.size
      have X5:=Lib.hid X5
      clear hB5
      have z_:=E5.o6
      have y_:=D5.o4
      have el5:=E5.lt
      have dl5:=D5.lt
      have rl5:=R5.lt
      have hwr:IntKind.i64.wrap (1000 * d4)=1000 * d4:=IntWalk.i64_in _ (by omega)
      refine wp_region_held_drew (S:=(fun w'=>w'.cell? ⟨Eb,0,none⟩=some (.string pu)/\w'.cell? ⟨Eb,1,none⟩=some (.slice a3 n3 k3)/\w'.cell? ⟨Eb,2,none⟩=some (.int .i64 ps)/\w'.cell? ⟨Eb,3,none⟩=some (.slice a4 n4 k4)/\w'.cell? ⟨Eb,4,none⟩=some (.string pb)/\w'.cell? ⟨Eb,5,none⟩=some (.int .i64 pt)/\w'.cell? ⟨Db,1,none⟩=some (.bool false)/\w'.cell? ⟨Db,3,none⟩=some (.int .i64 d4))) (by kernel_rfl) ?_ (fun hHeld=>?_)
      ·exact ed_mk E5 D5 (Below.refl _ W5).drew
      refine tkH 0 ?_
      try simp only [Act.put,List.setIfInBounds_toArray,List.set_cons_zero,List.set_cons_succ]
      refine tkH 1 ?_
      try simp only [Act.put,List.setIfInBounds_toArray,List.set_cons_zero,List.set_cons_succ]
      refine wpAnyH_ready (rs:=[2]) (by kernel_rfl) (by simp) ?_
      refine AllReadyH.cons rfl (fun K hK=>?_) AllReadyH.nil
      go_simp
      go_wp2_with (go_at_call 231;(with_reducible refine (CFr.out _ ⟨pu,.slice a3 n3 k3,ps,.slice a4 n4 k4,pb,pt⟩ (HM.out.below (H5.out.trans ((Below.refl _ W5).drew.mono hz5)) lr) (X5.out.below (Below.refl _ W5).drew lr)).mono ?_);rintro e w6 ⟨rfl,hbb6⟩;have hb6:=(Below.refl _ W5).drew.trans hbb6)
      refine hK.out _ _ ?_ (fun hHeld2=>?_)
      ·exact ed_mk E5 D5 hb6
      clear hK K hHeld
      have hHeld:=hHeld2
      clear hHeld2
      refine tkH 3 ?_
      try simp only [Act.put,List.setIfInBounds_toArray,List.set_cons_zero,List.set_cons_succ]
      refine tkH 4 ?_
      try simp only [Act.put,List.setIfInBounds_toArray,List.set_cons_zero,List.set_cons_succ]
      refine tkH 5 ?_
      try simp only [Act.put,List.setIfInBounds_toArray,List.set_cons_zero,List.set_cons_succ]
      refine tkH 6 ?_
      try simp only [Act.put,List.setIfInBounds_toArray,List.set_cons_zero,List.set_cons_succ]
      refine tkH 7 ?_
      try simp only [Act.put,List.setIfInBounds_toArray,List.set_cons_zero,List.set_cons_succ]
      refine tkH 8 ?_
      try simp only [Act.put,List.setIfInBounds_toArray,List.set_cons_zero,List.set_cons_succ]
      refine tkH 9 ?_
      try simp only [Act.put,List.setIfInBounds_toArray,List.set_cons_zero,List.set_cons_succ]
      refine tkH 10 ?_
      try simp only [Act.put,List.setIfInBounds_toArray,List.set_cons_zero,List.set_cons_succ]
      refine tkH 11 ?_
      try simp only [Act.put,List.setIfInBounds_toArray,List.set_cons_zero,List.set_cons_succ]
      refine tkH 12 ?_
      try simp only [Act.put,List.setIfInBounds_toArray,List.set_cons_zero,List.set_cons_succ]
      refine tkH 13 ?_
      try simp only [Act.put,List.setIfInBounds_toArray,List.set_cons_zero,List.set_cons_succ]
      refine tkH 14 ?_
      try simp only [Act.put,List.setIfInBounds_toArray,List.set_cons_zero,List.set_cons_succ]
      refine tkH 16 ?_
      try simp only [Act.put,List.setIfInBounds_toArray,List.set_cons_zero,List.set_cons_succ]
      refine tkH 17 ?_
      try simp only [Act.put,List.setIfInBounds_toArray,List.set_cons_zero,List.set_cons_succ]
      refine tkH 18 ?_
      try simp only [Act.put,List.setIfInBounds_toArray,List.set_cons_zero,List.set_cons_succ]
      refine wpAnyH_ready (rs:=[15]) (by kernel_rfl) (by simp) ?_
      refine AllReadyH.cons rfl (fun K hK=>?_) AllReadyH.nil
      go_simp
      go_wp2_with (go_at_call 232;(with_reducible refine (CAg.out _ ⟨pu,.slice a3 n3 k3,ps,.slice a4 n4 k4,pb,pt⟩ X5.out.ti).mono ?_);rintro e w7 ⟨rfl,hbb7⟩;have hb7:=hb6.trans (hbb7.mono hb6.size))
      refine hK.out _ _ ?_ (fun hHeld2=>?_)
      ·exact ed_mk E5 D5 hb7
      clear hK K hHeld
      have hHeld:=hHeld2
      clear hHeld2
      refine tkH 19 ?_
      try simp only [Act.put,List.setIfInBounds_toArray,List.set_cons_zero,List.set_cons_succ]
      refine tkH 20 ?_
      try simp only [Act.put,List.setIfInBounds_toArray,List.set_cons_zero,List.set_cons_succ]
      refine tkH 21 ?_
      try simp only [Act.put,List.setIfInBounds_toArray,List.set_cons_zero,List.set_cons_succ]
      refine wpAnyH_done (by kernel_rfl) ?_ _
      clear hwr
      have hbL:=hb7
      have EL:=E5.next hbL
      have RL:=R5.next hbL
      have HBL:=H5.out.trans (hbL.mono hz5)
      have XL:=X5.out.below hbL lr
      have hzL:=HBL.size
      have elL:=EL.lt
      have rlL:=RL.lt
      clear z_ y_ hHeld
      have z_:=EL.o6
      go_wp2_with (go_at_call 123;refine (CM.out _ (HJ.out.below HBL lr)).mono ?_;rintro e w9 ⟨rfl,hto⟩;have R9:=RL.row hto.2 rlL (by omega) (own_ne (by omega) _ _);have E9:=EL.row hto.2 elL (by omega) (own_ne (by omega) _ _);clear z_;have z_:=E9.o6;have r_:=R9.o8;have g_:=R9.of8;have rl9:=R9.lt;have el9:=E9.lt)
      have X9:Rd w9 ⟨pu,.slice a3 n3 k3,ps,.slice a4 n4 k4,pb,pt⟩ pe:=XL.row (x:=(⟨pu,.slice a3 n3 k3,ps,.slice a4 n4 k4,pb,pt⟩,pe)) hto.2 lr (hnw.far (by omega) (own_ltN (by omega) _ _))
      exact bodyPost_ret (ret8_run Tryz.results169 Tryz.sizeOf178 Tryz.isAgg178 _ _ Rb _ _ _ _ _ _ _ _ rfl (R9.set8 rfl _ _ _ _ _ _ _ _)) rfl ⟨_,.slice none 0 0,rfl,rd_set8 (x:=(⟨pu,.slice a3 n3 k3,ps,.slice a4 n4 k4,pb,pt⟩,pe)) X9 (hnw.far (by omega) (fun b h=>by cases h)) _ _ _ _ _ _ _ _,slk0 _,cato_fin HJ.out HBL hto HMEM.out (Nat.le_of_eq HRb.out) rlL _ _ _ _ _ _ _ _,hnw.mono (by have hrb:=HRb.out;omega),fun b off n k e=>(by cases e)⟩
end Go.Proofs.YtjdhaacmlpegoaaGreatDoor
