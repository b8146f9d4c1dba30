/- Part 15 of what the proof needs: JP JQ0 JE0 LX LS RA RB. -/
import Derived.Test.YtjdhaacmlpegoaaGreatDoorU14
set_option maxRecDepth 20000
set_option maxHeartbeats 16000000
set_option linter.unusedSimpArgs false
set_option linter.unusedVariables false
namespace Go.Proofs.YtjdhaacmlpegoaaGreatDoor
open Go.RowKit
def ConfQ (w:World)(jb B:Nat)(v:Value)(en:En)(l0:List Ee)(e:Ending)(w':World):Prop:=∃ (r r':Er),e = .returned (.tuple #[eeA (r,en),.bool true])/\Rd w' r en/\CaTo w jb B v (l0 ++ [(r',en)]) w'/\NewE (r,en) w.heap.size/\NewE (r',en) w.heap.size
theorem own_new {w:World}{B e s n:Nat}{v:Value}{xs:List Value}(h:w.ownsRow B e s v n xs):∀ b off m c,v = .slice (some ⟨b,off,none⟩) m c->B<=b:=fun b off m c hv=>by
 obtain ⟨a,cap,hv2,_,_,ha⟩:=own_reads h
 rw [hv2] at hv
 injection hv with e1 _ _
 rcases ha with ⟨h1,_⟩ | ⟨g,h1,hg,_⟩
 ·rw [h1] at e1;cases e1
 ·rw [h1] at e1
  injection e1 with e1
  injection e1 with e1
  omega
theorem far_own {w:World}{B e s n q:Nat}{o:Option Nat}{v:Value}{xs:List Value}{hs:List Hd}(h:w.ownsRow B e s v n xs)(hq:v.ownBlock≠some q)(ho:∀ b,v.ownBlock=some b->o≠some b):FarV hs v q o:=by
 intro _ b off m c hv;obtain ⟨a,cap,hv2,_,_,ha⟩:=own_reads h;rw [hv2] at hv;injection hv with e1 _ _;rcases ha with ⟨h1,_⟩ | ⟨g,h1,_⟩
 ·rw [h1] at e1;cases e1
 ·rw [h1] at e1 hv2;injection e1 with e1;injection e1 with e1;subst e1;have hob:v.ownBlock=some g:=by rw [hv2];rfl
  exact ⟨fun e2=>hq (by rw [hob,e2]),ho g hob⟩
theorem rowto_ne {v v':Value}{n k:Nat}(h:RowTo v v' n)(h1:v.ownBlock≠some k)(h2:k<n):v'.ownBlock≠some k:=fun e=>by
 rcases h k e with h3 | h3
 ·exact h1 h3
 ·omega
theorem copo_open {w:World}{u:ByteArray}{vv:Value}{st:Int}{hh:Value}{bo:ByteArray}{ti:Int}{xe:En}{e:Ending}{w':World}(h:CopO w (⟨u,vv,st,hh,bo,ti⟩,xe) e w'):
 ∃ (a b:Option Addr) (c d:Nat),e = .returned (.agg #[.string u,.slice a xe.va.length c,.int .i64 st,.slice b xe.hd.length d,.string bo,.int .i64 ti])/\w'.ownsRow w.heap.size 70 2 (.slice a xe.va.length c) xe.va.length (cellsK hdC xe.va)/\w'.ownsRow w.heap.size 70 2 (.slice b xe.hd.length d) xe.hd.length (cellsK hdC xe.hd)/\(∀ g,(Value.slice a xe.va.length c).ownBlock=some g->(Value.slice b xe.hd.length d).ownBlock≠some g)/\Below w.heap.size w w':=h
theorem slk_take {w:World}{hs:List Hd}{b off n c:Nat}(h:SlK hdC 2 w (.slice (some ⟨b,off,none⟩) n c) hs)(hn:hs.length=n)(k:Nat)(hk:k<n):SlK hdC 2 w (.slice (some ⟨b,off,none⟩) k c) (hs.take k)/\k<=c:=by
 rcases h with ⟨rfl,_⟩ | ⟨h0,b2,off2,cap,hv,e2,e3,h4,h5⟩
 ·simp at hn;omega
 ·injection hv with v1 v2 v3;injection v1 with v1;injection v1 with v4 v5 _;subst v3 v4 v5;have hlk:(hs.take k).length=k:=by rw [Jk];omega
  refine ⟨?_,by omega⟩;by_cases hz:k=0
  ·subst hz;exact .inl ⟨by simp,_,_,rfl,e3⟩
  ·refine .inr ⟨fun e=>by rw [e] at hlk;simp at hlk;omega,b,off,c,by rw [hlk],by omega,e3,h4,fun i hi j u hu=>?_⟩;rw [List.getElem_take] at hu;exact h5 i (by omega) j u hu
theorem HdSz.take {hs:List Hd}(h:HdSz hs)(k:Nat):HdSz (hs.take k):=⟨by rw [Jk];have:=h.1;omega,fun d hd=>h.2 d (Xk hd)⟩
theorem conf_no (jb B:Nat)(v:Value)(l:List Ee)(w:World)(hJ:CaIn w jb B v l)(hz:∀ x∈l,HdSz x.2.va/\HdSz x.2.hd)(hl:l.length<=1000)(url:ByteArray)(rq:List Hd)(vr:Value)(hq:SlK hdC 2 w vr rq)(hzq:HdSz rq)(vh:Value)(now:Int)(hR:LastAt (fun x=>ansB x.2 url rq) l (-1)):
 Calls Tryz.prog 73 #[.pointer (some ⟨jb,0,none⟩),.string url,vr,vh,.int .i64 now] w fun e w'=>e = .returned (.tuple #[.agg #[.string ⟨#[]⟩,.slice none 0 0,.int .i64 0,.slice none 0 0,.string ⟨#[]⟩,.int .i64 0],.bool false])/\CaTo w jb B v l w':=by
 have R0:=AtL.new w zE 90;have hB0:Below w.heap.size w (w.alloc (.cells zE.toArray 90)):=(Kc w).alloc lr _;have J0:=hJ.below hB0 lr;have q0:=hq.below hB0 lr;have CF:=Kb (find_is jb v l _ J0.at_ J0.reads (fun x hx=>⟨J0.rd x hx,(hz x hx).1⟩) hl url rq vr q0 hzq _ hR);have HJ:=Kb hJ;clear hJ hq hz hR J0 q0;go_enter Tryz.func73,Tryz.ntmps73;go_wp2_with (with_reducible refine CF.out.mono ?_;rintro e w1 ⟨rfl,hb1⟩;have hB1:=Kd hB0 hb1;have R1:=R0.next hb1;have rl1:=R1.lt;have r_:=R1.o6;have g_:=R1.of6)
 have RF:=R1.setE6 rfl (.string ⟨#[]⟩) (.slice none 0 0) (.int .i64 0) (.slice none 0 0) (.string ⟨#[]⟩) (.int .i64 0);exact bodyPost_ret (ret6t_run Tryz.results73 Tryz.sizeOf90 Tryz.isAgg90 _ _ w.heap.size _ _ _ _ _ _ _ rfl rfl RF) rfl ⟨rfl,cato_fin6 HJ.out hB1 (CaTo.refl (HJ.out.below hB1 lr)) (fun y hy=>FarE.new (HJ.out.rd y hy) lr) lr rl1 _ _ _ _ _ _⟩
theorem AtL.eq {W:World}{k:Nat}{vs vs':List Value}(h:AtL W k vs)(e:vs=vs'):AtL W k vs':=e ▸ h
theorem own_slice {w:World}{b e s n m c:Nat}{a:Option Addr}{xs:List Value}(h:w.ownsRow b e s (.slice a n c) n xs)(hm:n=m):w.ownsRow b e s (.slice a m c) n xs:=by subst hm;exact h
theorem ownb_len {a:Option Addr}{n c k:Nat}(h:(Value.slice a n c).ownBlock≠some k)(m:Nat):(Value.slice a m c).ownBlock≠some k:=by cases a <;> exact h
theorem rowto_len {v:Value}{a:Option Addr}{n c K:Nat}(h:RowTo v (.slice a n c) K)(m:Nat):RowTo v (.slice a m c) K:=by cases a <;> exact h
theorem set_erase {α:Type}(l:List α)(i:Nat)(y:α):(l.set i y).eraseIdx i=l.eraseIdx i:=by rw [List.eraseIdx_eq_take_drop_succ,List.eraseIdx_eq_take_drop_succ,List.take_set_of_le lr,List.drop_set_of_lt (by omega)]
theorem conf_last {w w':World}{jb B:Nat}{v:Value}{l:List Ee}{y:Ee}(h:CaTo w jb B v (l ++ [y]) w'):Rd w' y.1 y.2:=by obtain ⟨⟨v',h1,_⟩,_⟩:=h;exact h1.rd y (by simp)
theorem conf_rowbut {v v':Value}{jb n:Nat}{w w4 w':World}(hr:RowBut n jb v.ownBlock w w4)(h:RowTo v v' n)(hg:RowBut w4.heap.size jb v'.ownBlock w4 w')(hn:n<=w4.heap.size):RowBut n jb v.ownBlock w w':=
 ⟨hg.os.trans hr.os,hg.tape.trans hr.tape,hg.output.trans hr.output,Kg hr.size hg.size,fun k hk h1 h2=>(hg.block k (by omega) h1 (fun e=>by
  rcases h k e with h3 | h3
  ·exact h2 h3
  ·omega)).trans (hr.block k hk h1 h2)⟩
theorem N23{p:Prop}(h:p:=by
 have hcld:cl2.length<=900:=by omega
 have z0:=AEd.c 0 rfl;have z1:=AEd.c 1 rfl;have z2:=AEd.c 2 rfl;have z3:=AEd.c 3 rfl;have z4:=AEd.c 4 rfl;have z5:=AEd.c 5 rfl;have x0:=Xd.c 0 rfl;have x1:=Xd.c 1 rfl;have ael:=AEd.lt;have xdl:=Xd.lt;go_wp2_with (refine app2 slH wd (by rfl) (.tmp 59) (.tmp 61) (by rfl) N3 _ _ _ (by rfl) od [.string yn,.string yv] 1 wd.heap.size (by rfl) rfl (by rfl) (by intro u hu;simp at hu;rcases hu with rfl | rfl <;> rfl) (by decide) (by omega) (by omega) hNd ?_;intro v11 w11 o11 g11 f11;obtain ⟨ub,uk,rfl,_,_,_⟩:=own_reads o11;have A11:=AEd.grown g11 hned;clear z0 z1 z2 z3 z4 z5;have z3:=A11.c 3 rfl;have y3:=A11.f 3 rfl;have al11:=A11.lt)
 go_roundw
 case rel=>
  have hto:RowTo vb0 (.slice ub (cl2.length+1) uk) W5.heap.size:=fun g e=>by
   obtain ⟨g2,e2,e3⟩:=f11;rw [e] at e2;injection e2 with e2;subst e2;rcases e3 with e3 | e3
   ·exact htd g e3
   ·right;have:=hbd.size;omega
  have hne:=rowto_ne hto HVB.out hE5;exact ⟨kk+1,cl2 ++ [(yn,yv)],ub,uk,by omega,by go_num,HST,by simp;omega,AtL.eq (A11.set 3 _) (by simp),own_eq (own_cell (o:=3) (own_slice o11 (by simp)) (ownb_len hne _) _) (by simp) (by rw [cellsK_app];rfl),rowto_len hto _,(RowTo.grown htd hbd g11 hbd.size).setCell ⟨Eb,3,none⟩ (Or.inl rfl) _⟩
 case measure=>simp [intOf];omega
 ):p:=h
theorem conf_yes (jb B:Nat)(v:Value)(l:List Ee)(w:World)(hJ:CaIn w jb B v l)(hz:∀ x∈l,HdSz x.2.va/\HdSz x.2.hd)(hl:l.length<=1000)(url:ByteArray)(rq:List Hd)(vr:Value)(hq:SlK hdC 2 w vr rq)(hzq:HdSz rq)(hs:List Hd)(vh:Value)(hh:SlK hdC 2 w vh hs)(hzh:HdSz hs)(hhl:hs.length<=100)(now:Int)(i:Nat)(hi:i<l.length)(x:Ee)(hx:l[i]=x)(hxl:x.2.hd.length<=800)(hR:LastAt (fun x=>ansB x.2 url rq) l (i:Int)):
 Calls Tryz.prog 73 #[.pointer (some ⟨jb,0,none⟩),.string url,vr,vh,.int .i64 now] w (ConfQ w jb B v ⟨x.2.u,x.2.va,x.2.st,mergeL x.2.hd hs,x.2.bo,now⟩ (l.eraseIdx i)):=by
 have hjl:=hJ.at_.lt;obtain ⟨a,cap,rfl,hcap,hcm,ha⟩:=own_reads hJ.own;rcases ha with ⟨_,h0⟩ | ⟨g,rfl,hBg,hgw,hcell⟩
 ·omega
 have hmx:x∈l:=by rw [<-hx];exact Ky hi
 have hrdx:=hJ.rd x hmx;have hzx:=hz x hmx;have cc:∀ j u,(eeC x)[j]? = some u->w.cell? ⟨g,i * 6+j,none⟩=some u:=fun j u hu=>hcell _ _ (cellsK_get eelen l i hi j u (by rw [hx];exact hu));have R0:=AtL.new w zE 90;have hB0:Below w.heap.size w (w.alloc (.cells zE.toArray 90)):=(Kc w).alloc lr _;have J0:=hJ.below hB0 lr;have q0:=hq.below hB0 lr;have CF:=Kb (find_is jb _ l _ J0.at_ J0.reads (fun x hx=>⟨J0.rd x hx,(hz x hx).1⟩) hl url rq vr q0 hzq _ hR);have HJ:=Kb hJ;have HRD:=Kb hrdx;have HH:=Kb hh;have HZX:=Kb hzx;have hhz:=hzh.1;have HZH:=Kb hzh;have hshp:=hrdx.shp;obtain ⟨sa,sc,rfl,_⟩:=hq.shape;obtain ⟨ha,hc,rfl,_⟩:=hh.shape;have HHC:=Kb (hd_cells hh rfl);have hii:(i:Int)<(l.length:Int):=by omega
 have hi0:(0:Int)<=(i:Int):=by omega
 have hgj:g≠jb:=fun e=>hJ.ne (by rw [e];rfl);have HI:=Kb hi;have hin:¬ (i:Int)<0:=by omega
 obtain ⟨⟨u,vv,st,hh0,bo,ti⟩,xe⟩:=x;obtain ⟨⟨a1,n1,k1,e1⟩,a2,n2,k2,e2⟩:=hshp;have e1:vv = .slice a1 n1 k1:=e1;have e2:hh0 = .slice a2 n2 k2:=e2;subst e1 e2;have hxl:xe.hd.length<=800:=hxl;have CC:=Kb (fun (w:World) (hr:Rd w (⟨u,.slice a1 n1 k1,st,.slice a2 n2 k2,bo,ti⟩:Er) xe)=>cop_own (⟨u,.slice a1 n1 k1,st,.slice a2 n2 k2,bo,ti⟩,xe) w hr hzx.1.1 hzx.2.1);have HCC:=Kb cc;clear cc hcell hx hR hq hJ hz hrdx hmx hzx hh hzh hi J0 q0;go_enter Tryz.func73,Tryz.ntmps73
 go_upto_region 6 with (first
  | (with_reducible refine CF.out.mono ?_;rintro e w1 ⟨rfl,hb1⟩;have hB1:=Kd hB0 hb1;have R1:=R0.next hb1;have J3:=HJ.out.below hB1 lr;have j0:=J3.at_.c 0 rfl;have jl3:=J3.at_.lt;have c0:=(brl hB1 _ _ hgw).trans (HCC.out 0 _ rfl);have c1:=(brl hB1 _ _ hgw).trans (HCC.out 1 _ rfl);have c2:=(brl hB1 _ _ hgw).trans (HCC.out 2 _ rfl);have c3:=(brl hB1 _ _ hgw).trans (HCC.out 3 _ rfl);have c4:=(brl hB1 _ _ hgw).trans (HCC.out 4 _ rfl);have c5:=(brl hB1 _ _ hgw).trans (HCC.out 5 _ rfl);simp only [Ku] at c0)
  | (go_at_call 120;refine (CC.out _ (HRD.out.below hB1 lr)).mono ?_;rintro e w4 hq4;obtain ⟨a3,b3,c3',d3,rfl,hova,hovb,hdis,hb4⟩:=copo_open hq4;clear hq4 j0 c0 c1 c2 c3 c4 c5;skip))
 have hal5:=(Kc w4).alloc lr (.cells [.string u,.slice a3 xe.va.length c3',.int .i64 st,.slice b3 xe.hd.length d3,.string bo,.int .i64 now].toArray 90);have E5:=AtL.new w4 [.string u,.slice a3 xe.va.length c3',.int .i64 st,.slice b3 xe.hd.length d3,.string bo,.int .i64 now] 90;have R5:=(R1.next hb4).next hal5;have hB4:=Kd hB1 hb4;have hB5:=hB4.trans (hal5.mono hB4.size);have ova5:=own_below hova hal5 lr;have ovb5:=own_below hovb hal5 lr;have hva:=hown_lt hova;have hvb:=hown_lt hovb;obtain ⟨W5,hW5⟩:∃ W5:World,w4.alloc (.cells [.string u,.slice a3 xe.va.length c3',.int .i64 st,.slice b3 xe.hd.length d3,.string bo,.int .i64 now].toArray 90)=W5:=⟨_,rfl⟩
 obtain ⟨Rb,hRb⟩:=Ka w.heap.size;obtain ⟨Eb,hEb⟩:=Ka w4.heap.size;obtain ⟨N3,hN3⟩:=Ka w1.heap.size;have hE5:=E5.lt;rw [hW5] at E5 R5 hB5 ova5 ovb5 hE5;rw [hN3] at ova5 ovb5;rw [hEb] at E5 hva hvb hE5;rw [hRb] at R5;have hRN:Rb<N3:=by have:=R1.lt;omega
 have hNE:N3<=Eb:=by have:=hb4.size;omega
 have hwN:w.heap.size<=N3:=by omega
 have hgR:g<Rb:=by omega
 have hjR:jb<Rb:=by omega
 rw [show w4.alloc (.cells #[.string u,.slice a3 xe.va.length c3',.int .i64 st,.slice b3 xe.hd.length d3,.string bo,.int .i64 now] 90)=W5 from hW5,hRb,hEb];have HRb:=Kb hRb;obtain ⟨vb0,hvb0⟩:=Ka (Value.slice b3 xe.hd.length d3);have HVB:Hid (vb0.ownBlock≠some Eb):=Kb (fun e=>by rw [<-hvb0] at e;have:=hvb _ e;omega);have HDIS:Hid (∀ g,(Value.slice a3 xe.va.length c3').ownBlock=some g->vb0.ownBlock≠some g):=Kb (by rw [<-hvb0];exact hdis);have HVA:Hid ((Value.slice a3 xe.va.length c3').ownBlock≠some Eb):=Kb (fun e=>by have:=hva _ e;omega);have HOVB:Hid (W5.ownsRow N3 70 2 vb0 xe.hd.length (cellsK hdC xe.hd)):=Kb (by rw [<-hvb0];exact ovb5);have hto0:RowTo vb0 (.slice b3 xe.hd.length d3) W5.heap.size:=by rw [hvb0];exact RowTo.refl _ _
 have HB5:=Kb hB5;have HOVA:=Kb ova5;have HR5:=Kb R5;clear hW5 hRb hEb hN3 hvb0 R1 J3 hB4 hova hdis hb4 hB1 hb1 R0 hB0 hal5 hB5 hovb hva hvb ova5 R5 jl3;have z0:=E5.c 0 rfl;have z1:=E5.c 1 rfl;have z2:=E5.c 2 rfl;have z3:=E5.c 3 rfl;have z4:=E5.c 4 rfl;have z5:=E5.c 5 rfl;go_wp2_with fail;go_loopw [37] (fun iv wr=>∃ (kk:Nat) (cl:List Hd) (ca:Option Addr) (cc:Nat),kk<=hs.length/\iv = .int .i64 kk/\Hid (mergeL xe.hd (hs.take kk)=cl)/\cl.length<=800+kk/\AtL wr Eb [.string u,.slice a3 xe.va.length c3',.int .i64 st,.slice ca cl.length cc,.string bo,.int .i64 now]/\wr.ownsRow N3 70 2 (.slice ca cl.length cc) cl.length (cellsK hdC cl)/\RowTo vb0 (.slice ca cl.length cc) W5.heap.size/\RowBut W5.heap.size Eb vb0.ownBlock W5 wr) (fun iv _=>hs.length - (intOf iv).toNat);case atStart=>exact ⟨0,xe.hd,b3,d3,Kh _,rfl,Kb (merge_nil _),hxl,E5,ovb5,hto0,RowBut.refl _ _ _ _⟩
 case round=>
  obtain ⟨kk,cl,ca,cc,hk,rfl,HCL,hcl,AE,hown,hto,hbb⟩:=hrel;have hwz:=hbb.size;have hBw:Below N3 W5 wr:=hbb.lowB HOVB.out hNE (by omega);have hBW:Below w.heap.size w wr:=HB5.out.trans (hBw.mono hwN);have ael:=AE.lt;by_cases hlt:kk<hs.length
  ·obtain ⟨b0,off,rfl,hb0,hcell⟩:=HHC.out (by omega);have cc1:∀ j u,(hdC hs[kk])[j]? = some u->wr.cell? ⟨b0,off+kk * 2+j,none⟩=some u:=fun j u hu=>(brl hBW _ _ hb0).trans (hcell kk hlt j u hu);have hst:=merge_step xe.hd hs kk hlt _ rfl;have hsz:=HZH.out.2 _ (Ky hlt);obtain ⟨y,hy⟩:=Ka (hs[kk]);rw [hy] at cc1 hst hsz;rw [HCL.out] at hst;obtain ⟨yn,yv⟩:=y;have hyn:yn.size<=100000:=hsz.1;have c0:=cc1 0 _ rfl;have c1:=cc1 1 _ rfl;simp only [Ku] at c0;clear cc1 hsz hy hcell;have hki:(kk:Int)<(hs.length:Int):=by omega
   have hal:=(Kc wr).alloc lr (.cells (hdC (yn,yv)).toArray 70);have X0:=AtL.new wr (hdC (yn,yv)) 70;have AE0:=AE.next hal;have own0:=own_below hown hal lr;have hbb0:=hbb.below hal hwz;have hlt0:=hown_lt hown;obtain ⟨hpre0,hkc⟩:=slk_take (HH.out.below (hBW.trans (hal.mono hBW.size)) lr) rfl kk hlt;have hkc':(kk:Int)<=(hc:Int):=by omega
   have HDZ:Hid (∀ d∈cl,d.1.size<=100000):=Kb (fun d hd=>by
    rcases merge_mem xe.hd (hs.take kk) d (by rw [HCL.out];exact hd) with h1 | h1
    ·exact (HZX.out.2.2 d h1).1
    ·exact (HZH.out.2 d (Xk h1)).1)
   obtain ⟨R,hR⟩:=Ka (hasH (hs.take kk) (yn,yv));have hR2:(hdrL (hs.take kk) yn.data.toList).isSome=R:=hR;rw [hR] at hst;obtain ⟨V,hV⟩:=Ka ((hdrL (hs.take kk) yn.data.toList).getD ⟨#[]⟩);have CHd:=Kb (fun (w':World) hv=>hdr_at (hs.take kk) (.slice (some ⟨b0,off,none⟩) kk hc) yn w' hv (HZH.out.take kk) hyn V R hV hR2);have HST0:=Kb hst;clear hst hR hR2 hV HCL z0 z1 z2 z3 z4 z5;go_upto_region 9 with fail;obtain ⟨WA,hWA⟩:∃ WA:World,wr.alloc (.cells (hdC (yn,yv)).toArray 70)=WA:=⟨_,rfl⟩
   obtain ⟨X,hX⟩:=Ka wr.heap.size;rw [hWA] at hal X0 AE0 own0 hbb0 hpre0;rw [hX] at X0 hlt0 ael;rw [show wr.alloc (.cells #[.string yn,.string yv] 70)=WA from hWA,hX];have hXE:X≠Eb:=by omega
   have HXo:Hid ((Value.slice ca cl.length cc).ownBlock≠some X):=Kb (fun e=>by have:=hlt0 _ e;omega);clear hWA hX hal hlt0 c0 c1;have x0:=X0.c 0 rfl;have x1:=X0.c 1 rfl;have xl0:=X0.lt;have hpred:=hpre0.below (Kc WA).drew lr;cases R with
   | true=>
     have HST:Hid (mergeL xe.hd (hs.take (kk+1))=cl ++ [(yn,yv)]):=Kb HST0.out
     go_region_held3 (fun w'=>w'.cell? ⟨X,0,none⟩=some (.string yn)) (first | exact (brl (Kc WA).drew _ _ X0.lt).trans (X0.c 0 rfl) | exact (brl hb6 _ _ X0.lt).trans (X0.c 0 rfl) | go_keep)
      (first | ((with_reducible refine (CHd.out WA.drew hpred).mono ?_);rintro e w6 ⟨rfl,hbb6⟩;have hb6:=(Kc WA).drew.trans hbb6))
     have AE6:=AE0.next hb6;have X6:=X0.next hb6;have od6:=own_below own0 hb6 lr;have hbd6:=hbb0.below hb6 hbb0.size;clear x0 x1;go_upto_region 12 with fail;obtain ⟨wd,hwd⟩:=Ka w6;rw [hwd] at AE6 X6 od6 hbd6;rw [hwd];obtain ⟨cl2,hcl2⟩:=Ka cl;have htd:=hto;rw [hcl2] at AE6 od6 hcl HST htd;have AEd:=AE6;have Xd:=X6;have od:=od6;have hbd:=hbd6;have hcl3:=hcl;clear AE6 X6 od6 hbd6 hcl2 hwd hto hbb AE hown own0 AE0 X0 hbb0;have hned:=rowto_ne htd HVB.out hE5;have hNd:N3<=wd.heap.size:=by have:=hbd.size;omega
     exact N23
   | false=>
     have HST:Hid (mergeL xe.hd (hs.take (kk+1))=cl.filter (fun d=>!sameH (yn,yv) d) ++ [(yn,yv)]):=Kb HST0.out;have hfl:=Zj (fun d=>!sameH (yn,yv) d) cl
     go_region_held3 (fun w'=>w'.cell? ⟨X,0,none⟩=some (.string yn)) (first | exact (brl (Kc WA).drew _ _ X0.lt).trans (X0.c 0 rfl) | exact (brl hb6 _ _ X0.lt).trans (X0.c 0 rfl) | go_keep)
      (first | ((with_reducible refine (CHd.out WA.drew hpred).mono ?_);rintro e w6 ⟨rfl,hbb6⟩;have hb6:=(Kc WA).drew.trans hbb6))
     have AE6:=AE0.next hb6;have X6:=X0.next hb6;have od6:=own_below own0 hb6 lr;have hbd6:=hbb0.below hb6 hbb0.size;have hne6:=rowto_ne hto HVB.out hE5;clear x0 x1;have z0:=AE6.c 0 rfl;have z1:=AE6.c 1 rfl;have z2:=AE6.c 2 rfl;have z3:=AE6.c 3 rfl;have z4:=AE6.c 4 rfl;have z5:=AE6.c 5 rfl;have al6:=AE6.lt
     go_upto_region 12 with (first
      | (go_at_call 121;refine (hddel (fun d=>sameH (yn,yv) d) 122 #[.pointer (some ⟨X,0,none⟩)] (enters_of Tryz.func122 (by kernel_rfl) rfl) cl (.slice ca cl.length cc) w6 N3 od6 (fun W d hd hRB=>conf_clos (yn,yv) d X W (X6.row (hRB Eb) X6.lt hXE HXo.out) (HDZ.out d hd) hyn _ rfl) (by omega)).mono ?_;rintro e w7 hq7;obtain ⟨a7,c7,rfl,ho7,hob7,hr7⟩:=delq_open hq7;clear hq7 z0 z1 z2 z3 z4 z5;have AE7:=AE6.row (hr7 X) AE6.lt (fun e=>hXE e.symm) hne6;have X7:=X6.row (hr7 Eb) X6.lt hXE HXo.out;have z3:=AE7.c 3 rfl;have f3:=AE7.f 3 rfl;have al7:=AE7.lt))
     have hne7:(Value.slice a7 (cl.filter (fun d=>!sameH (yn,yv) d)).length c7).ownBlock≠some Eb:=by rw [hob7];exact hne6
     have hto7:RowTo vb0 (.slice a7 (cl.filter (fun d=>!sameH (yn,yv) d)).length c7) W5.heap.size:=fun g e=>hto g (by rw [<-hob7];exact e);have hbd7:=conf_rowbut hbd6 hto (hr7 Eb) hbd6.size;have AE8:=AE7.set 3 (.slice a7 (cl.filter (fun d=>!sameH (yn,yv) d)).length c7);have X8:=X7.far ⟨Eb,3,none⟩ (.slice a7 (cl.filter (fun d=>!sameH (yn,yv) d)).length c7) (fun e=>hXE e.symm);have od8:=own_cell (o:=3) ho7 hne7 (.slice a7 (cl.filter (fun d=>!sameH (yn,yv) d)).length c7);have hbd8:=hbd7.setCell ⟨Eb,3,none⟩ (Or.inl rfl) (.slice a7 (cl.filter (fun d=>!sameH (yn,yv) d)).length c7);obtain ⟨wd,hwd⟩:∃ wd:World,w7.setCell ⟨Eb,3,none⟩ (.slice a7 (cl.filter (fun d=>!sameH (yn,yv) d)).length c7)=wd:=⟨_,rfl⟩
     rw [hwd] at AE8 X8 od8 hbd8;rw [hwd];obtain ⟨cl2,hcl2⟩:=Ka (cl.filter (fun d=>!sameH (yn,yv) d));rw [hcl2] at AE8 od8 HST hto7 hfl;have htd:=hto7;have AEd:=AE8;have Xd:=X8;have od:=od8;have hbd:=hbd8;have hcl3:cl2.length<=800+kk:=by omega
     clear AE8 X8 od8 hbd8 hcl2 hwd hto hbb AE hown own0 AE0 X0 hbb0 AE6 X6 od6 hbd6 hbd7 AE7 X7 ho7 hob7 hr7 hne7 hto7 z3 f3 al7 al6;have hned:=rowto_ne htd HVB.out hE5;have hNd:N3<=wd.heap.size:=by have:=hbd.size;omega
     exact N23
  ·obtain rfl:kk=hs.length:=by omega
   have hCL:=HCL.out;rw [Jq] at hCL;obtain ⟨Y,hY⟩:∃ Y:Ee,((⟨u,.slice a3 xe.va.length c3',st,.slice ca cl.length cc,bo,now⟩,⟨xe.u,xe.va,xe.st,mergeL xe.hd hs,xe.bo,now⟩):Ee)=Y:=⟨_,rfl⟩
   have Jr:=HJ.out.below hBW lr;have Rr:=HR5.out.row hbb (by have:=HR5.out.lt;exact this) (by omega) (fun e=>by have:=own_base HOVB.out e;omega);have sva:SlK hdC 2 wr (.slice a3 xe.va.length c3') xe.va:=slk_row (SlK.of_own hdC_len HOVA.out) hbb lr (far_own HOVA.out HVA.out (fun b e e2=>HDIS.out b e e2));have shd:SlK hdC 2 wr (.slice ca cl.length cc) (mergeL xe.hd hs):=by rw [hCL];exact SlK.of_own hdC_len hown
   have hYr:Rd wr Y.1 Y.2:=by rw [<-hY];exact ⟨HRD.out.u,HRD.out.st,HRD.out.bo,rfl,sva,shd⟩
   have hfar:∀ (q:Nat) (o:Option Nat),q<N3->(∀ b,o=some b->b<N3)->FarE Y q o:=fun q o hq ho=>by rw [<-hY];exact ⟨far_own HOVA.out (fun e=>by have:=own_base HOVA.out e;omega) (fun b e e2=>by have:=own_base HOVA.out e;have:=ho b e2;omega),far_own hown (fun e=>by have:=own_base hown e;omega) (fun b e e2=>by have:=own_base hown e;have:=ho b e2;omega)⟩
   have hYl:Y.2.va.length<=1000000/\Y.2.hd.length<=1000000:=by rw [<-hY];exact ⟨HZX.out.1.1,by show (mergeL xe.hd hs).length<=1000000;have:=merge_len xe.hd hs;omega⟩
   have hfr:=own_free Jr.own;have j0:=Jr.at_.c 0 rfl;have jlr:=Jr.at_.lt;have t0:=hfr (i * 6);have t1:=hfr (i * 6+1);have t2:=hfr (i * 6+2);have t3:=hfr (i * 6+3);have t4:=hfr (i * 6+4);have t5:=hfr (i * 6+5);have c0:=(brl hBW _ _ hgw).trans (HCC.out 0 _ rfl);have c1:=(brl hBW _ _ hgw).trans (HCC.out 1 _ rfl);have c2:=(brl hBW _ _ hgw).trans (HCC.out 2 _ rfl);have c3:=(brl hBW _ _ hgw).trans (HCC.out 3 _ rfl);have c4:=(brl hBW _ _ hgw).trans (HCC.out 4 _ rfl);have c5:=(brl hBW _ _ hgw).trans (HCC.out 5 _ rfl);simp only [Ku] at c0;have hgwr:g<wr.heap.size:=by have:=hBW.size;omega
   obtain ⟨J7,RB7⟩:=Jr.put rfl i HI.out Y hYr (hfar jb (some g) (by omega) (fun b e=>by injection e with e;omega));have HJ7:=Kb J7;have HRB7:=Kb RB7;have E7:=AE.row RB7 AE.lt (by omega) (fun e=>by injection e with e;omega);have R7:=Rr.row RB7 Rr.lt (by omega) (fun e=>by injection e with e;omega);have HFAR:=Kb hfar;have HNW:Hid (NewE ((⟨u,.slice a3 xe.va.length c3',st,.slice ca cl.length cc,bo,now⟩,⟨xe.u,xe.va,xe.st,mergeL xe.hd hs,xe.bo,now⟩):Ee) w.heap.size):=Kb ⟨fun b off n k e=>Kg hwN (own_new HOVA.out b off n k e),fun b off n k e=>Kg hwN (own_new hown b off n k e)⟩;have HY:=Kb hY;have HBW:=Kb hBW;have HYL:=Kb hYl;have HRW:Hid (Rb<wr.heap.size):=Kb Rr.lt;have y0:=AE.c 0 rfl;have y1:=AE.c 1 rfl;have y2:=AE.c 2 rfl;have y3:=AE.c 3 rfl;have y4:=AE.c 4 rfl;have y5:=AE.c 5 rfl;clear hCL sva shd hYr hfar hYl hfr Jr J7 RB7 Rr HCL z0 z1 z2 z3 z4 z5;go_wp2_with fail;go_region_with fail
   all_goals
    obtain ⟨W7,hW7⟩:∃ W7:World,(eeput wr g (i * 6) Y).drew=W7:=⟨_,rfl⟩
    rw [show ((((((wr.setCell ⟨g,i * 6,none⟩ (.string u)).setCell ⟨g,i * 6+1,none⟩ (.slice a3 xe.va.length c3')).setCell ⟨g,i * 6+2,none⟩ (.int .i64 st)).setCell ⟨g,i * 6+3,none⟩ (.slice ca cl.length cc)).setCell ⟨g,i * 6+4,none⟩ (.string bo)).setCell ⟨g,i * 6+5,none⟩ (.int .i64 now)).drew=W7 from by rw [<-hW7,<-HY.out]];have J8:=HJ7.out.below (Kc _).drew lr;have RB8:=HRB7.out.below (Below.refl wr.heap.size _).drew lr;have E8:=E7.drew;have R8:=R7.drew;rw [hW7] at J8 RB8 E8 R8;have HRB8:=Kb RB8;have CM:=Kb (move_is jb B _ (l.set i Y) W7 J8 i (by rw [Zk];exact HI.out) (by rw [Zk];exact hl) Y (by simp));have hgE:g≠Eb:=by omega
    have hjE:Eb≠jb:=by omega
    have hjR':Rb≠jb:=by omega
    have hgRb:g≠Rb:=by omega
    have CC2:=Kb (fun (w8:World) (hr:Rd w8 Y.1 Y.2)=>cop_is Y w8 hr HYL.out.1 HYL.out.2);have hEq:=HY.out;clear hW7 J8 RB8 E7 R7 j0 c0 c1 c2 c3 c4 c5 t0 t1 t2 t3 t4 t5 y0 y1 y2 y3 y4 y5 AE hown;rw [<-hEq] at CC2;clear hEq
    go_wp2_with (first
     | ((with_reducible refine CM.out.mono ?_);rintro e w8 ⟨rfl,hto8⟩;have E9:=E8.row hto8.2 E8.lt hjE (fun e=>by injection e with e;exact hgE e);have R9:=R8.row hto8.2 R8.lt hjR' (fun e=>by injection e with e;exact hgRb e);have HTO:=Kb hto8;have y0:=E9.c 0 rfl;have y1:=E9.c 1 rfl;have y2:=E9.c 2 rfl;have y3:=E9.c 3 rfl;have y4:=E9.c 4 rfl;have y5:=E9.c 5 rfl;have el9:=E9.lt;clear hto8)
     | (go_at_call 120;refine (CC2.out _ (by have h:=conf_last HTO.out;rw [<-HY.out] at h;exact h)).mono ?_;rintro e w9 hq9;obtain ⟨⟨⟨pu,pv,ps,ph,pb,pt⟩,pe⟩,rfl,hxe,hrd9,hb9,hnv,hnh⟩:=hq9;obtain ⟨⟨a9,n9,k9,e9⟩,a10,n10,k10,e10⟩:=Rd.shp hrd9;have e9:pv = .slice a9 n9 k9:=e9;have e10:ph = .slice a10 n10 k10:=e10;subst e9 e10;have hxe:pe=⟨xe.u,xe.va,xe.st,mergeL xe.hd hs,xe.bo,now⟩:=hxe;subst hxe;have R10:=R9.next hb9;clear y0 y1 y2 y3 y4 y5;have r_:=R10.o6;have f0:=R10.f 0 rfl;have f1:=R10.f 1 rfl;have f2:=R10.f 2 rfl;have f3:=R10.f 3 rfl;have f4:=R10.f 4 rfl;have f5:=R10.f 5 rfl;have rl10:=R10.lt))
    have RF:=R10.setE6 rfl (.string pu) (.slice a9 n9 k9) (.int .i64 ps) (.slice a10 n10 k10) (.string pb) (.int .i64 pt);have T9:=(CaTo.trans (l:=l) (RowTo.refl _ _) HRB8.out HTO.out).below hb9;rw [set_erase] at T9;have hR9:=R9.lt;have hfar9:∀ y∈l.eraseIdx i ++ [Y],FarE y Rb none:=fun y hy=>by
     rcases Kz.1 hy with h1 | h1
     ·exact FarE.new (HJ.out.rd y (Xr h1)) (Jl HRb.out)
     ·obtain rfl:=Jc.1 h1;exact HFAR.out Rb none hRN (fun b e=>by cases e)
    have TF:=cato_fin6 HJ.out HBW.out T9 hfar9 (Jl HRb.out) HRW.out (.string pu) (.slice a9 n9 k9) (.int .i64 ps) (.slice a10 n10 k10) (.string pb) (.int .i64 pt);rw [<-HY.out] at TF;have hf1:FarV xe.va (.slice a9 n9 k9) Rb none:=fun _ b off n c e=>⟨by have:=hnv b off n c e;omega,by simp⟩
    have hf2:FarV (mergeL xe.hd hs) (.slice a10 n10 k10) Rb none:=fun _ b off n c e=>⟨by have:=hnh b off n c e;omega,by simp⟩
    exact bodyPost_ret (ret6t_run Tryz.results73 Tryz.sizeOf90 Tryz.isAgg90 _ _ Rb _ _ _ _ _ _ _ rfl rfl RF) rfl ⟨⟨pu,.slice a9 n9 k9,ps,.slice a10 n10 k10,pb,pt⟩,_,rfl,⟨hrd9.u,hrd9.st,hrd9.bo,hrd9.ti,slk_setE6 hrd9.va hf1 _ _ _ _ _ _,slk_setE6 hrd9.hd hf2 _ _ _ _ _ _⟩,TF,⟨fun b off n k e=>by have:=hnv b off n k e;have:=HRb.out;omega,fun b off n k e=>by have:=hnh b off n k e;have:=HRb.out;omega⟩,HNW.out⟩
theorem map_get2 {lx l:List Ee}(h:lx.map (·.2)=l.map (·.2))(j:Nat)(hj:j<lx.length)(hj2:j<l.length):lx[j].2=l[j].2:=by have:=Kq (fun z=>z[j]?) h;simp only [Zh,Jd hj,Jd hj2,Option.map_some,Js] at this;exact this
theorem lastAt_of_map2 (p:En->Bool){lx l:List Ee}(h:lx.map (·.2)=l.map (·.2)){R:Int}(hR:LastAt (fun x=>p x.2) l R):LastAt (fun x=>p x.2) lx R:=by
 have hl:lx.length=l.length:=by have:=Kq List.length h;simpa using this
 rcases hR with ⟨h1,h2⟩ | ⟨k,hk,h1,h2,h3⟩
 ·exact .inl ⟨h1,fun j hj=>by show p lx[j].2=false;rw [map_get2 h j hj (by omega)];exact h2 j (by omega)⟩
 ·exact .inr ⟨k,by omega,h1,by show p lx[k].2=true;rw [map_get2 h k (by omega) hk];exact h2,fun j hj hlt=>by show p lx[j].2=false;rw [map_get2 h j hj (by omega)];exact h3 j (by omega) hlt⟩
theorem erase_map {α β:Type}(f:α->β)(l:List α)(i:Nat):(l.eraseIdx i).map f=(l.map f).eraseIdx i:=by rw [List.eraseIdx_eq_take_drop_succ,List.eraseIdx_eq_take_drop_succ,Zi,List.map_take,List.map_drop]
def ConfR (w:World)(jb B:Nat)(v:Value)(l:List Ee)(ok:Bool)(en:En)(es:List En)(e:Ending)(w':World):Prop:=
 ∃ (u:ByteArray) (a1:Option Addr) (n1 k1:Nat) (st:Int) (a2:Option Addr) (n2 k2:Nat) (bo:ByteArray) (ti:Int) (L:List Ee),e = .returned (.tuple #[.agg #[.string u,.slice a1 n1 k1,.int .i64 st,.slice a2 n2 k2,.string bo,.int .i64 ti],.bool ok])/\Rd w' (⟨u,.slice a1 n1 k1,st,.slice a2 n2 k2,bo,ti⟩:Er) en/\NewE (⟨u,.slice a1 n1 k1,st,.slice a2 n2 k2,bo,ti⟩,en) w.heap.size/\CaTo w jb B v L w'/\L.map (·.2)=es/\∀ y∈L,y∈l\/NewE y w.heap.size
def confE (e:En)(hs:List Hd)(now:Int):En:=⟨e.u,e.va,e.st,mergeL e.hd hs,e.bo,now⟩
theorem conf_any (l:List Ee)(url:ByteArray)(rq hs:List Hd)(now:Int)(hz:∀ x∈l,HdSz x.2.va/\HdSz x.2.hd)(hl:l.length<=1000)(hzq:HdSz rq)(hzh:HdSz hs)(hhl:hs.length<=100)(hxl:∀ x∈l,x.2.hd.length<=800)(R:Int)(hR:LastAt (fun x:Ee=>ansB x.2 url rq) l R):
 ∃ (ok : Bool) (en : En) (es : List En), ((R = -1 ∧ ok = false ∧ en = en0 ∧ es = l.map (·.2)) ∨ ∃ i, ∃ hi : i < l.length, R = (i : Int) ∧ ok = true ∧ en = confE l[i].2 hs now ∧ es = (l.map (·.2)).eraseIdx i ++ [en]) ∧ en.va.length ≤ 1000000 ∧ en.hd.length ≤ 1000000 ∧
   ∀ (lx:List Ee),lx.map (·.2)=l.map (·.2)->(∀ x∈lx,HdSz x.2.va/\HdSz x.2.hd)->∀ (jb B:Nat) (v:Value) (w:World) (vr vh:Value),CaIn w jb B v lx->SlK hdC 2 w vr rq->SlK hdC 2 w vh hs->Calls Tryz.prog 73 #[.pointer (some ⟨jb,0,none⟩),.string url,vr,vh,.int .i64 now] w (ConfR w jb B v lx ok en es):=by
 have hll:∀ lx:List Ee,lx.map (·.2)=l.map (·.2)->lx.length=l.length:=fun lx h=>by have:=Kq List.length h;simpa using this
 have hLX:∀ lx:List Ee,lx.map (·.2)=l.map (·.2)->LastAt (fun x:Ee=>ansB x.2 url rq) lx R:=fun lx h=>lastAt_of_map2 (fun e=>ansB e url rq) h hR;have hbd:=hR.bd;by_cases hR1:R = -1
 ·subst hR1;refine ⟨false,en0,_,.inl ⟨rfl,rfl,rfl,rfl⟩,by decide,by decide,fun lx h hzx jb B v w vr vh hJ hq hh=>?_⟩;refine (conf_no jb B v lx w hJ hzx (by rw [hll lx h];exact hl) url rq vr hq hzq vh now (hLX lx h)).mono ?_;rintro e w' ⟨rfl,h2⟩;exact ⟨⟨#[]⟩,none,0,0,0,none,0,0,⟨#[]⟩,0,lx,rfl,rd0 _,⟨fun b off n k e=>(by cases e),fun b off n k e=>(by cases e)⟩,h2,h,fun y hy=>.inl hy⟩
 ·obtain ⟨i,rfl⟩:∃ i:Nat,R=(i:Int):=⟨R.toNat,by omega⟩
  have hi:i<l.length:=by omega
  have hzi:=hz _ (Ky hi);have hxi:=hxl _ (Ky hi);have hml:=merge_len l[i].2.hd hs;refine ⟨true,confE l[i].2 hs now,_,.inr ⟨i,hi,rfl,rfl,rfl,rfl⟩,hzi.1.1,by show (mergeL l[i].2.hd hs).length<=1000000;omega,fun lx h hzx jb B v w vr vh hJ hq hh=>?_⟩;have hi2:i<lx.length:=by rw [hll lx h];exact hi
  have he:=map_get2 h i hi2 hi;refine (conf_yes jb B v lx w hJ hzx (by rw [hll lx h];exact hl) url rq vr hq hzq hs vh hh hzh hhl now i hi2 _ rfl (by rw [he];exact hxi) (hLX lx h)).mono ?_;rintro e w' ⟨r,r',rfl,h2,h3,h4,h5⟩;rw [he] at h2 h3 h4 h5;have hs2:=Rd.shp (x:=(r,_)) h2;obtain ⟨⟨a1,n1,k1,e1⟩,a2,n2,k2,e2⟩:=hs2;obtain ⟨u,vv,st,hh2,bo,ti⟩:=r;have e1:vv = .slice a1 n1 k1:=e1;have e2:hh2 = .slice a2 n2 k2:=e2;subst e1 e2;refine ⟨u,a1,n1,k1,st,a2,n2,k2,bo,ti,_,rfl,h2,h4,h3,?_,fun y hy=>?_⟩
  ·rw [Zi,erase_map,h];rfl
  ·rcases Kz.1 hy with h6 | h6
   ·exact .inl (Xr h6)
   ·obtain rfl:=Jc.1 h6;exact .inr h5
abbrev keepE (es:List En)(url:ByteArray)(rq:List Hd):List En:=es.filter (fun x=>!ansB x url rq)
theorem map_filter_en (l:List Ee)(es:List En)(h:l.map (·.2)=es)(p:En->Bool):(l.filter (fun x=>p x.2)).map (·.2)=es.filter p:=by subst h;rw [List.filter_map];rfl
abbrev putEs (es:List En)(url:ByteArray)(rq:List Hd)(st:Int)(hs:List Hd)(body:ByteArray)(now:Int)(S:Bool):List En:=keepE es url rq ++ (if S then [⟨url,varyE rq hs,st,hs,body,now⟩] else [])
theorem varyE_len (rq hs:List Hd)(hz:HdSz hs):(varyE rq hs).length<=1000000:=by
 have h1:∀ (L:List (List UInt8)) (va:List Hd),(L.foldl (vstep rq) va).length<=va.length+L.length:=by
  intro L
  induction L with
  | nil=>intro va;simp
  | cons x L ih=>
    intro va
    have h:=ih (vstep rq va x)
    have h2:(vstep rq va x).length<=va.length+1:=by unfold vstep;split <;> simp
    simp only [Xc,Kv]
    omega
 have h2:(varyL hs).length<=100001:=by unfold varyL wordsL;refine Kg (Zj _ _) ?_;rw [Za];have h3:=segs_count 44 ((hdrL hs [118,97,114,121]).getD ⟨#[]⟩).data.toList;rw [size_len] at h3;have h4:=hdr_size hs [118,97,114,121] hz;omega
 have:=h1 (varyL hs) [];unfold varyE;simp at this;omega
theorem HdSz.vary {rq hs:List Hd}(hq:HdSz rq)(hh:HdSz hs):HdSz (varyE rq hs):=by
 refine ⟨varyE_len rq hs hh,?_⟩;have h0:∀ p∈varyL hs,p.length<=100000:=fun p hp=>by have h1:=words_size ((hdrL hs [118,97,114,121]).getD ⟨#[]⟩).data.toList p hp;rw [size_len] at h1;have:=hdr_size hs [118,97,114,121] hh;omega
 have:∀ (L:List (List UInt8)) (va:List Hd),(∀ p∈L,p.length<=100000)->(∀ d∈va,d.1.size<=100000/\d.2.size<=100000)->∀ d∈L.foldl (vstep rq) va,d.1.size<=100000/\d.2.size<=100000:=by
  intro L
  induction L with
  | nil=>intro va _ h;exact h
  | cons x L ih=>
    intro va hL hva
    refine ih _ (fun p hp=>hL p (Jg _ hp)) (fun d hd=>?_)
    unfold vstep at hd
    split at hd
    ·exact hva d hd
    ·rcases Kz.1 hd with h1 | h1
     ·exact hva d h1
     ·obtain rfl:=Jc.1 h1
      refine ⟨?_,hdr_size rq _ hq⟩
      have h2:=hL x Jz
      have h3:(bs (lowL x)).size=x.length:=by
       rw [<-size_len]
       show (lowL x).length=_
       simp [lowL]
      show (bs (lowL x)).size<=100000
      omega
 exact this _ [] h0 (fun d hd=>by cases hd)
theorem parse_none (t:ByteArray)(w:World)(hs:t.size<=300000)(hM:MaxAt w)(h:parseL t.data.toList=none):
 Calls Tryz.prog 28 #[.string t] w fun x w'=>x = .returned (.tuple #[.agg #[.string ⟨#[]⟩,.string ⟨#[]⟩,.string ⟨#[]⟩,.string ⟨#[]⟩,.string ⟨#[]⟩,.string ⟨#[]⟩],.int .i64 4])/\Below w.heap.size w w':=by have:=parse_any t w hs hM;rw [h] at this;exact this
theorem parse_some (t:ByteArray)(w:World)(hs:t.size<=300000)(hM:MaxAt w)(a b c d e f:ByteArray)(h:parseL t.data.toList=some (a.data.toList,b.data.toList,c.data.toList,d.data.toList,e.data.toList,f.data.toList)):
 Calls Tryz.prog 28 #[.string t] w fun x w'=>x = .returned (.tuple #[.agg #[.string a,.string b,.string c,.string d,.string e,.string f],.int .i64 0])/\Below w.heap.size w w':=by have:=parse_any t w hs hM;rw [h] at this;exact this
theorem list_bytes (l:List UInt8):∃ t:ByteArray,t.data.toList=l:=⟨⟨l.toArray⟩,rfl⟩
theorem valid_is (a b c d e f:ByteArray)(w:World)(ha:a.size<=40000)(hb:b.size<=40000)(hc:c.size<=40000)(hd:d.size<=40000)(he:e.size<=40000)(hf:f.size<=40000)(hM:MaxAt w)(B:Bool)(hB:validB (a.data.toList,b.data.toList,c.data.toList,d.data.toList,e.data.toList,f.data.toList)=B):
 Calls Tryz.prog 49 #[.agg #[.string a,.string b,.string c,.string d,.string e,.string f]] w fun x w'=>x = .returned (.bool B)/\Below w.heap.size w w':=by rw [<-hB];exact valid_any a b c d e f w ha hb hc hd he hf hM
theorem brule {B:Nat}{w0 w1:World}(hb:Below B w0 w1):∀ b o,b<B->w1.cell? ⟨b,o,none⟩=w0.cell? ⟨b,o,none⟩:=fun b o h=>hb.cell (p:=⟨b,o,none⟩) h
def dirN (l:List UInt8):Nat->Nat
 | 0=>0
 | k+1=>if l[k]? = some 47 then k+1 else dirN l k
theorem dirN_le (l:List UInt8):∀ k,dirN l k<=k
 | 0=>lr
 | k+1=>by
   unfold dirN
   have:=dirN_le l k
   split <;> omega
def resolveL (u:U6)(v:Bool)(t:List UInt8):Option U6:=
 if schemeOk t=true then parseL t
 else if v=false then none
 else if t=[] then some (u.1,u.2.1,u.2.2.1,u.2.2.2.1,u.2.2.2.2.1,[])
 else if t.head? = some 35 then some (u.1,u.2.1,u.2.2.1,u.2.2.2.1,u.2.2.2.2.1,conv (innerL ++ [63]) true t.tail)
 else if u.1=aboutL then none
 else if t.take 2=[47,47] then parseL (u.1 ++ 58 :: t)
 else if t.head? = some 47 then parseL (placeL u ++ t)
 else if t.head? = some 63 then parseL (placeL u ++ u.2.2.2.1 ++ t)
 else parseL (placeL u ++ u.2.2.2.1.take (dirN u.2.2.2.1 u.2.2.2.1.length) ++ t)
theorem getb (s:ByteArray)(k:Nat)(h:k<s.size):s.data.toList[k]? = some s[k]:=by rw [Jd (by rw [size_len];exact h)];rfl
theorem lastIdx_dir (s:ByteArray):∀ k,k<=s.size->Lib.lastIdx s 47 k+1=(dirN s.data.toList k:Int)
 | 0,_=>rfl
 | k+1,hk=>by
   have ih:=lastIdx_dir s k (by omega)
   have hg:s.data[k]! = s[k]:=by
    rw [getElem!_pos s.data k (show k+1<=s.size from hk)];rfl
   unfold Lib.lastIdx dirN
   rw [hg,getb s k (by omega)]
   by_cases h:s[k]=47
   ·rw [Kf (by rw [h];rfl),Kf (by rw [h])];omega
   ·rw [Ke (fun e=>h (UInt8.toNat_inj.1 (by rw [show (47:UInt8).toNat=47 from rfl];omega))),Ke (fun e=>h (Zl e)),ih]
theorem res_at {fn:Func}{i j:Nat}(hr:fn.results = #[.cell i 37,.tmp j])(tmps:Array Value)(w:World)(k:Nat)(a b c d e f x:Value)(h2:tmps.getD i undef = .pointer (some ⟨k,0,none⟩))(h3:tmps.getD j undef=x)
 (h:w.cell? ⟨k,0,none⟩=some a/\w.cell? ⟨k,1,none⟩=some b/\w.cell? ⟨k,2,none⟩=some c/\w.cell? ⟨k,3,none⟩=some d/\w.cell? ⟨k,4,none⟩=some e/\w.cell? ⟨k,5,none⟩=some f) :
 (results fn tmps).run Tryz.prog w = .ok (.tuple #[.agg #[a,b,c,d,e,f],x]) w:=by obtain ⟨c0,c1,c2,c3,c4,c5⟩:=h;rw [Xg] at h2 h3;simp [results,hr,h2,h3,go_sem,c0,c1,c2,c3,c4,c5]
theorem url_at {fn:Func}{i j:Nat}(hr:fn.results = #[.cell i 37,.tmp j])(tmps:Array Value)(W:World)(k:Nat)(hW:Blank W k)(a b c d e f x:Value)(h2:tmps.getD i undef = .pointer (some ⟨k,0,none⟩))(h3:tmps.getD j undef=x):
 (results fn tmps).run Tryz.prog (set6 W k a b c d e f) = .ok (.tuple #[.agg #[a,b,c,d,e,f],x]) (set6 W k a b c d e f):=res_at hr tmps _ k a b c d e f x h2 h3 (set6_at hW a b c d e f)
theorem below_set6 {B M:Nat}{w w':World}(h:Below B w w')(hM:B<=M)(a b c d e f:Value):Below B w (set6 w' M a b c d e f):=
 (((((h.setCell hM _).setCell hM _).setCell hM _).setCell hM _).setCell hM _).setCell hM _
theorem frule {B:Nat}{w0 w1:World}(hb:Below B w0 w1):∀ b o,b<B->w1.frozen? ⟨b,o,none⟩=w0.frozen? ⟨b,o,none⟩:=fun b o h=>hb.frozen (p:=⟨b,o,none⟩) h
theorem parse_known (X:ByteArray)(hs:X.size<=300000):∃ (r1 r2 r3 r4 r5 r6:ByteArray) (B:Bool),resV (parseL X.data.toList) = .tuple #[.agg #[.string r1,.string r2,.string r3,.string r4,.string r5,.string r6],.int .i64 (if B then 0 else 4)]/\resB (parseL X.data.toList) = .tuple #[.agg #[.string r1,.string r2,.string r3,.string r4,.string r5,.string r6],.bool B]
 /\ (∀ w,MaxAt w->Calls Tryz.prog 28 #[.string X] w fun x w'=>x = .returned (.tuple #[.agg #[.string r1,.string r2,.string r3,.string r4,.string r5,.string r6],.int .i64 (if B then 0 else 4)])/\Below w.heap.size w w')
 /\ True:=by
 obtain ⟨a,b,c,d,e,f,h⟩:∃ a b c d e f:ByteArray,(parseL X.data.toList).getD noneU=(a.data.toList,b.data.toList,c.data.toList,d.data.toList,e.data.toList,f.data.toList):=by obtain ⟨a,b,c,d,e,f⟩:=(parseL X.data.toList).getD noneU;exact ⟨⟨a.toArray⟩,⟨b.toArray⟩,⟨c.toArray⟩,⟨d.toArray⟩,⟨e.toArray⟩,⟨f.toArray⟩,rfl⟩
 have h1:resV (parseL X.data.toList) = .tuple #[.agg #[.string a,.string b,.string c,.string d,.string e,.string f],.int .i64 (if (parseL X.data.toList).isSome then 0 else 4)]:=by rw [resV,h];rfl
 have h2:resB (parseL X.data.toList) = .tuple #[.agg #[.string a,.string b,.string c,.string d,.string e,.string f],.bool (parseL X.data.toList).isSome]:=by rw [resB,h];rfl
 refine ⟨a,b,c,d,e,f,(parseL X.data.toList).isSome,h1,h2,fun w hM=>?_,trivial⟩
 ·rw [<-h1];exact parse_any X w hs hM
theorem trim_is (s T:ByteArray)(w:World)(hs:s.size<=1000000)(hT:T.data.toList=trimL s.data.toList):Calls Tryz.prog 59 #[.string s] w fun x w'=>x = .returned (.string T)/\w=w':=by refine (trim_any s w hs).mono ?_;rintro x w' ⟨u,rfl,hu,hb⟩;exact ⟨by rw [byteArray_ext (hu.trans hT.symm)],hb⟩
theorem site_is (a b c d e f t:ByteArray)(w:World)(ha:a.size<=1000000)(hb:b.size<=1000000)(hc:c.size<=1000000)(ht:t.data.toList=placeL (a.data.toList,b.data.toList,c.data.toList,d.data.toList,e.data.toList,f.data.toList)):
 Calls Tryz.prog 68 #[.agg #[.string a,.string b,.string c,.string d,.string e,.string f]] w fun x w'=>x = .returned (.string t)/\Below w.heap.size w w':=by refine (site_any a b c d e f w ha hb hc).mono ?_;rintro x w' ⟨u,rfl,hu,hb⟩;exact ⟨by rw [byteArray_ext (hu.trans ht.symm)],hb⟩
structure Pre (a b c d e f s T:ByteArray):Prop where
 ha:a.size<=40000
 hb:b.size<=40000
 hc:c.size<=40000
 hd:d.size<=40000
 he:e.size<=40000
 hf:f.size<=40000
 hs:s.size<=40000
 hT:T.data.toList=trimL s.data.toList
theorem Pre.size {a b c d e f s T:ByteArray}(h:Pre a b c d e f s T):T.size<=40000:=by have:=trimL_len s.data.toList;rw [size_of h.hT];rw [size_len] at this;have:=h.hs;omega
theorem scheme_is (T:ByteArray)(B:Bool)(w:World)(hs:T.size<=1000000)(hM:MaxAt w)(h:schemeOk T.data.toList=B):Calls Tryz.prog 58 #[.string T] w fun x w'=>∃ a b:ByteArray,x = .returned (.tuple #[.string a,.string b,.bool B])/\Below w.heap.size w w':=by refine (scheme_any T w hs hM).mono ?_;rintro x w' ⟨p,q,rfl,-,hb⟩;exact ⟨p,q,by rw [h],hb⟩
abbrev ResV (a b c d e f s:ByteArray)(w:World)(o:Option U6):Prop:=Calls Tryz.prog 189 #[.agg #[.string a,.string b,.string c,.string d,.string e,.string f],.string s] w fun x w'=>x = .returned (resV o)/\Below w.heap.size w w'
theorem resolve1 (a b c d e f s T:ByteArray)(w:World)(hM:MaxAt w)(h:Pre a b c d e f s T)(h1:schemeOk T.data.toList=true):
 ResV a b c d e f s w (parseL T.data.toList):=by
 have hTs:=h.size;have CT:=Kb (fun w=>trim_is s T w (by have:=h.hs;omega) h.hT);have CS:=Kb (fun w hM=>scheme_is T true w (by omega) hM h1);obtain ⟨r1,r2,r3,r4,r5,r6,X,e1,-,cP,-⟩:=parse_known T (by omega);unfold ResV;rw [e1];have CP:=Kb cP;clear e1 cP h h1;cases X
 all_goals
  go_enter Tryz.func189,Tryz.ntmps189;go_wp2_with fail;have A0:=At6.new w (.string a) (.string b) (.string c) (.string d) (.string e) (.string f) 37;have hB0:Below w.heap.size w (w.alloc (.cells #[.string a,.string b,.string c,.string d,.string e,.string f] 37)):=(Kc w).alloc lr _;have A1:=A0.alloc (.cells #[.string ⟨#[]⟩,.string ⟨#[]⟩,.string ⟨#[]⟩,.string ⟨#[]⟩,.string ⟨#[]⟩,.string ⟨#[]⟩] 37);have A2:=At6.new (w.alloc (.cells #[.string a,.string b,.string c,.string d,.string e,.string f] 37)) (.string ⟨#[]⟩) (.string ⟨#[]⟩) (.string ⟨#[]⟩) (.string ⟨#[]⟩) (.string ⟨#[]⟩) (.string ⟨#[]⟩) 37;have hB1:=hB0.alloc hB0.size (.cells #[.string ⟨#[]⟩,.string ⟨#[]⟩,.string ⟨#[]⟩,.string ⟨#[]⟩,.string ⟨#[]⟩,.string ⟨#[]⟩] 37);have hM1:=hM.below hB1 lr;rw [show (w.alloc (.cells #[.string a,.string b,.string c,.string d,.string e,.string f] 37)).heap.size=w.heap.size+1 by simp] at A2;obtain ⟨wa,hwa⟩:∃ wa:World,(w.alloc (.cells #[.string a,.string b,.string c,.string d,.string e,.string f] 37)).alloc (.cells #[.string ⟨#[]⟩,.string ⟨#[]⟩,.string ⟨#[]⟩,.string ⟨#[]⟩,.string ⟨#[]⟩,.string ⟨#[]⟩] 37)=wa:=⟨_,rfl⟩
  obtain ⟨K,hK⟩:=Ka w.heap.size;obtain ⟨M,hm⟩:=Ka (w.heap.size+1);have hKM:K<=M:=(by omega)
  have hne:¬ K=M:=(by omega)
  rw [hwa] at A1 A2 hB1 hM1;rw [hm] at A2;rw [hK] at A1 hB1;rw [hwa,hm,hK];clear hwa hm A0 hB0;have HK:=Kb hK;have hBl:=A2.blank;clear hK;obtain ⟨hkl,a0,a1,a2,a3,a4,a5,f0,f1,f2,f3,f4,f5⟩:=A1;obtain ⟨hml,m0,m1,m2,m3,m4,m5,g0,g1,g2,g3,g4,g5⟩:=A2;have hKa:K<=wa.heap.size:=Kl hkl
  go_wp2_with (first
   | (with_reducible refine (CT.out _).mono ?_;rintro x w' ⟨rfl,rfl⟩)
   | (with_reducible refine (CS.out _ hM1).mono ?_;rintro x w1 ⟨p,q,rfl,hb1⟩;have hr1:=brule hb1;have hg1:=frule hb1;have hM2:=hM1.below hb1 lr)
   | (with_reducible refine (CP.out _ hM2).mono ?_;rintro x w2 ⟨rfl,hb2⟩;have hB2:=Kd hb1 hb2;have hr2:=brule hB2;have hg2:=frule hB2))
  refine bodyPost_ret (url_at Tryz.results189 _ _ M (hBl.below hB2 hml) _ _ _ _ _ _ _ rfl rfl) rfl ⟨rfl,?_⟩;rw [HK.out];exact below_set6 (hB1.trans (hB2.mono hKa)) hKM _ _ _ _ _ _
theorem resolve2 (a b c d e f s T:ByteArray)(w:World)(hM:MaxAt w)(h:Pre a b c d e f s T)(h1:schemeOk T.data.toList=false)(h2:validB (a.data.toList,b.data.toList,c.data.toList,d.data.toList,e.data.toList,f.data.toList)=false):
 ResV a b c d e f s w none:=by
 have hTs:=h.size
 have CT:=Kb (fun w=>trim_is s T w (by have:=h.hs;omega) h.hT)
 have CS:=Kb (fun w hM=>scheme_is T false w (by omega) hM h1)
 have CV:=Kb (fun w hM=>valid_is a b c d e f w h.ha h.hb h.hc h.hd h.he h.hf hM false h2)
 unfold ResV
 clear h h1 h2
 go_enter Tryz.func189,Tryz.ntmps189
 go_wp2_with fail
 have A0:=At6.new w (.string a) (.string b) (.string c) (.string d) (.string e) (.string f) 37
 have hB0:Below w.heap.size w (w.alloc (.cells #[.string a,.string b,.string c,.string d,.string e,.string f] 37)):=(Kc w).alloc lr _
 have A1:=A0.alloc (.cells #[.string ⟨#[]⟩,.string ⟨#[]⟩,.string ⟨#[]⟩,.string ⟨#[]⟩,.string ⟨#[]⟩,.string ⟨#[]⟩] 37)
 have A2:=At6.new (w.alloc (.cells #[.string a,.string b,.string c,.string d,.string e,.string f] 37)) (.string ⟨#[]⟩) (.string ⟨#[]⟩) (.string ⟨#[]⟩) (.string ⟨#[]⟩) (.string ⟨#[]⟩) (.string ⟨#[]⟩) 37
 have hB1:=hB0.alloc hB0.size (.cells #[.string ⟨#[]⟩,.string ⟨#[]⟩,.string ⟨#[]⟩,.string ⟨#[]⟩,.string ⟨#[]⟩,.string ⟨#[]⟩] 37)
 have hM1:=hM.below hB1 lr
 rw [show (w.alloc (.cells #[.string a,.string b,.string c,.string d,.string e,.string f] 37)).heap.size=w.heap.size+1 by simp] at A2
 obtain ⟨wa,hwa⟩:∃ wa:World,(w.alloc (.cells #[.string a,.string b,.string c,.string d,.string e,.string f] 37)).alloc (.cells #[.string ⟨#[]⟩,.string ⟨#[]⟩,.string ⟨#[]⟩,.string ⟨#[]⟩,.string ⟨#[]⟩,.string ⟨#[]⟩] 37)=wa:=⟨_,rfl⟩
 obtain ⟨K,hK⟩:=Ka w.heap.size
 obtain ⟨M,hm⟩:=Ka (w.heap.size+1)
 have hKM:K<=M:=(by omega)
 have hne:¬ K=M:=(by omega)
 rw [hwa] at A1 A2 hB1 hM1
 rw [hm] at A2
 rw [hK] at A1 hB1
 rw [hwa,hm,hK]
 clear hwa hm A0 hB0
 have HK:=Kb hK
 have hBl:=A2.blank
 clear hK
 obtain ⟨hkl,a0,a1,a2,a3,a4,a5,f0,f1,f2,f3,f4,f5⟩:=A1
 obtain ⟨hml,m0,m1,m2,m3,m4,m5,g0,g1,g2,g3,g4,g5⟩:=A2
 have hKa:K<=wa.heap.size:=Kl hkl
 go_wp2_with (first
  | (with_reducible refine (CT.out _).mono ?_;rintro x w' ⟨rfl,rfl⟩)
  | (with_reducible refine (CS.out _ hM1).mono ?_;rintro x w1 ⟨p,q,rfl,hb1⟩;have hr1:=brule hb1;have hg1:=frule hb1;have hM2:=hM1.below hb1 lr)
  | (with_reducible refine (CV.out _ hM2).mono ?_;rintro x w2 ⟨rfl,hb2⟩;have hB2:=Kd hb1 hb2;have hr2:=brule hB2;have hg2:=frule hB2;have hM3:=hM1.below hB2 lr)
 )
 refine bodyPost_ret (url_at Tryz.results189 _ _ M (hBl.below hB2 hml) _ _ _ _ _ _ _ rfl rfl) rfl ⟨rfl,?_⟩
 rw [HK.out]
 exact below_set6 (hB1.trans (hB2.mono hKa)) hKM _ _ _ _ _ _
theorem hasPre2 (l:List UInt8):Lib.hasPrefix l [47,47]=decide (l.take 2=[47,47]):=by
 unfold Lib.hasPrefix
 match l with
 | []=>rfl
 | [a]=>simp [List.isPrefixOf]
 | a :: b :: r=>
   simp only [List.isPrefixOf,Bool.and_true,List.take_succ_cons,List.take_zero,List.cons.injEq,and_true]
   by_cases h1:(47:UInt8)=a
   ·by_cases h2:(47:UInt8)=b
    ·subst h1;subst h2;simp
    ·subst h1;simp [h2,Ne.symm h2]
   ·simp [h1,Ne.symm h1]
theorem first_eq (T:ByteArray)(x:UInt8)(h:0<T.size)(y:Int)(hy:(x.toNat:Int)=y):((T[0].toNat:Int) == y)=decide (T.data.toList.head? = some x):=by
 have e:T.data.toList.head? = some T[0]:=by have:=drop_at T 0 h;rw [List.drop_zero] at this;rw [this];rfl
 rw [e];subst hy;by_cases hx:T[0]=x
 ·rw [hx];simp
 ·rw [Kj (fun h=>hx (Zl h))];rw [Ki];exact fun h=>hx (UInt8.toNat_inj.1 (by omega))
theorem resolve3 (a b c d e f s T:ByteArray)(w:World)(hM:MaxAt w)(h:Pre a b c d e f s T)(h1:schemeOk T.data.toList=false)(h2:validB (a.data.toList,b.data.toList,c.data.toList,d.data.toList,e.data.toList,f.data.toList)=true)(h3:T.size=0)(R:Option U6)(hR:(some (a.data.toList,b.data.toList,c.data.toList,d.data.toList,e.data.toList,[]))=R):
 ResV a b c d e f s w R:=by
 have hTs:=h.size;have CT:=Kb (fun w=>trim_is s T w (by have:=h.hs;omega) h.hT);have CS:=Kb (fun w hM=>scheme_is T false w (by omega) hM h1);have CV:=Kb (fun w hM=>valid_is a b c d e f w h.ha h.hb h.hc h.hd h.he h.hf hM true h2);obtain ⟨ha,hb,hc,hd,he,hf,hs,-⟩:=h;have hE:=empty_of T h3;have CW:=Kb (fun w=>without_any a b c d e f w);have hres:resV R = .tuple #[.agg #[.string a,.string b,.string c,.string d,.string e,.string ⟨#[]⟩],.int .i64 0]:=by rw [<-hR];rfl
 unfold ResV;replace hres:=Kb hres;clear h1 h2 h3 hR;go_enter Tryz.func189,Tryz.ntmps189;go_wp2_with fail;have A0:=At6.new w (.string a) (.string b) (.string c) (.string d) (.string e) (.string f) 37;have hB0:Below w.heap.size w (w.alloc (.cells #[.string a,.string b,.string c,.string d,.string e,.string f] 37)):=(Kc w).alloc lr _;have A1:=A0.alloc (.cells #[.string ⟨#[]⟩,.string ⟨#[]⟩,.string ⟨#[]⟩,.string ⟨#[]⟩,.string ⟨#[]⟩,.string ⟨#[]⟩] 37);have A2:=At6.new (w.alloc (.cells #[.string a,.string b,.string c,.string d,.string e,.string f] 37)) (.string ⟨#[]⟩) (.string ⟨#[]⟩) (.string ⟨#[]⟩) (.string ⟨#[]⟩) (.string ⟨#[]⟩) (.string ⟨#[]⟩) 37;have hB1:=hB0.alloc hB0.size (.cells #[.string ⟨#[]⟩,.string ⟨#[]⟩,.string ⟨#[]⟩,.string ⟨#[]⟩,.string ⟨#[]⟩,.string ⟨#[]⟩] 37);have hM1:=hM.below hB1 lr;rw [show (w.alloc (.cells #[.string a,.string b,.string c,.string d,.string e,.string f] 37)).heap.size=w.heap.size+1 by simp] at A2;obtain ⟨wa,hwa⟩:∃ wa:World,(w.alloc (.cells #[.string a,.string b,.string c,.string d,.string e,.string f] 37)).alloc (.cells #[.string ⟨#[]⟩,.string ⟨#[]⟩,.string ⟨#[]⟩,.string ⟨#[]⟩,.string ⟨#[]⟩,.string ⟨#[]⟩] 37)=wa:=⟨_,rfl⟩
 obtain ⟨K,hK⟩:=Ka w.heap.size;obtain ⟨M,hm⟩:=Ka (w.heap.size+1);have hKM:K<=M:=(by omega)
 have hne:¬ K=M:=(by omega)
 rw [hwa] at A1 A2 hB1 hM1;rw [hm] at A2;rw [hK] at A1 hB1;rw [hwa,hm,hK];clear hwa hm A0 hB0;have HK:=Kb hK;have hBl:=A2.blank;clear hK;obtain ⟨hkl,a0,a1,a2,a3,a4,a5,f0,f1,f2,f3,f4,f5⟩:=A1;obtain ⟨hml,m0,m1,m2,m3,m4,m5,g0,g1,g2,g3,g4,g5⟩:=A2;have hKa:K<=wa.heap.size:=Kl hkl
 go_wp2_with (first
  | (with_reducible refine (CT.out _).mono ?_;rintro x w' ⟨rfl,rfl⟩)
  | (with_reducible refine (CS.out _ hM1).mono ?_;rintro x w1 ⟨p,q,rfl,hb1⟩;have hr1:=brule hb1;have hg1:=frule hb1;have hM2:=hM1.below hb1 lr)
  | (with_reducible refine (CV.out _ hM2).mono ?_;rintro x w2 ⟨rfl,hb2⟩;have hB2:=Kd hb1 hb2;have hr2:=brule hB2;have hg2:=frule hB2;have hM3:=hM1.below hB2 lr)
  | (with_reducible refine (CW.out _).mono ?_;rintro x w3 ⟨rfl,hb3⟩;have hB3:=Kd hB2 hb3;have hr3:=brule hB3;have hg3:=frule hB3)
  )
 refine bodyPost_ret (v:=.tuple #[.agg #[.string a,.string b,.string c,.string d,.string e,.string ⟨#[]⟩],.int .i64 0]) (url_at Tryz.results189 _ _ M (hBl.below hB3 hml) _ _ _ _ _ _ _ rfl rfl) rfl ⟨(Kq Ending.returned hres.out).symm,?_⟩;rw [HK.out];exact below_set6 (hB1.trans (hB3.mono hKa)) hKM _ _ _ _ _ _
theorem resolve4 (a b c d e f s T:ByteArray)(w:World)(hM:MaxAt w)(h:Pre a b c d e f s T)(h1:schemeOk T.data.toList=false)(h2:validB (a.data.toList,b.data.toList,c.data.toList,d.data.toList,e.data.toList,f.data.toList)=true)(h3:0<T.size)(h4:T.data.toList.head? = some 35)(R:Option U6)(hR:(some (a.data.toList,b.data.toList,c.data.toList,d.data.toList,e.data.toList,conv (innerL ++ [63]) true T.data.toList.tail))=R):
 ResV a b c d e f s w R:=by
 have hTs:=h.size;have CT:=Kb (fun w=>trim_is s T w (by have:=h.hs;omega) h.hT);have CS:=Kb (fun w hM=>scheme_is T false w (by omega) hM h1);have CV:=Kb (fun w hM=>valid_is a b c d e f w h.ha h.hb h.hc h.hd h.he h.hf hM true h2);obtain ⟨ha,hb,hc,hd,he,hf,hs,-⟩:=h;have hTi:(0:Int)<(T.size:Int):=by omega
 have hE:=nonempty_of T h3;have n35:((T[0].toNat:Int) == 35)=true:=by rw [first_eq T 35 h3 35 rfl];exact Kx h4
 obtain ⟨F,hF⟩:=list_bytes (conv (innerL ++ [63]) true T.data.toList.tail);have hres:resV R = .tuple #[.agg #[.string a,.string b,.string c,.string d,.string e,.string F],.int .i64 0]:=by rw [<-hR,<-hF];rfl
 have CC:Hid (∀ w,Calls Tryz.prog 61 #[.string (T.extract 1 T.size),.string innerQ,.bool true] w fun x w'=>x = .returned (.string F)/\Below w.heap.size w w'):=Kb fun w=>by refine (convert_any (T.extract 1 T.size) innerQ true w (by simp;omega)).mono ?_;rintro x w' ⟨u,rfl,hu,hb⟩;have hx:u=F:=byteArray_ext (hu.trans (by rw [hF,ext_to,<-List.drop_one];rfl));exact ⟨by rw [hx],hb⟩
 unfold ResV;replace hres:=Kb hres;clear h1 h2 h4 hF hR;go_enter Tryz.func189,Tryz.ntmps189;go_wp2_with fail;have A0:=At6.new w (.string a) (.string b) (.string c) (.string d) (.string e) (.string f) 37;have hB0:Below w.heap.size w (w.alloc (.cells #[.string a,.string b,.string c,.string d,.string e,.string f] 37)):=(Kc w).alloc lr _;have A1:=A0.alloc (.cells #[.string ⟨#[]⟩,.string ⟨#[]⟩,.string ⟨#[]⟩,.string ⟨#[]⟩,.string ⟨#[]⟩,.string ⟨#[]⟩] 37);have A2:=At6.new (w.alloc (.cells #[.string a,.string b,.string c,.string d,.string e,.string f] 37)) (.string ⟨#[]⟩) (.string ⟨#[]⟩) (.string ⟨#[]⟩) (.string ⟨#[]⟩) (.string ⟨#[]⟩) (.string ⟨#[]⟩) 37;have hB1:=hB0.alloc hB0.size (.cells #[.string ⟨#[]⟩,.string ⟨#[]⟩,.string ⟨#[]⟩,.string ⟨#[]⟩,.string ⟨#[]⟩,.string ⟨#[]⟩] 37);have hM1:=hM.below hB1 lr;rw [show (w.alloc (.cells #[.string a,.string b,.string c,.string d,.string e,.string f] 37)).heap.size=w.heap.size+1 by simp] at A2;obtain ⟨wa,hwa⟩:∃ wa:World,(w.alloc (.cells #[.string a,.string b,.string c,.string d,.string e,.string f] 37)).alloc (.cells #[.string ⟨#[]⟩,.string ⟨#[]⟩,.string ⟨#[]⟩,.string ⟨#[]⟩,.string ⟨#[]⟩,.string ⟨#[]⟩] 37)=wa:=⟨_,rfl⟩
 obtain ⟨K,hK⟩:=Ka w.heap.size;obtain ⟨M,hm⟩:=Ka (w.heap.size+1);have hKM:K<=M:=(by omega)
 have hne:¬ K=M:=(by omega)
 rw [hwa] at A1 A2 hB1 hM1;rw [hm] at A2;rw [hK] at A1 hB1;rw [hwa,hm,hK];clear hwa hm A0 hB0;have HK:=Kb hK;have hBl:=A2.blank;clear hK;obtain ⟨hkl,a0,a1,a2,a3,a4,a5,f0,f1,f2,f3,f4,f5⟩:=A1;obtain ⟨hml,m0,m1,m2,m3,m4,m5,g0,g1,g2,g3,g4,g5⟩:=A2;have hKa:K<=wa.heap.size:=Kl hkl
 go_wp2_with (first
  | (with_reducible refine (CT.out _).mono ?_;rintro x w' ⟨rfl,rfl⟩)
  | (with_reducible refine (CS.out _ hM1).mono ?_;rintro x w1 ⟨p,q,rfl,hb1⟩;have hr1:=brule hb1;have hg1:=frule hb1;have hM2:=hM1.below hb1 lr)
  | (with_reducible refine (CV.out _ hM2).mono ?_;rintro x w2 ⟨rfl,hb2⟩;have hB2:=Kd hb1 hb2;have hr2:=brule hB2;have hg2:=frule hB2;have hM3:=hM1.below hB2 lr)
  | (with_reducible refine (CC.out _).mono ?_;rintro x w3 ⟨rfl,hb3⟩;have hB3:=Kd hB2 hb3;have hr3:=brule hB3;have hg3:=frule hB3)
  )
 refine bodyPost_ret (v:=.tuple #[.agg #[.string a,.string b,.string c,.string d,.string e,.string F],.int .i64 0]) (url_at Tryz.results189 _ _ M ((hBl.below hB3 hml).set _ _) _ _ _ _ _ _ _ rfl rfl) rfl ⟨(Kq Ending.returned hres.out).symm,?_⟩;rw [HK.out];exact below_set6 ((hB1.trans (hB3.mono hKa)).setCell lr _) hKM _ _ _ _ _ _
theorem resolve5 (a b c d e f s T:ByteArray)(w:World)(hM:MaxAt w)(h:Pre a b c d e f s T)(h1:schemeOk T.data.toList=false)(h2:validB (a.data.toList,b.data.toList,c.data.toList,d.data.toList,e.data.toList,f.data.toList)=true)(h3:0<T.size)(h4:T.data.toList.head? ≠ some 35)(h5:a.data.toList=aboutL)(R:Option U6)(hR:none=R):
 ResV a b c d e f s w R:=by
 have hTs:=h.size;have CT:=Kb (fun w=>trim_is s T w (by have:=h.hs;omega) h.hT);have CS:=Kb (fun w hM=>scheme_is T false w (by omega) hM h1);have CV:=Kb (fun w hM=>valid_is a b c d e f w h.ha h.hb h.hc h.hd h.he h.hf hM true h2);obtain ⟨ha,hb,hc,hd,he,hf,hs,-⟩:=h;have hTi:(0:Int)<(T.size:Int):=by omega
 have hE:=nonempty_of T h3;have n35:((T[0].toNat:Int) == 35)=false:=by rw [first_eq T 35 h3 35 rfl];exact Kj h4
 have nab:(a.toList == [97,98,111,117,116])=true:=by rw [str_beq];exact Kx h5
 unfold ResV;have hres:resV R = .tuple #[.agg #[.string ⟨#[]⟩,.string ⟨#[]⟩,.string ⟨#[]⟩,.string ⟨#[]⟩,.string ⟨#[]⟩,.string ⟨#[]⟩],.int .i64 4]:=by rw [<-hR];rfl
 replace hres:=Kb hres;clear h1 h2 h4 h5 hR;go_enter Tryz.func189,Tryz.ntmps189;go_wp2_with fail;have A0:=At6.new w (.string a) (.string b) (.string c) (.string d) (.string e) (.string f) 37;have hB0:Below w.heap.size w (w.alloc (.cells #[.string a,.string b,.string c,.string d,.string e,.string f] 37)):=(Kc w).alloc lr _;have A1:=A0.alloc (.cells #[.string ⟨#[]⟩,.string ⟨#[]⟩,.string ⟨#[]⟩,.string ⟨#[]⟩,.string ⟨#[]⟩,.string ⟨#[]⟩] 37);have A2:=At6.new (w.alloc (.cells #[.string a,.string b,.string c,.string d,.string e,.string f] 37)) (.string ⟨#[]⟩) (.string ⟨#[]⟩) (.string ⟨#[]⟩) (.string ⟨#[]⟩) (.string ⟨#[]⟩) (.string ⟨#[]⟩) 37;have hB1:=hB0.alloc hB0.size (.cells #[.string ⟨#[]⟩,.string ⟨#[]⟩,.string ⟨#[]⟩,.string ⟨#[]⟩,.string ⟨#[]⟩,.string ⟨#[]⟩] 37);have hM1:=hM.below hB1 lr;rw [show (w.alloc (.cells #[.string a,.string b,.string c,.string d,.string e,.string f] 37)).heap.size=w.heap.size+1 by simp] at A2;obtain ⟨wa,hwa⟩:∃ wa:World,(w.alloc (.cells #[.string a,.string b,.string c,.string d,.string e,.string f] 37)).alloc (.cells #[.string ⟨#[]⟩,.string ⟨#[]⟩,.string ⟨#[]⟩,.string ⟨#[]⟩,.string ⟨#[]⟩,.string ⟨#[]⟩] 37)=wa:=⟨_,rfl⟩
 obtain ⟨K,hK⟩:=Ka w.heap.size;obtain ⟨M,hm⟩:=Ka (w.heap.size+1);have hKM:K<=M:=(by omega)
 have hne:¬ K=M:=(by omega)
 rw [hwa] at A1 A2 hB1 hM1;rw [hm] at A2;rw [hK] at A1 hB1;rw [hwa,hm,hK];clear hwa hm A0 hB0;have HK:=Kb hK;have hBl:=A2.blank;clear hK;obtain ⟨hkl,a0,a1,a2,a3,a4,a5,f0,f1,f2,f3,f4,f5⟩:=A1;obtain ⟨hml,m0,m1,m2,m3,m4,m5,g0,g1,g2,g3,g4,g5⟩:=A2;have hKa:K<=wa.heap.size:=Kl hkl
 go_wp2_with (first
  | (with_reducible refine (CT.out _).mono ?_;rintro x w' ⟨rfl,rfl⟩)
  | (with_reducible refine (CS.out _ hM1).mono ?_;rintro x w1 ⟨p,q,rfl,hb1⟩;have hr1:=brule hb1;have hg1:=frule hb1;have hM2:=hM1.below hb1 lr)
  | (with_reducible refine (CV.out _ hM2).mono ?_;rintro x w2 ⟨rfl,hb2⟩;have hB2:=Kd hb1 hb2;have hr2:=brule hB2;have hg2:=frule hB2;have hM3:=hM1.below hB2 lr)
  )
 refine bodyPost_ret (url_at Tryz.results189 _ _ M (hBl.below hB2 hml) _ _ _ _ _ _ _ rfl rfl) rfl ⟨(Kq Ending.returned hres.out).symm,?_⟩;rw [HK.out];exact below_set6 (hB1.trans (hB2.mono hKa)) hKM _ _ _ _ _ _
theorem resolve6 (a b c d e f s T:ByteArray)(w:World)(hM:MaxAt w)(h:Pre a b c d e f s T)(h1:schemeOk T.data.toList=false)(h2:validB (a.data.toList,b.data.toList,c.data.toList,d.data.toList,e.data.toList,f.data.toList)=true)(h3:0<T.size)(h4:T.data.toList.head? ≠ some 35)(h5:a.data.toList≠aboutL)(h6:T.data.toList.take 2=[47,47])(R:Option U6)(hR:(parseL (a.data.toList ++ 58 :: T.data.toList))=R):
 ResV a b c d e f s w R:=by
 have hTs:=h.size;have CT:=Kb (fun w=>trim_is s T w (by have:=h.hs;omega) h.hT);have CS:=Kb (fun w hM=>scheme_is T false w (by omega) hM h1);have CV:=Kb (fun w hM=>valid_is a b c d e f w h.ha h.hb h.hc h.hd h.he h.hf hM true h2);obtain ⟨ha,hb,hc,hd,he,hf,hs,-⟩:=h;have hTi:(0:Int)<(T.size:Int):=by omega
 have hE:=nonempty_of T h3;have n35:((T[0].toNat:Int) == 35)=false:=by rw [first_eq T 35 h3 35 rfl];exact Kj h4
 have nab:(a.toList == [97,98,111,117,116])=false:=by rw [str_beq];exact Kj h5
 have CH:Hid (∀ w,Calls Tryz.prog 176 #[.string T,.string ⟨#[47,47]⟩] w fun x w'=>x = .returned (.bool true)/\w'=w):=Kb fun w=>by refine (Tryz.strings_HasPrefix T ⟨#[47,47]⟩ w).mono ?_;rintro x w' ⟨rfl,hw⟩;exact ⟨by rw [show Lib.hasPrefix T.data.toList (⟨#[47,47]⟩:ByteArray).data.toList=true from (hasPre2 T.data.toList).trans (Kx h6)],hw⟩
 have hx:(a ++ ⟨#[58]⟩ ++ T).data.toList=a.data.toList ++ 58 :: T.data.toList:=by rw [app_list,app_list,Jj];rfl
 obtain ⟨r1,r2,r3,r4,r5,r6,Y,e1,-,cP,-⟩:=parse_known (a ++ ⟨#[58]⟩ ++ T) (by rw [size_of hx,Kw,Kv,size_len,size_len];omega);rw [hx,hR] at e1;have hres:=Kb e1;have CP:=Kb cP;clear e1 cP hx hR;unfold ResV;clear h1 h2 h4 h5 h6;cases Y
 all_goals
  go_enter Tryz.func189,Tryz.ntmps189;go_wp2_with fail;have A0:=At6.new w (.string a) (.string b) (.string c) (.string d) (.string e) (.string f) 37;have hB0:Below w.heap.size w (w.alloc (.cells #[.string a,.string b,.string c,.string d,.string e,.string f] 37)):=(Kc w).alloc lr _;have A1:=A0.alloc (.cells #[.string ⟨#[]⟩,.string ⟨#[]⟩,.string ⟨#[]⟩,.string ⟨#[]⟩,.string ⟨#[]⟩,.string ⟨#[]⟩] 37);have A2:=At6.new (w.alloc (.cells #[.string a,.string b,.string c,.string d,.string e,.string f] 37)) (.string ⟨#[]⟩) (.string ⟨#[]⟩) (.string ⟨#[]⟩) (.string ⟨#[]⟩) (.string ⟨#[]⟩) (.string ⟨#[]⟩) 37;have hB1:=hB0.alloc hB0.size (.cells #[.string ⟨#[]⟩,.string ⟨#[]⟩,.string ⟨#[]⟩,.string ⟨#[]⟩,.string ⟨#[]⟩,.string ⟨#[]⟩] 37);have hM1:=hM.below hB1 lr;rw [show (w.alloc (.cells #[.string a,.string b,.string c,.string d,.string e,.string f] 37)).heap.size=w.heap.size+1 by simp] at A2;obtain ⟨wa,hwa⟩:∃ wa:World,(w.alloc (.cells #[.string a,.string b,.string c,.string d,.string e,.string f] 37)).alloc (.cells #[.string ⟨#[]⟩,.string ⟨#[]⟩,.string ⟨#[]⟩,.string ⟨#[]⟩,.string ⟨#[]⟩,.string ⟨#[]⟩] 37)=wa:=⟨_,rfl⟩
  obtain ⟨K,hK⟩:=Ka w.heap.size;obtain ⟨M,hm⟩:=Ka (w.heap.size+1);have hKM:K<=M:=(by omega)
  have hne:¬ K=M:=(by omega)
  rw [hwa] at A1 A2 hB1 hM1;rw [hm] at A2;rw [hK] at A1 hB1;rw [hwa,hm,hK];clear hwa hm A0 hB0;have HK:=Kb hK;have hBl:=A2.blank;clear hK;obtain ⟨hkl,a0,a1,a2,a3,a4,a5,f0,f1,f2,f3,f4,f5⟩:=A1;obtain ⟨hml,m0,m1,m2,m3,m4,m5,g0,g1,g2,g3,g4,g5⟩:=A2;have hKa:K<=wa.heap.size:=Kl hkl
  go_wp2_with (first
   | (with_reducible refine (CT.out _).mono ?_;rintro x w' ⟨rfl,rfl⟩)
   | (with_reducible refine (CS.out _ hM1).mono ?_;rintro x w1 ⟨p,q,rfl,hb1⟩;have hr1:=brule hb1;have hg1:=frule hb1;have hM2:=hM1.below hb1 lr)
   | (with_reducible refine (CV.out _ hM2).mono ?_;rintro x w2 ⟨rfl,hb2⟩;have hB2:=Kd hb1 hb2;have hr2:=brule hB2;have hg2:=frule hB2;have hM3:=hM1.below hB2 lr)
   | (with_reducible refine (CH.out _).mono ?_;rintro x w' ⟨rfl,rfl⟩)
   | (with_reducible refine (CP.out _ hM3).mono ?_;rintro x w3 ⟨rfl,hb3⟩;have hB3:=Kd hB2 hb3;have hr3:=brule hB3;have hg3:=frule hB3)
   )
  refine bodyPost_ret (url_at Tryz.results189 _ _ M (hBl.below hB3 hml) _ _ _ _ _ _ _ rfl rfl) rfl ⟨(Kq Ending.returned hres.out).symm,?_⟩;rw [HK.out];exact below_set6 (hB1.trans (hB3.mono hKa)) hKM _ _ _ _ _ _
theorem resolve7 (a b c d e f s T:ByteArray)(w:World)(hM:MaxAt w)(h:Pre a b c d e f s T)(h1:schemeOk T.data.toList=false)(h2:validB (a.data.toList,b.data.toList,c.data.toList,d.data.toList,e.data.toList,f.data.toList)=true)(h3:0<T.size)(h4:T.data.toList.head? ≠ some 35)(h5:a.data.toList≠aboutL)(h6:¬ T.data.toList.take 2=[47,47])(h7:T.data.toList.head? = some 47)(R:Option U6)(hR:(parseL (placeL (a.data.toList,b.data.toList,c.data.toList,d.data.toList,e.data.toList,f.data.toList) ++ T.data.toList))=R):
 ResV a b c d e f s w R:=by
 have hTs:=h.size;have CT:=Kb (fun w=>trim_is s T w (by have:=h.hs;omega) h.hT);have CS:=Kb (fun w hM=>scheme_is T false w (by omega) hM h1);have CV:=Kb (fun w hM=>valid_is a b c d e f w h.ha h.hb h.hc h.hd h.he h.hf hM true h2);obtain ⟨ha,hb,hc,hd,he,hf,hs,-⟩:=h;have hTi:(0:Int)<(T.size:Int):=by omega
 have hE:=nonempty_of T h3;have n35:((T[0].toNat:Int) == 35)=false:=by rw [first_eq T 35 h3 35 rfl];exact Kj h4
 have nab:(a.toList == [97,98,111,117,116])=false:=by rw [str_beq];exact Kj h5
 have CH:Hid (∀ w,Calls Tryz.prog 176 #[.string T,.string ⟨#[47,47]⟩] w fun x w'=>x = .returned (.bool false)/\w'=w):=Kb fun w=>by refine (Tryz.strings_HasPrefix T ⟨#[47,47]⟩ w).mono ?_;rintro x w' ⟨rfl,hw⟩;exact ⟨by rw [show Lib.hasPrefix T.data.toList (⟨#[47,47]⟩:ByteArray).data.toList=false from (hasPre2 T.data.toList).trans (Kj h6)],hw⟩
 have n47:((T[0].toNat:Int) == 47)=true:=by rw [first_eq T 47 h3 47 rfl];exact Kx h7
 obtain ⟨PL,hPL⟩:=list_bytes (placeL (a.data.toList,b.data.toList,c.data.toList,d.data.toList,e.data.toList,f.data.toList));have hPs:=site_len a b c d e f;rw [<-hPL,size_len] at hPs;have CSi:=Kb (fun w=>site_is a b c d e f PL w (by omega) (by omega) (by omega) hPL);have hx:(PL ++ T).data.toList=placeL (a.data.toList,b.data.toList,c.data.toList,d.data.toList,e.data.toList,f.data.toList) ++ T.data.toList:=by rw [app_list,hPL]
 obtain ⟨r1,r2,r3,r4,r5,r6,Y,e1,-,cP,-⟩:=parse_known (PL ++ T) (by simp;omega);rw [hx,hR] at e1;have hres:=Kb e1;have CP:=Kb cP;clear e1 cP hPL hx hR;unfold ResV;clear h1 h2 h4 h5 h6 h7;cases Y
 all_goals
  go_enter Tryz.func189,Tryz.ntmps189;go_wp2_with fail;have A0:=At6.new w (.string a) (.string b) (.string c) (.string d) (.string e) (.string f) 37;have hB0:Below w.heap.size w (w.alloc (.cells #[.string a,.string b,.string c,.string d,.string e,.string f] 37)):=(Kc w).alloc lr _;have A1:=A0.alloc (.cells #[.string ⟨#[]⟩,.string ⟨#[]⟩,.string ⟨#[]⟩,.string ⟨#[]⟩,.string ⟨#[]⟩,.string ⟨#[]⟩] 37);have A2:=At6.new (w.alloc (.cells #[.string a,.string b,.string c,.string d,.string e,.string f] 37)) (.string ⟨#[]⟩) (.string ⟨#[]⟩) (.string ⟨#[]⟩) (.string ⟨#[]⟩) (.string ⟨#[]⟩) (.string ⟨#[]⟩) 37;have hB1:=hB0.alloc hB0.size (.cells #[.string ⟨#[]⟩,.string ⟨#[]⟩,.string ⟨#[]⟩,.string ⟨#[]⟩,.string ⟨#[]⟩,.string ⟨#[]⟩] 37);have hM1:=hM.below hB1 lr;rw [show (w.alloc (.cells #[.string a,.string b,.string c,.string d,.string e,.string f] 37)).heap.size=w.heap.size+1 by simp] at A2;obtain ⟨wa,hwa⟩:∃ wa:World,(w.alloc (.cells #[.string a,.string b,.string c,.string d,.string e,.string f] 37)).alloc (.cells #[.string ⟨#[]⟩,.string ⟨#[]⟩,.string ⟨#[]⟩,.string ⟨#[]⟩,.string ⟨#[]⟩,.string ⟨#[]⟩] 37)=wa:=⟨_,rfl⟩
  obtain ⟨K,hK⟩:=Ka w.heap.size;obtain ⟨M,hm⟩:=Ka (w.heap.size+1);have hKM:K<=M:=(by omega)
  have hne:¬ K=M:=(by omega)
  rw [hwa] at A1 A2 hB1 hM1;rw [hm] at A2;rw [hK] at A1 hB1;rw [hwa,hm,hK];clear hwa hm A0 hB0;have HK:=Kb hK;have hBl:=A2.blank;clear hK;obtain ⟨hkl,a0,a1,a2,a3,a4,a5,f0,f1,f2,f3,f4,f5⟩:=A1;obtain ⟨hml,m0,m1,m2,m3,m4,m5,g0,g1,g2,g3,g4,g5⟩:=A2;have hKa:K<=wa.heap.size:=Kl hkl
  go_wp2_with (first
   | (with_reducible refine (CT.out _).mono ?_;rintro x w' ⟨rfl,rfl⟩)
   | (with_reducible refine (CS.out _ hM1).mono ?_;rintro x w1 ⟨p,q,rfl,hb1⟩;have hr1:=brule hb1;have hg1:=frule hb1;have hM2:=hM1.below hb1 lr)
   | (with_reducible refine (CV.out _ hM2).mono ?_;rintro x w2 ⟨rfl,hb2⟩;have hB2:=Kd hb1 hb2;have hr2:=brule hB2;have hg2:=frule hB2;have hM3:=hM1.below hB2 lr)
   | (with_reducible refine (CH.out _).mono ?_;rintro x w' ⟨rfl,rfl⟩)
   | (with_reducible refine (CSi.out _).mono ?_;rintro x w3 ⟨rfl,hb3⟩;have hB3:=Kd hB2 hb3;have hr3:=brule hB3;have hg3:=frule hB3;have hM4:=hM1.below hB3 lr)
   | (with_reducible refine (CP.out _ hM4).mono ?_;rintro x w4 ⟨rfl,hb4⟩;have hB4:=Kd hB3 hb4;have hr4:=brule hB4;have hg4:=frule hB4)
   )
  refine bodyPost_ret (url_at Tryz.results189 _ _ M (hBl.below hB4 hml) _ _ _ _ _ _ _ rfl rfl) rfl ⟨(Kq Ending.returned hres.out).symm,?_⟩;rw [HK.out];exact below_set6 (hB1.trans (hB4.mono hKa)) hKM _ _ _ _ _ _
end Go.Proofs.YtjdhaacmlpegoaaGreatDoor
