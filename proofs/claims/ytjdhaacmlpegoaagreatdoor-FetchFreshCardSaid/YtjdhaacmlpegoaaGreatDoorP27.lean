/- Part 27 of what the proof needs: JP JQ0. -/
import Derived.Test.YtjdhaacmlpegoaaGreatDoorP26
import Derived.Test.YtjdhaacmlpegoaaGreatDoorP01
set_option maxRecDepth 20000
set_option maxHeartbeats 16000000
namespace Go.Proofs.YtjdhaacmlpegoaaGreatDoor
open Go.RowKit
set_option linter.unusedSimpArgs false
set_option linter.unusedVariables false
def ConfQ (w:World)(jb B:Nat)(v:Value)(en:En)(l0:List Ee)(e:Ending)(w':World):Prop:=∃ (r r':Er),e = .returned (.tuple #[eeA (r,en),.bool true])/\Rd w' r en/\CaTo w jb B v (l0 ++ [(r',en)]) w'/\NewE (r,en) w.heap.size/\NewE (r',en) w.heap.size
theorem own_new {w:World}{B e s n:Nat}{v:Value}{xs:List Value}(h:w.ownsRow B e s v n xs):∀ b off m c,v = .slice (some ⟨b,off,none⟩) m c->B<=b:=fun b off m c hv=>by
 obtain ⟨a,cap,hv2,_,_,ha⟩:=own_reads h
 rw [hv2] at hv
 injection hv with e1 _ _
 rcases ha with ⟨h1,_⟩ | ⟨g,h1,hg,_⟩
 ·rw [h1] at e1;cases e1
 ·rw [h1] at e1
  injection e1 with e1
  injection e1 with e1
  omega
theorem far_own {w:World}{B e s n q:Nat}{o:Option Nat}{v:Value}{xs:List Value}{hs:List Hd}(h:w.ownsRow B e s v n xs)(hq:v.ownBlock≠some q)(ho:∀ b,v.ownBlock=some b->o≠some b):FarV hs v q o:=by
 intro _ b off m c hv
 obtain ⟨a,cap,hv2,_,_,ha⟩:=own_reads h
 rw [hv2] at hv
 injection hv with e1 _ _
 rcases ha with ⟨h1,_⟩ | ⟨g,h1,_⟩
 ·rw [h1] at e1;cases e1
 ·rw [h1] at e1 hv2
  injection e1 with e1
  injection e1 with e1
  subst e1
  have hob:v.ownBlock=some g:=by rw [hv2];rfl
  exact ⟨fun e2=>hq (by rw [hob,e2]),ho g hob⟩
theorem rowto_ne {v v':Value}{n k:Nat}(h:RowTo v v' n)(h1:v.ownBlock≠some k)(h2:k<n):v'.ownBlock≠some k:=fun e=>by
 rcases h k e with h3 | h3
 ·exact h1 h3
 ·omega
theorem copo_open {w:World}{u:ByteArray}{vv:Value}{st:Int}{hh:Value}{bo:ByteArray}{ti:Int}{xe:En}{e:Ending}{w':World}(h:CopO w (⟨u,vv,st,hh,bo,ti⟩,xe) e w'):
 ∃ (a b:Option Addr) (c d:Nat),e = .returned (.agg #[.string u,.slice a xe.va.length c,.int .i64 st,.slice b xe.hd.length d,.string bo,.int .i64 ti])/\w'.ownsRow w.heap.size 70 2 (.slice a xe.va.length c) xe.va.length (cellsK hdC xe.va)/\w'.ownsRow w.heap.size 70 2 (.slice b xe.hd.length d) xe.hd.length (cellsK hdC xe.hd)/\(∀ g,(Value.slice a xe.va.length c).ownBlock=some g->(Value.slice b xe.hd.length d).ownBlock≠some g)/\Below w.heap.size w w':=h
theorem slk_take {w:World}{hs:List Hd}{b off n c:Nat}(h:SlK hdC 2 w (.slice (some ⟨b,off,none⟩) n c) hs)(hn:hs.length=n)(k:Nat)(hk:k<n):SlK hdC 2 w (.slice (some ⟨b,off,none⟩) k c) (hs.take k)/\k<=c:=by
 rcases h with ⟨rfl,_⟩ | ⟨h0,b2,off2,cap,hv,e2,e3,h4,h5⟩
 ·simp at hn;omega
 ·injection hv with v1 v2 v3
  injection v1 with v1
  injection v1 with v4 v5 _
  subst v3 v4 v5
  have hlk:(hs.take k).length=k:=by rw [List.length_take];omega
  refine ⟨?_,by omega⟩
  by_cases hz:k=0
  ·subst hz
   exact .inl ⟨by simp,_,_,rfl,e3⟩
  ·refine .inr ⟨fun e=>by rw [e] at hlk;simp at hlk;omega,b,off,c,by rw [hlk],by omega,e3,h4,fun i hi j u hu=>?_⟩
   rw [List.getElem_take] at hu
   exact h5 i (by omega) j u hu
theorem HdSz.take {hs:List Hd}(h:HdSz hs)(k:Nat):HdSz (hs.take k):=⟨by rw [List.length_take];have:=h.1;omega,fun d hd=>h.2 d (List.mem_of_mem_take hd)⟩
theorem conf_no (jb B:Nat)(v:Value)(l:List Ee)(w:World)(hJ:CaIn w jb B v l)(hz:∀ x∈l,HdSz x.2.va/\HdSz x.2.hd)(hl:l.length<=1000)(url:ByteArray)(rq:List Hd)(vr:Value)(hq:SlK hdC 2 w vr rq)(hzq:HdSz rq)(vh:Value)(now:Int)(hR:LastAt (fun x=>ansB x.2 url rq) l (-1)):
 Calls Tryz.prog 73 #[.pointer (some ⟨jb,0,none⟩),.string url,vr,vh,.int .i64 now] w fun e w'=>e = .returned (.tuple #[.agg #[.string ⟨#[]⟩,.slice none 0 0,.int .i64 0,.slice none 0 0,.string ⟨#[]⟩,.int .i64 0],.bool false])/\CaTo w jb B v l w':=by
 have R0:=AtL.new w zE 90
 have hB0:Below w.heap.size w (w.alloc (.cells zE.toArray 90)):=(Below.refl _ w).alloc lr _
 have J0:=hJ.below hB0 lr
 have q0:=hq.below hB0 lr
 have CF:=Lib.hid (find_is jb v l _ J0.at_ J0.reads (fun x hx=>⟨J0.rd x hx,(hz x hx).1⟩) hl url rq vr q0 hzq _ hR)
 have HJ:=Lib.hid hJ
 clear hJ hq hz hR J0 q0
 go_enter Tryz.func73,Tryz.ntmps73
 go_wp2_with (go_at_call 119;with_reducible refine CF.out.mono ?_;rintro e w1 ⟨rfl,hb1⟩;have hB1:=hB0.trans (hb1.mono hB0.size);have R1:=R0.next hb1;have rl1:=R1.lt;have r_:=R1.o6;have g_:=R1.of6)
 have RF:=R1.setE6 rfl (.string ⟨#[]⟩) (.slice none 0 0) (.int .i64 0) (.slice none 0 0) (.string ⟨#[]⟩) (.int .i64 0)
 exact bodyPost_ret (ret6t_run Tryz.results73 Tryz.sizeOf90 Tryz.isAgg90 _ _ w.heap.size _ _ _ _ _ _ _ rfl rfl RF) rfl ⟨rfl,cato_fin6 HJ.out hB1 (CaTo.refl (HJ.out.below hB1 lr)) (fun y hy=>FarE.new (HJ.out.rd y hy) lr) lr rl1 _ _ _ _ _ _⟩
theorem AtL.eq {W:World}{k:Nat}{vs vs':List Value}(h:AtL W k vs)(e:vs=vs'):AtL W k vs':=e ▸ h
theorem own_slice {w:World}{b e s n m c:Nat}{a:Option Addr}{xs:List Value}(h:w.ownsRow b e s (.slice a n c) n xs)(hm:n=m):w.ownsRow b e s (.slice a m c) n xs:=by subst hm;exact h
theorem ownb_len {a:Option Addr}{n c k:Nat}(h:(Value.slice a n c).ownBlock≠some k)(m:Nat):(Value.slice a m c).ownBlock≠some k:=by cases a <;> exact h
theorem rowto_len {v:Value}{a:Option Addr}{n c K:Nat}(h:RowTo v (.slice a n c) K)(m:Nat):RowTo v (.slice a m c) K:=by cases a <;> exact h
theorem set_erase {α:Type}(l:List α)(i:Nat)(y:α):(l.set i y).eraseIdx i=l.eraseIdx i:=by
 rw [List.eraseIdx_eq_take_drop_succ,List.eraseIdx_eq_take_drop_succ,List.take_set_of_le lr,List.drop_set_of_lt (by omega)]
theorem conf_last {w w':World}{jb B:Nat}{v:Value}{l:List Ee}{y:Ee}(h:CaTo w jb B v (l ++ [y]) w'):Rd w' y.1 y.2:=by
 obtain ⟨⟨v',h1,_⟩,_⟩:=h
 exact h1.rd y (by simp)
theorem conf_rowbut {v v':Value}{jb n:Nat}{w w4 w':World}(hr:RowBut n jb v.ownBlock w w4)(h:RowTo v v' n)(hg:RowBut w4.heap.size jb v'.ownBlock w4 w')(hn:n<=w4.heap.size):RowBut n jb v.ownBlock w w':=
 ⟨hg.os.trans hr.os,hg.tape.trans hr.tape,hg.output.trans hr.output,Nat.le_trans hr.size hg.size,fun k hk h1 h2=>(hg.block k (by omega) h1 (fun e=>by
  rcases h k e with h3 | h3
  ·exact h2 h3
  ·omega)).trans (hr.block k hk h1 h2)⟩
theorem conf_yes (jb B:Nat)(v:Value)(l:List Ee)(w:World)(hJ:CaIn w jb B v l)(hz:∀ x∈l,HdSz x.2.va/\HdSz x.2.hd)(hl:l.length<=1000)(url:ByteArray)(rq:List Hd)(vr:Value)(hq:SlK hdC 2 w vr rq)(hzq:HdSz rq)(hs:List Hd)(vh:Value)(hh:SlK hdC 2 w vh hs)(hzh:HdSz hs)(hhl:hs.length<=100)(now:Int)(i:Nat)(hi:i<l.length)(x:Ee)(hx:l[i]=x)(hxl:x.2.hd.length<=800)(hR:LastAt (fun x=>ansB x.2 url rq) l (i:Int)):
 Calls Tryz.prog 73 #[.pointer (some ⟨jb,0,none⟩),.string url,vr,vh,.int .i64 now] w (ConfQ w jb B v ⟨x.2.u,x.2.va,x.2.st,mergeL x.2.hd hs,x.2.bo,now⟩ (l.eraseIdx i)):=by
 have hjl:=hJ.at_.lt
 obtain ⟨a,cap,rfl,hcap,hcm,ha⟩:=own_reads hJ.own
 rcases ha with ⟨_,h0⟩ | ⟨g,rfl,hBg,hgw,hcell⟩
 ·omega
 have hmx:x∈l:=by rw [<-hx];exact List.getElem_mem hi
 have hrdx:=hJ.rd x hmx
 have hzx:=hz x hmx
 have cc:∀ j u,(eeC x)[j]? = some u->w.cell? ⟨g,i * 6+j,none⟩=some u:=fun j u hu=>hcell _ _ (cellsK_get eelen l i hi j u (by rw [hx];exact hu))
 have R0:=AtL.new w zE 90
 have hB0:Below w.heap.size w (w.alloc (.cells zE.toArray 90)):=(Below.refl _ w).alloc lr _
 have J0:=hJ.below hB0 lr
 have q0:=hq.below hB0 lr
 have CF:=Lib.hid (find_is jb _ l _ J0.at_ J0.reads (fun x hx=>⟨J0.rd x hx,(hz x hx).1⟩) hl url rq vr q0 hzq _ hR)
 have HJ:=Lib.hid hJ
 have HRD:=Lib.hid hrdx
 have HH:=Lib.hid hh
 have HZX:=Lib.hid hzx
 have hhz:=hzh.1
 have HZH:=Lib.hid hzh
 have hshp:=hrdx.shp
 obtain ⟨sa,sc,rfl,_⟩:=hq.shape
 obtain ⟨ha,hc,rfl,_⟩:=hh.shape
 have HHC:=Lib.hid (hd_cells hh rfl)
 have hii:(i:Int)<(l.length:Int):=by omega
 have hi0:(0:Int)<=(i:Int):=by omega
 have hgj:g≠jb:=fun e=>hJ.ne (by rw [e];rfl)
 have HI:=Lib.hid hi
 have hin:¬ (i:Int)<0:=by omega
 obtain ⟨⟨u,vv,st,hh0,bo,ti⟩,xe⟩:=x
 obtain ⟨⟨a1,n1,k1,e1⟩,a2,n2,k2,e2⟩:=hshp
 have e1:vv = .slice a1 n1 k1:=e1
 have e2:hh0 = .slice a2 n2 k2:=e2
 subst e1 e2
 have hxl:xe.hd.length<=800:=hxl
 have CC:=Lib.hid (fun (w:World) (hr:Rd w (⟨u,.slice a1 n1 k1,st,.slice a2 n2 k2,bo,ti⟩:Er) xe)=>cop_own (⟨u,.slice a1 n1 k1,st,.slice a2 n2 k2,bo,ti⟩,xe) w hr hzx.1.1 hzx.2.1)
 have HCC:=Lib.hid cc
 clear cc hcell hx hR hq hJ hz hrdx hmx hzx hh hzh hi J0 q0
 go_enter Tryz.func73,Tryz.ntmps73
 go_upto_region 6 with (first
  | (go_at_call 119;with_reducible refine CF.out.mono ?_;rintro e w1 ⟨rfl,hb1⟩;have hB1:=hB0.trans (hb1.mono hB0.size);have R1:=R0.next hb1;have J3:=HJ.out.below hB1 lr;have j0:=J3.at_.c 0 rfl;have jl3:=J3.at_.lt;have c0:=(brl hB1 _ _ hgw).trans (HCC.out 0 _ rfl);have c1:=(brl hB1 _ _ hgw).trans (HCC.out 1 _ rfl);have c2:=(brl hB1 _ _ hgw).trans (HCC.out 2 _ rfl);have c3:=(brl hB1 _ _ hgw).trans (HCC.out 3 _ rfl);have c4:=(brl hB1 _ _ hgw).trans (HCC.out 4 _ rfl);have c5:=(brl hB1 _ _ hgw).trans (HCC.out 5 _ rfl);simp only [Nat.add_zero] at c0)
  | (go_at_call 120;refine (CC.out _ (HRD.out.below hB1 lr)).mono ?_;rintro e w4 hq4;obtain ⟨a3,b3,c3',d3,rfl,hova,hovb,hdis,hb4⟩:=copo_open hq4;clear hq4 j0 c0 c1 c2 c3 c4 c5;skip))
 have hal5:=(Below.refl _ w4).alloc lr (.cells [.string u,.slice a3 xe.va.length c3',.int .i64 st,.slice b3 xe.hd.length d3,.string bo,.int .i64 now].toArray 90)
 have E5:=AtL.new w4 [.string u,.slice a3 xe.va.length c3',.int .i64 st,.slice b3 xe.hd.length d3,.string bo,.int .i64 now] 90
 have R5:=(R1.next hb4).next hal5
 have hB4:=hB1.trans (hb4.mono hB1.size)
 have hB5:=hB4.trans (hal5.mono hB4.size)
 have ova5:=own_below hova hal5 lr
 have ovb5:=own_below hovb hal5 lr
 have hva:=hown_lt hova
 have hvb:=hown_lt hovb
 obtain ⟨W5,hW5⟩:∃ W5:World,w4.alloc (.cells [.string u,.slice a3 xe.va.length c3',.int .i64 st,.slice b3 xe.hd.length d3,.string bo,.int .i64 now].toArray 90)=W5:=⟨_,rfl⟩
 obtain ⟨Rb,hRb⟩:∃ Rb,w.heap.size=Rb:=⟨_,rfl⟩
 obtain ⟨Eb,hEb⟩:∃ Eb,w4.heap.size=Eb:=⟨_,rfl⟩
 obtain ⟨N3,hN3⟩:∃ N3,w1.heap.size=N3:=⟨_,rfl⟩
 have hE5:=E5.lt
 rw [hW5] at E5 R5 hB5 ova5 ovb5 hE5
 rw [hN3] at ova5 ovb5
 rw [hEb] at E5 hva hvb hE5
 rw [hRb] at R5
 have hRN:Rb<N3:=by have:=R1.lt;omega
 have hNE:N3<=Eb:=by have:=hb4.size;omega
 have hwN:w.heap.size<=N3:=by omega
 have hgR:g<Rb:=by omega
 have hjR:jb<Rb:=by omega
 rw [show w4.alloc (.cells #[.string u,.slice a3 xe.va.length c3',.int .i64 st,.slice b3 xe.hd.length d3,.string bo,.int .i64 now] 90)=W5 from hW5,hRb,hEb]
 have HRb:=Lib.hid hRb
 obtain ⟨vb0,hvb0⟩:∃ vb0,(Value.slice b3 xe.hd.length d3)=vb0:=⟨_,rfl⟩
 have HVB:Hid (vb0.ownBlock≠some Eb):=Lib.hid (fun e=>by rw [<-hvb0] at e;have:=hvb _ e;omega)
 have HDIS:Hid (∀ g,(Value.slice a3 xe.va.length c3').ownBlock=some g->vb0.ownBlock≠some g):=Lib.hid (by rw [<-hvb0];exact hdis)
 have HVA:Hid ((Value.slice a3 xe.va.length c3').ownBlock≠some Eb):=Lib.hid (fun e=>by have:=hva _ e;omega)
 have HOVB:Hid (W5.ownsRow N3 70 2 vb0 xe.hd.length (cellsK hdC xe.hd)):=Lib.hid (by rw [<-hvb0];exact ovb5)
 have hto0:RowTo vb0 (.slice b3 xe.hd.length d3) W5.heap.size:=by rw [hvb0];exact RowTo.refl _ _
 have HB5:=Lib.hid hB5
 have HOVA:=Lib.hid ova5
 have HR5:=Lib.hid R5
 clear hW5 hRb hEb hN3 hvb0 R1 J3 hB4 hova hdis hb4 hB1 hb1 R0 hB0 hal5 hB5 hovb hva hvb ova5 R5 jl3
 have z0:=E5.c 0 rfl;have z1:=E5.c 1 rfl;have z2:=E5.c 2 rfl;have z3:=E5.c 3 rfl;have z4:=E5.c 4 rfl;have z5:=E5.c 5 rfl
 go_wp2_with fail
 go_loopw [37] (fun iv wr=>∃ (kk:Nat) (cl:List Hd) (ca:Option Addr) (cc:Nat),kk<=hs.length/\iv = .int .i64 kk/\Hid (mergeL xe.hd (hs.take kk)=cl)/\cl.length<=800+kk/\AtL wr Eb [.string u,.slice a3 xe.va.length c3',.int .i64 st,.slice ca cl.length cc,.string bo,.int .i64 now]/\wr.ownsRow N3 70 2 (.slice ca cl.length cc) cl.length (cellsK hdC cl)/\RowTo vb0 (.slice ca cl.length cc) W5.heap.size/\RowBut W5.heap.size Eb vb0.ownBlock W5 wr) (fun iv _=>hs.length - (intOf iv).toNat)
 case atStart=>exact ⟨0,xe.hd,b3,d3,Nat.zero_le _,rfl,Lib.hid (merge_nil _),hxl,E5,ovb5,hto0,RowBut.refl _ _ _ _⟩
 case round=>
  obtain ⟨kk,cl,ca,cc,hk,rfl,HCL,hcl,AE,hown,hto,hbb⟩:=hrel
  have hwz:=hbb.size
  have hBw:Below N3 W5 wr:=hbb.lowB HOVB.out hNE (by omega)
  have hBW:Below w.heap.size w wr:=HB5.out.trans (hBw.mono hwN)
  have ael:=AE.lt
  by_cases hlt:kk<hs.length
  ·obtain ⟨b0,off,rfl,hb0,hcell⟩:=HHC.out (by omega)
   have cc1:∀ j u,(hdC hs[kk])[j]? = some u->wr.cell? ⟨b0,off+kk * 2+j,none⟩=some u:=fun j u hu=>(brl hBW _ _ hb0).trans (hcell kk hlt j u hu)
   have hst:=merge_step xe.hd hs kk hlt _ rfl
   have hsz:=HZH.out.2 _ (List.getElem_mem hlt)
   obtain ⟨y,hy⟩:∃ y,hs[kk]=y:=⟨_,rfl⟩
   rw [hy] at cc1 hst hsz
   rw [HCL.out] at hst
   obtain ⟨yn,yv⟩:=y
   have hyn:yn.size<=100000:=hsz.1
   have c0:=cc1 0 _ rfl
   have c1:=cc1 1 _ rfl
   simp only [Nat.add_zero] at c0
   clear cc1 hsz hy hcell
   have hki:(kk:Int)<(hs.length:Int):=by omega
   have hal:=(Below.refl _ wr).alloc lr (.cells (hdC (yn,yv)).toArray 70)
   have X0:=AtL.new wr (hdC (yn,yv)) 70
   have AE0:=AE.next hal
   have own0:=own_below hown hal lr
   have hbb0:=hbb.below hal hwz
   have hlt0:=hown_lt hown
   obtain ⟨hpre0,hkc⟩:=slk_take (HH.out.below (hBW.trans (hal.mono hBW.size)) lr) rfl kk hlt
   have hkc':(kk:Int)<=(hc:Int):=by omega
   have HDZ:Hid (∀ d∈cl,d.1.size<=100000):=Lib.hid (fun d hd=>by
    rcases merge_mem xe.hd (hs.take kk) d (by rw [HCL.out];exact hd) with h1 | h1
    ·exact (HZX.out.2.2 d h1).1
    ·exact (HZH.out.2 d (List.mem_of_mem_take h1)).1)
   obtain ⟨R,hR⟩:∃ R,hasH (hs.take kk) (yn,yv)=R:=⟨_,rfl⟩
   have hR2:(hdrL (hs.take kk) yn.data.toList).isSome=R:=hR
   rw [hR] at hst
   obtain ⟨V,hV⟩:∃ V,(hdrL (hs.take kk) yn.data.toList).getD ⟨#[]⟩=V:=⟨_,rfl⟩
   have CHd:=Lib.hid (fun (w':World) hv=>hdr_at (hs.take kk) (.slice (some ⟨b0,off,none⟩) kk hc) yn w' hv (HZH.out.take kk) hyn V R hV hR2)
   have HST0:=Lib.hid hst
   clear hst hR hR2 hV HCL z0 z1 z2 z3 z4 z5
   go_upto_region 9 with fail
   obtain ⟨WA,hWA⟩:∃ WA:World,wr.alloc (.cells (hdC (yn,yv)).toArray 70)=WA:=⟨_,rfl⟩
   obtain ⟨X,hX⟩:∃ X,wr.heap.size=X:=⟨_,rfl⟩
   rw [hWA] at hal X0 AE0 own0 hbb0 hpre0
   rw [hX] at X0 hlt0 ael
   rw [show wr.alloc (.cells #[.string yn,.string yv] 70)=WA from hWA,hX]
   have hXE:X≠Eb:=by omega
   have HXo:Hid ((Value.slice ca cl.length cc).ownBlock≠some X):=Lib.hid (fun e=>by have:=hlt0 _ e;omega)
   clear hWA hX hal hlt0 c0 c1
   have x0:=X0.c 0 rfl;have x1:=X0.c 1 rfl
   have xl0:=X0.lt
   have hpred:=hpre0.below (Below.refl _ WA).drew lr
   cases R with
   | true=>
     have HST:Hid (mergeL xe.hd (hs.take (kk+1))=cl ++ [(yn,yv)]):=Lib.hid HST0.out
     go_region_held3 (fun w'=>w'.cell? ⟨X,0,none⟩=some (.string yn)) (first | exact (brl (Below.refl _ WA).drew _ _ X0.lt).trans (X0.c 0 rfl) | exact (brl hb6 _ _ X0.lt).trans (X0.c 0 rfl) | go_keep)
      (first | (go_at_call 15;(with_reducible refine (CHd.out WA.drew hpred).mono ?_);rintro e w6 ⟨rfl,hbb6⟩;have hb6:=(Below.refl _ WA).drew.trans hbb6))
     have AE6:=AE0.next hb6
     have X6:=X0.next hb6
     have od6:=own_below own0 hb6 lr
     have hbd6:=hbb0.below hb6 hbb0.size
     clear x0 x1
     go_upto_region 12 with fail
     obtain ⟨wd,hwd⟩:∃ wd,w6=wd:=⟨_,rfl⟩
     rw [hwd] at AE6 X6 od6 hbd6
     rw [hwd]
     obtain ⟨cl2,hcl2⟩:∃ cl2,cl=cl2:=⟨_,rfl⟩
     have htd:=hto
     rw [hcl2] at AE6 od6 hcl HST htd
     have AEd:=AE6
     have Xd:=X6
     have od:=od6
     have hbd:=hbd6
     have hcl3:=hcl
     clear AE6 X6 od6 hbd6 hcl2 hwd hto hbb AE hown own0 AE0 X0 hbb0
     have hned:=rowto_ne htd HVB.out hE5
     have hNd:N3<=wd.heap.size:=by have:=hbd.size;omega
     have hcld:cl2.length<=900:=by omega
     have z0:=AEd.c 0 rfl;have z1:=AEd.c 1 rfl;have z2:=AEd.c 2 rfl;have z3:=AEd.c 3 rfl;have z4:=AEd.c 4 rfl;have z5:=AEd.c 5 rfl
     have x0:=Xd.c 0 rfl;have x1:=Xd.c 1 rfl
     have ael:=AEd.lt
     have xdl:=Xd.lt
     go_wp2_with (refine app2 slH wd (by rfl) (.tmp 59) (.tmp 61) (by rfl) N3 _ _ _ (by rfl) od [.string yn,.string yv] 1 wd.heap.size (by rfl) rfl (by rfl) (by intro u hu;simp at hu;rcases hu with rfl | rfl <;> rfl) (by decide) (by omega) (by omega) hNd ?_;intro v11 w11 o11 g11 f11;obtain ⟨ub,uk,rfl,_,_,_⟩:=own_reads o11;have A11:=AEd.grown g11 hned;clear z0 z1 z2 z3 z4 z5;have z3:=A11.c 3 rfl;have y3:=A11.f 3 rfl;have al11:=A11.lt)
     go_roundw
     case rel=>
      have hto:RowTo vb0 (.slice ub (cl2.length+1) uk) W5.heap.size:=fun g e=>by
       obtain ⟨g2,e2,e3⟩:=f11
       rw [e] at e2
       injection e2 with e2
       subst e2
       rcases e3 with e3 | e3
       ·exact htd g e3
       ·right;have:=hbd.size;omega
      have hne:=rowto_ne hto HVB.out hE5
      exact ⟨kk+1,cl2 ++ [(yn,yv)],ub,uk,by omega,by go_num,HST,by simp;omega,AtL.eq (A11.set 3 _) (by simp),own_eq (own_cell (o:=3) (own_slice o11 (by simp)) (ownb_len hne _) _) (by simp) (by rw [cellsK_app];rfl),rowto_len hto _,(RowTo.grown htd hbd g11 hbd.size).setCell ⟨Eb,3,none⟩ (Or.inl rfl) _⟩
     case measure=>simp [intOf];omega
   | false=>
     have HST:Hid (mergeL xe.hd (hs.take (kk+1))=cl.filter (fun d=>!sameH (yn,yv) d) ++ [(yn,yv)]):=Lib.hid HST0.out
     have hfl:=List.length_filter_le (fun d=>!sameH (yn,yv) d) cl
     go_region_held3 (fun w'=>w'.cell? ⟨X,0,none⟩=some (.string yn)) (first | exact (brl (Below.refl _ WA).drew _ _ X0.lt).trans (X0.c 0 rfl) | exact (brl hb6 _ _ X0.lt).trans (X0.c 0 rfl) | go_keep)
      (first | (go_at_call 15;(with_reducible refine (CHd.out WA.drew hpred).mono ?_);rintro e w6 ⟨rfl,hbb6⟩;have hb6:=(Below.refl _ WA).drew.trans hbb6))
     have AE6:=AE0.next hb6
     have X6:=X0.next hb6
     have od6:=own_below own0 hb6 lr
     have hbd6:=hbb0.below hb6 hbb0.size
     have hne6:=rowto_ne hto HVB.out hE5
     clear x0 x1
     have z0:=AE6.c 0 rfl;have z1:=AE6.c 1 rfl;have z2:=AE6.c 2 rfl;have z3:=AE6.c 3 rfl;have z4:=AE6.c 4 rfl;have z5:=AE6.c 5 rfl
     have al6:=AE6.lt
     go_upto_region 12 with (first
      | (go_at_call 121;refine (hddel (fun d=>sameH (yn,yv) d) 122 #[.pointer (some ⟨X,0,none⟩)] (enters_of Tryz.func122 (by kernel_rfl) rfl) cl (.slice ca cl.length cc) w6 N3 od6 (fun W d hd hRB=>conf_clos (yn,yv) d X W (X6.row (hRB Eb) X6.lt hXE HXo.out) (HDZ.out d hd) hyn _ rfl) (by omega)).mono ?_;rintro e w7 hq7;obtain ⟨a7,c7,rfl,ho7,hob7,hr7⟩:=delq_open hq7;clear hq7 z0 z1 z2 z3 z4 z5;have AE7:=AE6.row (hr7 X) AE6.lt (fun e=>hXE e.symm) hne6;have X7:=X6.row (hr7 Eb) X6.lt hXE HXo.out;have z3:=AE7.c 3 rfl;have f3:=AE7.f 3 rfl;have al7:=AE7.lt))
     have hne7:(Value.slice a7 (cl.filter (fun d=>!sameH (yn,yv) d)).length c7).ownBlock≠some Eb:=by rw [hob7];exact hne6
     have hto7:RowTo vb0 (.slice a7 (cl.filter (fun d=>!sameH (yn,yv) d)).length c7) W5.heap.size:=fun g e=>hto g (by rw [<-hob7];exact e)
     have hbd7:=conf_rowbut hbd6 hto (hr7 Eb) hbd6.size
     have AE8:=AE7.set 3 (.slice a7 (cl.filter (fun d=>!sameH (yn,yv) d)).length c7)
     have X8:=X7.far ⟨Eb,3,none⟩ (.slice a7 (cl.filter (fun d=>!sameH (yn,yv) d)).length c7) (fun e=>hXE e.symm)
     have od8:=own_cell (o:=3) ho7 hne7 (.slice a7 (cl.filter (fun d=>!sameH (yn,yv) d)).length c7)
     have hbd8:=hbd7.setCell ⟨Eb,3,none⟩ (Or.inl rfl) (.slice a7 (cl.filter (fun d=>!sameH (yn,yv) d)).length c7)
     obtain ⟨wd,hwd⟩:∃ wd:World,w7.setCell ⟨Eb,3,none⟩ (.slice a7 (cl.filter (fun d=>!sameH (yn,yv) d)).length c7)=wd:=⟨_,rfl⟩
     rw [hwd] at AE8 X8 od8 hbd8
     rw [hwd]
     obtain ⟨cl2,hcl2⟩:∃ cl2,cl.filter (fun d=>!sameH (yn,yv) d)=cl2:=⟨_,rfl⟩
     rw [hcl2] at AE8 od8 HST hto7 hfl
     have htd:=hto7
     have AEd:=AE8
     have Xd:=X8
     have od:=od8
     have hbd:=hbd8
     have hcl3:cl2.length<=800+kk:=by omega
     clear AE8 X8 od8 hbd8 hcl2 hwd hto hbb AE hown own0 AE0 X0 hbb0 AE6 X6 od6 hbd6 hbd7 AE7 X7 ho7 hob7 hr7 hne7 hto7 z3 f3 al7 al6
     have hned:=rowto_ne htd HVB.out hE5
     have hNd:N3<=wd.heap.size:=by have:=hbd.size;omega
     have hcld:cl2.length<=900:=by omega
     have z0:=AEd.c 0 rfl;have z1:=AEd.c 1 rfl;have z2:=AEd.c 2 rfl;have z3:=AEd.c 3 rfl;have z4:=AEd.c 4 rfl;have z5:=AEd.c 5 rfl
     have x0:=Xd.c 0 rfl;have x1:=Xd.c 1 rfl
     have ael:=AEd.lt
     have xdl:=Xd.lt
     go_wp2_with (refine app2 slH wd (by rfl) (.tmp 59) (.tmp 61) (by rfl) N3 _ _ _ (by rfl) od [.string yn,.string yv] 1 wd.heap.size (by rfl) rfl (by rfl) (by intro u hu;simp at hu;rcases hu with rfl | rfl <;> rfl) (by decide) (by omega) (by omega) hNd ?_;intro v11 w11 o11 g11 f11;obtain ⟨ub,uk,rfl,_,_,_⟩:=own_reads o11;have A11:=AEd.grown g11 hned;clear z0 z1 z2 z3 z4 z5;have z3:=A11.c 3 rfl;have y3:=A11.f 3 rfl;have al11:=A11.lt)
     go_roundw
     case rel=>
      have hto:RowTo vb0 (.slice ub (cl2.length+1) uk) W5.heap.size:=fun g e=>by
       obtain ⟨g2,e2,e3⟩:=f11
       rw [e] at e2
       injection e2 with e2
       subst e2
       rcases e3 with e3 | e3
       ·exact htd g e3
       ·right;have:=hbd.size;omega
      have hne:=rowto_ne hto HVB.out hE5
      exact ⟨kk+1,cl2 ++ [(yn,yv)],ub,uk,by omega,by go_num,HST,by simp;omega,AtL.eq (A11.set 3 _) (by simp),own_eq (own_cell (o:=3) (own_slice o11 (by simp)) (ownb_len hne _) _) (by simp) (by rw [cellsK_app];rfl),rowto_len hto _,(RowTo.grown htd hbd g11 hbd.size).setCell ⟨Eb,3,none⟩ (Or.inl rfl) _⟩
     case measure=>simp [intOf];omega
  ·obtain rfl:kk=hs.length:=by omega
   have hCL:=HCL.out
   rw [List.take_length] at hCL
   obtain ⟨Y,hY⟩:∃ Y:Ee,((⟨u,.slice a3 xe.va.length c3',st,.slice ca cl.length cc,bo,now⟩,⟨xe.u,xe.va,xe.st,mergeL xe.hd hs,xe.bo,now⟩):Ee)=Y:=⟨_,rfl⟩
   have Jr:=HJ.out.below hBW lr
   have Rr:=HR5.out.row hbb (by have:=HR5.out.lt;exact this) (by omega) (fun e=>by have:=own_base HOVB.out e;omega)
   have sva:SlK hdC 2 wr (.slice a3 xe.va.length c3') xe.va:=slk_row (SlK.of_own hdC_len HOVA.out) hbb lr (far_own HOVA.out HVA.out (fun b e e2=>HDIS.out b e e2))
   have shd:SlK hdC 2 wr (.slice ca cl.length cc) (mergeL xe.hd hs):=by rw [hCL];exact SlK.of_own hdC_len hown
   have hYr:Rd wr Y.1 Y.2:=by rw [<-hY];exact ⟨HRD.out.u,HRD.out.st,HRD.out.bo,rfl,sva,shd⟩
   have hfar:∀ (q:Nat) (o:Option Nat),q<N3->(∀ b,o=some b->b<N3)->FarE Y q o:=fun q o hq ho=>by
    rw [<-hY]
    exact ⟨far_own HOVA.out (fun e=>by have:=own_base HOVA.out e;omega) (fun b e e2=>by have:=own_base HOVA.out e;have:=ho b e2;omega),far_own hown (fun e=>by have:=own_base hown e;omega) (fun b e e2=>by have:=own_base hown e;have:=ho b e2;omega)⟩
   have hYl:Y.2.va.length<=1000000/\Y.2.hd.length<=1000000:=by
    rw [<-hY]
    exact ⟨HZX.out.1.1,by show (mergeL xe.hd hs).length<=1000000;have:=merge_len xe.hd hs;omega⟩
   have hfr:=own_free Jr.own
   have j0:=Jr.at_.c 0 rfl
   have jlr:=Jr.at_.lt
   have t0:=hfr (i * 6)
   have t1:=hfr (i * 6+1)
   have t2:=hfr (i * 6+2)
   have t3:=hfr (i * 6+3)
   have t4:=hfr (i * 6+4)
   have t5:=hfr (i * 6+5)
   have c0:=(brl hBW _ _ hgw).trans (HCC.out 0 _ rfl)
   have c1:=(brl hBW _ _ hgw).trans (HCC.out 1 _ rfl)
   have c2:=(brl hBW _ _ hgw).trans (HCC.out 2 _ rfl)
   have c3:=(brl hBW _ _ hgw).trans (HCC.out 3 _ rfl)
   have c4:=(brl hBW _ _ hgw).trans (HCC.out 4 _ rfl)
   have c5:=(brl hBW _ _ hgw).trans (HCC.out 5 _ rfl)
   simp only [Nat.add_zero] at c0
   have hgwr:g<wr.heap.size:=by have:=hBW.size;omega
   obtain ⟨J7,RB7⟩:=Jr.put rfl i HI.out Y hYr (hfar jb (some g) (by omega) (fun b e=>by injection e with e;omega))
   have HJ7:=Lib.hid J7
   have HRB7:=Lib.hid RB7
   have E7:=AE.row RB7 AE.lt (by omega) (fun e=>by injection e with e;omega)
   have R7:=Rr.row RB7 Rr.lt (by omega) (fun e=>by injection e with e;omega)
   have HFAR:=Lib.hid hfar
   have HNW:Hid (NewE ((⟨u,.slice a3 xe.va.length c3',st,.slice ca cl.length cc,bo,now⟩,⟨xe.u,xe.va,xe.st,mergeL xe.hd hs,xe.bo,now⟩):Ee) w.heap.size):=Lib.hid ⟨fun b off n k e=>Nat.le_trans hwN (own_new HOVA.out b off n k e),fun b off n k e=>Nat.le_trans hwN (own_new hown b off n k e)⟩
   have HY:=Lib.hid hY
   have HBW:=Lib.hid hBW
   have HYL:=Lib.hid hYl
   have HRW:Hid (Rb<wr.heap.size):=Lib.hid Rr.lt
   have y0:=AE.c 0 rfl;have y1:=AE.c 1 rfl;have y2:=AE.c 2 rfl;have y3:=AE.c 3 rfl;have y4:=AE.c 4 rfl;have y5:=AE.c 5 rfl
   clear hCL sva shd hYr hfar hYl hfr Jr J7 RB7 Rr HCL z0 z1 z2 z3 z4 z5
   go_wp2_with fail
   go_region_with fail
   all_goals
    obtain ⟨W7,hW7⟩:∃ W7:World,(eeput wr g (i * 6) Y).drew=W7:=⟨_,rfl⟩
    rw [show ((((((wr.setCell ⟨g,i * 6,none⟩ (.string u)).setCell ⟨g,i * 6+1,none⟩ (.slice a3 xe.va.length c3')).setCell ⟨g,i * 6+2,none⟩ (.int .i64 st)).setCell ⟨g,i * 6+3,none⟩ (.slice ca cl.length cc)).setCell ⟨g,i * 6+4,none⟩ (.string bo)).setCell ⟨g,i * 6+5,none⟩ (.int .i64 now)).drew=W7 from by rw [<-hW7,<-HY.out]]
    have J8:=HJ7.out.below (Below.refl _ _).drew lr
    have RB8:=HRB7.out.below (Below.refl wr.heap.size _).drew lr
    have E8:=E7.drew
    have R8:=R7.drew
    rw [hW7] at J8 RB8 E8 R8
    have HRB8:=Lib.hid RB8
    have CM:=Lib.hid (move_is jb B _ (l.set i Y) W7 J8 i (by rw [List.length_set];exact HI.out) (by rw [List.length_set];exact hl) Y (by simp))
    have hgE:g≠Eb:=by omega
    have hjE:Eb≠jb:=by omega
    have hjR':Rb≠jb:=by omega
    have hgRb:g≠Rb:=by omega
    have CC2:=Lib.hid (fun (w8:World) (hr:Rd w8 Y.1 Y.2)=>cop_is Y w8 hr HYL.out.1 HYL.out.2)
    have hEq:=HY.out
    clear hW7 J8 RB8 E7 R7 j0 c0 c1 c2 c3 c4 c5 t0 t1 t2 t3 t4 t5 y0 y1 y2 y3 y4 y5 AE hown
    rw [<-hEq] at CC2
    clear hEq
    go_wp2_with (first
     | (go_at_call 123;(with_reducible refine CM.out.mono ?_);rintro e w8 ⟨rfl,hto8⟩;have E9:=E8.row hto8.2 E8.lt hjE (fun e=>by injection e with e;exact hgE e);have R9:=R8.row hto8.2 R8.lt hjR' (fun e=>by injection e with e;exact hgRb e);have HTO:=Lib.hid hto8;have y0:=E9.c 0 rfl;have y1:=E9.c 1 rfl;have y2:=E9.c 2 rfl;have y3:=E9.c 3 rfl;have y4:=E9.c 4 rfl;have y5:=E9.c 5 rfl;have el9:=E9.lt;clear hto8)
     | (go_at_call 120;refine (CC2.out _ (by have h:=conf_last HTO.out;rw [<-HY.out] at h;exact h)).mono ?_;rintro e w9 hq9;obtain ⟨⟨⟨pu,pv,ps,ph,pb,pt⟩,pe⟩,rfl,hxe,hrd9,hb9,hnv,hnh⟩:=hq9;obtain ⟨⟨a9,n9,k9,e9⟩,a10,n10,k10,e10⟩:=Rd.shp hrd9;have e9:pv = .slice a9 n9 k9:=e9;have e10:ph = .slice a10 n10 k10:=e10;subst e9 e10;have hxe:pe=⟨xe.u,xe.va,xe.st,mergeL xe.hd hs,xe.bo,now⟩:=hxe;subst hxe;have R10:=R9.next hb9;clear y0 y1 y2 y3 y4 y5;have r_:=R10.o6;have f0:=R10.f 0 rfl;have f1:=R10.f 1 rfl;have f2:=R10.f 2 rfl;have f3:=R10.f 3 rfl;have f4:=R10.f 4 rfl;have f5:=R10.f 5 rfl;have rl10:=R10.lt))
    have RF:=R10.setE6 rfl (.string pu) (.slice a9 n9 k9) (.int .i64 ps) (.slice a10 n10 k10) (.string pb) (.int .i64 pt)
    have T9:=(CaTo.trans (l:=l) (RowTo.refl _ _) HRB8.out HTO.out).below hb9
    rw [set_erase] at T9
    have hR9:=R9.lt
    have hfar9:∀ y∈l.eraseIdx i ++ [Y],FarE y Rb none:=fun y hy=>by
     rcases List.mem_append.1 hy with h1 | h1
     ·exact FarE.new (HJ.out.rd y (List.mem_of_mem_eraseIdx h1)) (Nat.le_of_eq HRb.out)
     ·obtain rfl:=List.mem_singleton.1 h1
      exact HFAR.out Rb none hRN (fun b e=>by cases e)
    have TF:=cato_fin6 HJ.out HBW.out T9 hfar9 (Nat.le_of_eq HRb.out) HRW.out (.string pu) (.slice a9 n9 k9) (.int .i64 ps) (.slice a10 n10 k10) (.string pb) (.int .i64 pt)
    rw [<-HY.out] at TF
    have hf1:FarV xe.va (.slice a9 n9 k9) Rb none:=fun _ b off n c e=>⟨by have:=hnv b off n c e;omega,by simp⟩
    have hf2:FarV (mergeL xe.hd hs) (.slice a10 n10 k10) Rb none:=fun _ b off n c e=>⟨by have:=hnh b off n c e;omega,by simp⟩
    exact bodyPost_ret (ret6t_run Tryz.results73 Tryz.sizeOf90 Tryz.isAgg90 _ _ Rb _ _ _ _ _ _ _ rfl rfl RF) rfl ⟨⟨pu,.slice a9 n9 k9,ps,.slice a10 n10 k10,pb,pt⟩,_,rfl,⟨hrd9.u,hrd9.st,hrd9.bo,hrd9.ti,slk_setE6 hrd9.va hf1 _ _ _ _ _ _,slk_setE6 hrd9.hd hf2 _ _ _ _ _ _⟩,TF,⟨fun b off n k e=>by have:=hnv b off n k e;have:=HRb.out;omega,fun b off n k e=>by have:=hnh b off n k e;have:=HRb.out;omega⟩,HNW.out⟩
theorem map_get2 {lx l:List Ee}(h:lx.map (·.2)=l.map (·.2))(j:Nat)(hj:j<lx.length)(hj2:j<l.length):lx[j].2=l[j].2:=by
 have:=congrArg (fun z=>z[j]?) h
 simp only [List.getElem?_map,List.getElem?_eq_getElem hj,List.getElem?_eq_getElem hj2,Option.map_some,Option.some.injEq] at this
 exact this
theorem lastAt_of_map2 (p:En->Bool){lx l:List Ee}(h:lx.map (·.2)=l.map (·.2)){R:Int}(hR:LastAt (fun x=>p x.2) l R):LastAt (fun x=>p x.2) lx R:=by
 have hl:lx.length=l.length:=by have:=congrArg List.length h;simpa using this
 rcases hR with ⟨h1,h2⟩ | ⟨k,hk,h1,h2,h3⟩
 ·exact .inl ⟨h1,fun j hj=>by show p lx[j].2=false;rw [map_get2 h j hj (by omega)];exact h2 j (by omega)⟩
 ·exact .inr ⟨k,by omega,h1,by show p lx[k].2=true;rw [map_get2 h k (by omega) hk];exact h2,fun j hj hlt=>by show p lx[j].2=false;rw [map_get2 h j hj (by omega)];exact h3 j (by omega) hlt⟩
theorem erase_map {α β:Type}(f:α->β)(l:List α)(i:Nat):(l.eraseIdx i).map f=(l.map f).eraseIdx i:=by
 rw [List.eraseIdx_eq_take_drop_succ,List.eraseIdx_eq_take_drop_succ,List.map_append,List.map_take,List.map_drop]
def ConfR (w:World)(jb B:Nat)(v:Value)(l:List Ee)(ok:Bool)(en:En)(es:List En)(e:Ending)(w':World):Prop:=
 ∃ (u:ByteArray) (a1:Option Addr) (n1 k1:Nat) (st:Int) (a2:Option Addr) (n2 k2:Nat) (bo:ByteArray) (ti:Int) (L:List Ee),e = .returned (.tuple #[.agg #[.string u,.slice a1 n1 k1,.int .i64 st,.slice a2 n2 k2,.string bo,.int .i64 ti],.bool ok])/\Rd w' (⟨u,.slice a1 n1 k1,st,.slice a2 n2 k2,bo,ti⟩:Er) en/\NewE (⟨u,.slice a1 n1 k1,st,.slice a2 n2 k2,bo,ti⟩,en) w.heap.size/\CaTo w jb B v L w'/\L.map (·.2)=es/\∀ y∈L,y∈l\/NewE y w.heap.size
def confE (e:En)(hs:List Hd)(now:Int):En:=⟨e.u,e.va,e.st,mergeL e.hd hs,e.bo,now⟩
theorem conf_any (l:List Ee)(url:ByteArray)(rq hs:List Hd)(now:Int)(hz:∀ x∈l,HdSz x.2.va/\HdSz x.2.hd)(hl:l.length<=1000)(hzq:HdSz rq)(hzh:HdSz hs)(hhl:hs.length<=100)(hxl:∀ x∈l,x.2.hd.length<=800)(R:Int)(hR:LastAt (fun x:Ee=>ansB x.2 url rq) l R):
 ∃ (ok : Bool) (en : En) (es : List En), ((R = -1 ∧ ok = false ∧ en = en0 ∧ es = l.map (·.2)) ∨ ∃ i, ∃ hi : i < l.length, R = (i : Int) ∧ ok = true ∧ en = confE l[i].2 hs now ∧ es = (l.map (·.2)).eraseIdx i ++ [en]) ∧ en.va.length ≤ 1000000 ∧ en.hd.length ≤ 1000000 ∧
   ∀ (lx:List Ee),lx.map (·.2)=l.map (·.2)->(∀ x∈lx,HdSz x.2.va/\HdSz x.2.hd)->∀ (jb B:Nat) (v:Value) (w:World) (vr vh:Value),CaIn w jb B v lx->SlK hdC 2 w vr rq->SlK hdC 2 w vh hs->Calls Tryz.prog 73 #[.pointer (some ⟨jb,0,none⟩),.string url,vr,vh,.int .i64 now] w (ConfR w jb B v lx ok en es):=by
 have hll:∀ lx:List Ee,lx.map (·.2)=l.map (·.2)->lx.length=l.length:=fun lx h=>by have:=congrArg List.length h;simpa using this
 have hLX:∀ lx:List Ee,lx.map (·.2)=l.map (·.2)->LastAt (fun x:Ee=>ansB x.2 url rq) lx R:=fun lx h=>lastAt_of_map2 (fun e=>ansB e url rq) h hR
 have hbd:=hR.bd
 by_cases hR1:R = -1
 ·subst hR1
  refine ⟨false,en0,_,.inl ⟨rfl,rfl,rfl,rfl⟩,by decide,by decide,fun lx h hzx jb B v w vr vh hJ hq hh=>?_⟩
  refine (conf_no jb B v lx w hJ hzx (by rw [hll lx h];exact hl) url rq vr hq hzq vh now (hLX lx h)).mono ?_
  rintro e w' ⟨rfl,h2⟩
  exact ⟨⟨#[]⟩,none,0,0,0,none,0,0,⟨#[]⟩,0,lx,rfl,rd0 _,⟨fun b off n k e=>(by cases e),fun b off n k e=>(by cases e)⟩,h2,h,fun y hy=>.inl hy⟩
 ·obtain ⟨i,rfl⟩:∃ i:Nat,R=(i:Int):=⟨R.toNat,by omega⟩
  have hi:i<l.length:=by omega
  have hzi:=hz _ (List.getElem_mem hi)
  have hxi:=hxl _ (List.getElem_mem hi)
  have hml:=merge_len l[i].2.hd hs
  refine ⟨true,confE l[i].2 hs now,_,.inr ⟨i,hi,rfl,rfl,rfl,rfl⟩,hzi.1.1,by show (mergeL l[i].2.hd hs).length<=1000000;omega,fun lx h hzx jb B v w vr vh hJ hq hh=>?_⟩
  have hi2:i<lx.length:=by rw [hll lx h];exact hi
  have he:=map_get2 h i hi2 hi
  refine (conf_yes jb B v lx w hJ hzx (by rw [hll lx h];exact hl) url rq vr hq hzq hs vh hh hzh hhl now i hi2 _ rfl (by rw [he];exact hxi) (hLX lx h)).mono ?_
  rintro e w' ⟨r,r',rfl,h2,h3,h4,h5⟩
  rw [he] at h2 h3 h4 h5
  have hs2:=Rd.shp (x:=(r,_)) h2
  obtain ⟨⟨a1,n1,k1,e1⟩,a2,n2,k2,e2⟩:=hs2
  obtain ⟨u,vv,st,hh2,bo,ti⟩:=r
  have e1:vv = .slice a1 n1 k1:=e1
  have e2:hh2 = .slice a2 n2 k2:=e2
  subst e1 e2
  refine ⟨u,a1,n1,k1,st,a2,n2,k2,bo,ti,_,rfl,h2,h4,h3,?_,fun y hy=>?_⟩
  ·rw [List.map_append,erase_map,h];rfl
  ·rcases List.mem_append.1 hy with h6 | h6
   ·exact .inl (List.mem_of_mem_eraseIdx h6)
   ·obtain rfl:=List.mem_singleton.1 h6;exact .inr h5
end Go.Proofs.YtjdhaacmlpegoaaGreatDoor
