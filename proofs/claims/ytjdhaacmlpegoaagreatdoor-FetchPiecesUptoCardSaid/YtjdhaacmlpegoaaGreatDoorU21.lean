/- Part 21 of what the proof needs: XS XT XU XW. -/
import Derived.Test.YtjdhaacmlpegoaaGreatDoorU20
set_option maxRecDepth 20000
set_option maxHeartbeats 16000000
set_option linter.unusedSimpArgs false
set_option linter.unusedVariables false
namespace Go.Proofs.YtjdhaacmlpegoaaGreatDoor
open Go.RowKit
theorem app_whr {P:Program}{T E size bytes:Nat}(ty:SlTy P T E size bytes)(W:World){ops:Array Oper}{rest:List Oper}{o:Oper}{a:Act}{Q:Exit->Act->World->Prop}
 (hgd:o.guard=none) (s x:Operand) (ho:o.op = .call { callee:=.builtin .append,args:=#[s,x],argTypes:=#[T,T] })
 (B:Nat) (v:Value) (n:Nat) (xs:List Value) (hs:a.eval s=v) (hown:W.ownsRow B E size v n xs) (news:List Value) (A:Option Addr) (m c:Nat)
 (hx:a.eval x = .slice A m c) (hl:news.length=m * size) (hc:(A=none/\m=0)\/∃ ad,A=some ad/\∀ j u,news[j]? = some u->W.cell? (ad.add j)=some u) (hm:0<m) (h1:∀ u∈news,u.oneCell'=true)
 (hb:(n+m) * bytes<=140737488355328) (hn:n+m<=140737488355328) (hB:B<=W.heap.size)
 (h:∀ v' w',w'.ownsRow B E size v' (n+m) (xs ++ news)->W.grownBy w' v.ownBlock->(∀ g,v'.ownBlock=some g->v.ownBlock=some g\/W.heap.size<=g)->wpList P ops Q rest (a.put o.dst v') w') :
 wpList P ops Q (o :: rest) a W:=by
 obtain ⟨hu,⟨i,z,hi,hz,h2,h3,h4⟩,hp⟩:=ty;rcases hc with ⟨_,h0⟩ | ⟨ad,rfl,hc⟩
 ·omega
 ·refine wpList_plain hgd fun K hK=>?_;obtain ⟨v',w',hr,k2,k3,g,k4,k5⟩:=run_append_where (P:=P) W B T o.type E i z size bytes hu hi hz h2 h3 h4 hp v n xs hown ad m c news hl hc h1 (by unfold maxLen;omega) hb hB hm;unfold Oper.wp execOp;simp only [ho,resolve,invoke,builtin,Sem.run_bind,Sem.run_pure,Result.andThen_ok,List.map_toArray,Jw,Zt,hs,hx,hr];exact hK _ _ (h v' w' k2 k3 fun g' hg=>by rw [k4] at hg;injection hg with hg;subst hg;exact k5)
theorem askF_hs (C:List En)(url:ByteArray)(rq:List Hd)(now:Int)(h:(askF C url rq now).k=3):0<(askF C url rq now).hs.length:=by
 revert h;unfold askF;split
 ·intro h;exact absurd h (by show (1:Int)≠3;decide)
 ·split
  ·intro h;exact absurd h (by show (1:Int)≠3;decide)
  ·split
   ·intro h;exact absurd h (by show (1:Int)≠3;decide)
   ·split
    ·intro h;exact absurd h (by show (2:Int)≠3;decide)
    ·split
     ·intro h;exact absurd h (by show (1:Int)≠3;decide)
     ·next hn=>intro _;exact Xf.2 hn
theorem chkL_len (hs:List Hd):(chkL hs).length<=2:=by
 unfold chkL;rw [Kw];have h1:(((hdrL hs etS.data.toList).map (fun v=>(inmS,v))).toList).length<=1:=by cases hdrL hs etS.data.toList <;> simp
 have h2:(((hdrL hs lmS.data.toList).map (fun v=>(imsS,v))).toList).length<=1:=by cases hdrL hs lmS.data.toList <;> simp
 omega
theorem askF_hl (C:List En)(url:ByteArray)(rq:List Hd)(now:Int):(askF C url rq now).hs.length<=2:=by
 unfold askF;split
 ·exact Kh _
 ·split
  ·exact Kh _
  ·split
   ·exact Kh _
   ·split
    ·exact Kh _
    ·split
     ·exact Kh _
     ·exact chkL_len _
theorem e02_mk {W:World}{Q:Nat}{a b c:Value}(h:AtL W Q [a,b,c]):W.cell? ⟨Q,0,none⟩=some a/\W.cell? ⟨Q,2,none⟩=some c:=⟨h.c 0 rfl,h.c 2 rfl⟩
theorem send_is [Prot]{w:World}{s0 jb cb B:Nat}{vj:Value}{J:List Ck}{nx:Int}{vc:Value}{lx:List Ee}{S:FSt}{n m:Nat}(F:FIn w s0 jb cb B vj J nx vc lx S)(hS:SOk S)(hJ:JOk J)(hC:COk n m (lx.map (·.2)))(hn:n<=900)(hm:m<=800)(now:Int)(kf:Nat)
 (hsnd:∀ (S2:FSt) (w':World) (vc2:Value) (lx2:List Ee),SOk S2->S2.ho=S.ho+1->COk (n+1) m (lx2.map (·.2))->FIn w' s0 jb cb B vj J nx vc2 lx2 S2->Calls Tryz.prog 116 #[.pointer (some ⟨s0,0,none⟩),envA jb cb now] w' (StepQ w' s0 jb cb B vj J nx vc2 (sendF J now kf S2 (lx2.map (·.2)))))
 (o:Out) (ho:sendF J now (kf+1) S (lx.map (·.2))=o) :
 Calls Tryz.prog 116 #[.pointer (some ⟨s0,0,none⟩),envA jb cb now] w (StepQ w s0 jb cb B vj J nx vc o):=by
 have hal:=(Kc w).alloc lr (.cells (envL jb cb now).toArray 83);have V1:=AtL.new w (envL jb cb now) 83;have F1:=F.below hal;have hV1:¬ Mu s0 jb cb vj vc w.heap.size:=fun e=>by have:=F.env.mlt _ e;omega
 have hsV:s0≠w.heap.size:=by have:=F.env.ls;omega
 have hcV:w.heap.size≠cb:=by have:=F.env.lc;omega
 have hoV:vc.ownBlock≠some w.heap.size:=fun e=>by have:=F.env.cl e;omega
 have A1:RedA w s0 jb cb B vj J nx vc S (lx.map (·.2)) w.heap.size now vc lx (w.alloc (.cells (envL jb cb now).toArray 83)):=⟨F1,rfl,Kp.of_below hal lr,fun _ _ e=>e,V1⟩
 have E0:=F.env;obtain ⟨va,vk,wa,wk,S0,hq0,hh0⟩:=F.st;have S1:=S0.next hal;have hq1:=hq0.1.below hal lr;obtain ⟨L,hL⟩:=Ka (hdF S);obtain ⟨T,hT⟩:=Ka (txB S);have hLz:=hS.r;rw [hL] at hLz;have hLl:=hLz.2;obtain ⟨p,hp⟩:=Ka (askF (lx.map (·.2)) T L now);have hpl:p.hs.length<=2:=by rw [<-hp];exact askF_hl _ _ _ _
 have hp3:p.k=3->0<p.hs.length:=by rw [<-hp];exact askF_hs _ _ _ _
 have hpo:=askF_ok hC T L now;rw [hp] at hpo;unfold sendF at ho;simp only [hT,hL,hp] at ho;obtain ⟨gb,hgb⟩:=Ka (S.sm.toList == getT);rw [hgb] at ho;have CH:=Kb (headers_is S s0 (.slice va S.qh.length vk) (.slice wa S.hs.length wk) _ F1.env.mx S1 hq1 hS.q hS.u4 L hL);have CT:=Kb (fun (w':World) (S':FSt) (e:txB S'=T) (hz:USize 40000 S'.a S'.b S'.c S'.d S'.e S'.f) (s:AtL w' s0 (fsV S' (.slice va S.qh.length vk) (.slice wa S.hs.length wk)))=>txt_is s hz T e);have CA:=Kb (fun (w':World) (vr:Value) (F':FIn w' s0 jb cb B vj J nx vc lx { S with ch:=false }) (hv:SlK hdC 2 w' vr L)=>ask_all cb B vc lx w' F'.env.mx F'.env.ca (fun x hx=>⟨(hC.ok x.2 (Zc hx)).va,(hC.ok x.2 (Zc hx)).hd.hd (by omega)⟩) (by have:=hC.len;rw [Za] at this;omega) T L vr hv hLz.1 now p hp);have CS:=Kb (fun (w':World) (vc':Value) (lx':List Ee) (F':FIn w' s0 jb cb B vj J nx vc' lx' { S with ch:=false }) (hc:lx'.map (·.2)=p.c) (u:ByteArray) (a1:Option Addr) (n1 k1:Nat) (a2:Option Addr) (n2 k2:Nat) (ti:Int) (hh:Hq (fun b=>b=s0) w' (.slice a2 n2 k2) p.e.hd) (o':Out) (ho':storedF (sendF J now kf) now p.e S p.c=o')=>stored_is F' (hS.chk false) (by rw [hc];exact hpo.1) hn hm p.e hpo.2 u a1 n1 k1 a2 n2 k2 ti hh now (sendF J now kf) (fun S C=>sendF_ev J now kf S C) (fun S C hS hC=>sendF_ok hm J now kf S C hS hC) (fun S2 w' vc2 lx2 h1 h2 h3 h4=>hsnd S2 w' vc2 lx2 h1 h2 h3 h4) o' (by rw [hc];exact ho'));have CC:=Kb (fun (w':World) (S':FSt) (E':∃ vc' lx',EnvIn w' s0 jb cb B vj vc' J nx lx') (hz:USize 40000 S'.a S'.b S'.c S'.d S'.e S'.f) (K:ByteArray) (hK:cookF J now S'=K)=>(show Calls Tryz.prog 14 #[.pointer (some ⟨jb,0,none⟩),urlA S'.a S'.b S'.c S'.d S'.e S'.f,.int .i64 now] w' fun x w''=>x = .returned (.string K)/\Below w'.heap.size w' w'' by obtain ⟨vc',lx',E'⟩:=E';exact cook_is J now S' K hK w' jb vj (.int .i64 nx) hz E'.mx E'.jar.reads E'.jar.at_ (by have:=hJ.len;omega) hJ.ok));have HS:=Kb hS;have HO:=Kb ho;have HL:=Kb hL;have HT:=Kb hT;have HE0:=Kb E0;have HQ0:=Kb (And.intro hq0.1 hh0.1);clear hsnd hJ hC hpo hp hS ho hT E0 hq0 hh0 hq1 hLz S0 F;obtain ⟨w1,hw1⟩:∃ w1:World,w.alloc (.cells (envL jb cb now).toArray 83)=w1:=⟨_,rfl⟩
 obtain ⟨V,hV⟩:=Ka w.heap.size;have hsz1:w1.heap.size=V+1:=by rw [<-hw1,<-hV];simp
 rw [hw1] at A1 F1 V1 S1 CH hal;rw [hV] at A1 V1 hV1 hsV hcV hoV;have HA1:=Kb A1;have HSZ:=Kb hsz1;have HVV:=Kb hV;clear F1 hal A1 hsz1;go_enter Tryz.func116,Tryz.ntmps116;have z0:=S1.c 0 rfl;have z1:=S1.c 1 rfl;have z2:=S1.c 2 rfl;have z3:=S1.c 3 rfl;have z4:=S1.c 4 rfl;have z5:=S1.c 5 rfl;have z6:=S1.c 6 rfl;have z7:=S1.c 7 rfl;have z8:=S1.c 8 rfl;have z9:=S1.c 9 rfl;have z10:=S1.c 10 rfl;have z11:=S1.c 11 rfl;have z12:=S1.c 12 rfl;have z13:=S1.c 13 rfl;have z14:=S1.c 14 rfl;have z15:=S1.c 15 rfl;have z16:=S1.c 16 rfl;have z17:=S1.c 17 rfl;have z18:=S1.c 18 rfl;have z19:=S1.c 19 rfl;have z20:=S1.c 20 rfl;have z21:=S1.c 21 rfl;have z22:=S1.c 22 rfl;have y_:=S1.of23;have zl:=S1.lt;clear z0 z1 z2 z3 z4 z5 z6 z7 z8 z9 z10 z11 z12 z13 z14 z15 z16 z17 z18 z19 z20 z21 z22 y_;have hgb2:(S.sm.toList == [71,69,84])=gb:=hgb;clear hgb
 go_upto_if 18 with (first
  | ((with_reducible refine CH.out.mono ?_);rintro e2 w2 hq2;obtain ⟨v2,rfl,o2,_,hb2⟩:=hq2;obtain ⟨oa,oc,rfl,_⟩:=own_reads o2;have S2:=S1.next hb2;have z0:=S2.c 0 rfl;have z1:=S2.c 1 rfl;have z2:=S2.c 2 rfl;have z3:=S2.c 3 rfl;have z4:=S2.c 4 rfl;have z5:=S2.c 5 rfl;have z6:=S2.c 6 rfl;have z7:=S2.c 7 rfl;have z8:=S2.c 8 rfl;have z9:=S2.c 9 rfl;have z10:=S2.c 10 rfl;have z11:=S2.c 11 rfl;have z12:=S2.c 12 rfl;have z13:=S2.c 13 rfl;have z14:=S2.c 14 rfl;have z15:=S2.c 15 rfl;have z16:=S2.c 16 rfl;have z17:=S2.c 17 rfl;have z18:=S2.c 18 rfl;have z19:=S2.c 19 rfl;have z20:=S2.c 20 rfl;have z21:=S2.c 21 rfl;have z22:=S2.c 22 rfl;have y_:=S2.of23;have zl2:=S2.lt)
  | fail)
 have A2:SnA w s0 jb cb B vj J nx vc lx (.slice va S.qh.length vk) (.slice wa S.hs.length wk) w1.heap.size V now S (lx.map (·.2)) (.slice oa L.length oc) L vc lx w2:=
  ⟨HA1.out.below hb2,HE0.out,HQ0.out.1,HQ0.out.2,S2,fun y h=>h,o2,fun g hg e=>by
   have h1:=own_base o2 hg
   have h2:=HE0.out.mlt g e
   have h3:=HSZ.out
   have h4:=HVV.out
   omega,by have h3:=HSZ.out;omega,by have h4:=HVV.out;omega,hV1⟩
 have A3:=A2.set (S':={ S with ch:=false }) 17 (.bool false) (fun _ _=>rfl) rfl rfl;obtain ⟨w3,hw3⟩:∃ w3:World,w2.setCell ⟨s0,17,none⟩ (.bool false)=w3:=⟨_,rfl⟩
 rw [hw3] at A3;rw [hw3];obtain ⟨base,hbs⟩:=Ka w1.heap.size;rw [hbs] at A3;have hA3:=Kb A3;have hbV:base<=V+1:=by rw [<-hbs];exact Jl HSZ.out
 have hb3:base<=w3.heap.size:=by rw [<-hw3,World.size_setCell,<-hbs];exact hb2.size
 clear zl2 zl z0 z1 z2 z3 z4 z5 z6 z7 z8 z9 z10 z11 z12 z13 z14 z15 z16 z17 z18 z19 z20 z21 z22 y_;clear hw3 A2 S2 o2 hb2 S1 V1 hbs HA1 HSZ HVV hV1;go_cut [5,6] from 19 to 44 (fun c5 c6 w'=>SndA w s0 jb cb B vj J nx vc lx (.slice va S.qh.length vk) (.slice wa S.hs.length wk) base V now S o c5 w')
 case first=>
  cases gb with
  | false=>
    go_wp2_with fail
    go_meet
    case rel=>
     have h:=HO.out
     rw [Ke (by decide)] at h
     subst hL
     exact ⟨oa,oc,[],false,_,vc,lx,by rw [Je],by rw [Je];exact hA3.out,h,Kh _⟩
  | true=>
    have HO1:Hid ((if p.k=2 then storedF (sendF J now kf) now p.e S p.c else if p.k=3 then askO J now S p.c p.hs true else askO J now S p.c [] false)=o):=Kb (by have h:=HO.out;rw [Kf rfl] at h;exact h)
    clear HO
    go_upto_region 4 with fail
    go_cut [6] from 19 to 26 (fun c6 w'=>PlnE w s0 jb cb B vj J nx vc lx (.slice va S.qh.length vk) (.slice wa S.hs.length wk) base V now { S with ch:=false } p (.slice oa L.length oc) L c6 w')
    case first=>
     have CT3:=Kb (fun (w':World) (s:AtL w' s0 (fsV { S with ch:=false } (.slice va S.qh.length vk) (.slice wa S.hs.length wk)))=>CT.out w' { S with ch:=false } HT.out HS.out.u4 s)
     have V3:=hA3.out.a.v
     have v0:=V3.c 0 rfl;have v1:=V3.c 1 rfl;have v2:=V3.c 2 rfl
     have vl:=V3.lt
     have hc3:=hA3.out.a.f.env.lc
     go_region_held3 (fun w'=>w'.cell? ⟨V,1,none⟩=some (.pointer (some ⟨cb,0,none⟩))/\w'.cell? ⟨V,2,none⟩=some (.int .i64 now))
      (first | with_reducible exact e2_mk V3.drew | with_reducible exact e2_mk (V3.alloc _).drew | with_reducible exact e2_mk V4 | with_reducible exact e2_mk (V4.alloc _) | with_reducible exact e2_mk V5 | with_reducible exact e2_mk (V5.alloc _) | exact e2_mk (atl_fark8 V5 hPV _ _ _ _ _ _ _ _) | go_keep)
      (first
        | ((with_reducible refine (CT3.out w3.drew (hA3.out.below (Kc w3).drew).s).mono ?_);rintro e4 w4 ⟨rfl,hbb4⟩;have h34:Below w3.heap.size w3 w4:=(Below.refl w3.heap.size w3).drew.trans hbb4;have V4:=V3.next h34;have vl4:=V4.lt;have A4:=Kb (hA3.out.below h34))
        | ((with_reducible refine (CT3.out (w3.alloc (.cells pl0.toArray 178)).drew (hA3.out.below ((Below.refl w3.heap.size w3).alloc lr (.cells pl0.toArray 178)).drew).s).mono ?_);rintro e4 w4 ⟨rfl,hbb4⟩;have h34:Below w3.heap.size w3 w4:=((Below.refl w3.heap.size w3).alloc lr (.cells pl0.toArray 178)).drew.trans (hbb4.mono (by simp));have V4:=V3.next h34;have P4:=(AtL.new w3 pl0 178).drew.next hbb4;have hPV:w3.heap.size≠V:=(by omega);have vl4:=V4.lt;have A4:=Kb (hA3.out.below h34))
        | ((with_reducible refine (CA.out w4 _ A4.out.a.f (SlK.of_own hdC_len A4.out.row)).mono ?_);rintro e5 w5 hq5;obtain ⟨pu,pa1,pn1,pk1,pa2,pn2,pk2,pti,pua,puc,l5,rfl,hh5,hu5,hto5,hc5,hm5,nn5,nu5⟩:=aske_open hq5;have V5:=V4.row hto5.2 V4.lt hcV hoV;first | (have HN:=Kb (plne_ab hA3.out h34 lr P4 hh5 hu5 hto5 hc5 hm5 nn5 nu5 pu pa1 pn1 pk1 pti);have P5:=P4.row hto5.2 P4.lt (by have:=hA3.out.a.f.env.lc;omega) (fun e=>by have:=hA3.out.a.f.env.cl e;omega);have p0:=P5.c 0 rfl;have p1:=P5.c 1 rfl;have p2:=P5.c 2 rfl;have p3:=P5.c 3 rfl;have p4:=P5.c 4 rfl;have p5:=P5.c 5 rfl;have p6:=P5.c 6 rfl;have p7:=P5.c 7 rfl;have g0:=P5.f 0 rfl;have g1:=P5.f 1 rfl;have g2:=P5.f 2 rfl;have g3:=P5.f 3 rfl;have g4:=P5.f 4 rfl;have g5:=P5.f 5 rfl;have g6:=P5.f 6 rfl;have g7:=P5.f 7 rfl;have apl:=P5.lt) | (have HN:=Kb (plne_c hA3.out h34 hh5 hu5 hto5 hc5 hm5 nn5 pu pa1 pn1 pk1 pti)) | fail)
        | (go_at_call 169;have h34a:=h34.alloc h34.size (.cells pl0.toArray 178);have P4b:=AtL.new w4 pl0 178;have hPV:w4.heap.size≠V:=Nat.ne_of_gt vl4;have A4b:=Kb (hA3.out.below h34a);(with_reducible refine (CA.out (w4.alloc (.cells pl0.toArray 178)) _ A4b.out.a.f (SlK.of_own hdC_len A4b.out.row)).mono ?_);rintro e5 w5 hq5;obtain ⟨pu,pa1,pn1,pk1,pa2,pn2,pk2,pti,pua,puc,l5,rfl,hh5,hu5,hto5,hc5,hm5,nn5,nu5⟩:=aske_open hq5;have V5:=(V4.alloc (.cells pl0.toArray 178)).row hto5.2 (V4.alloc (.cells pl0.toArray 178)).lt hcV hoV;have HN:=Kb (plne_ab hA3.out h34a h34.size P4b hh5 hu5 hto5 hc5 hm5 nn5 nu5 pu pa1 pn1 pk1 pti);have P5:=P4b.row hto5.2 P4b.lt (by have:=hA3.out.a.f.env.lc;have:=h34.size;omega) (fun e=>by have:=hA3.out.a.f.env.cl e;have:=h34.size;omega);have p0:=P5.c 0 rfl;have p1:=P5.c 1 rfl;have p2:=P5.c 2 rfl;have p3:=P5.c 3 rfl;have p4:=P5.c 4 rfl;have p5:=P5.c 5 rfl;have p6:=P5.c 6 rfl;have p7:=P5.c 7 rfl;have g0:=P5.f 0 rfl;have g1:=P5.f 1 rfl;have g2:=P5.f 2 rfl;have g3:=P5.f 3 rfl;have g4:=P5.f 4 rfl;have g5:=P5.f 5 rfl;have g6:=P5.f 6 rfl;have g7:=P5.f 7 rfl;have apl:=P5.lt)
        | fail)
     all_goals
      go_wp2_with fail
      go_meet
      case rel=>exact HN.out
    case rest=>
     obtain ⟨P,u,a1,n1,k1,a2,n2,k2,ti,ua,uc,vc2,l2,rfl,P5,A5,h2,h2s,h3⟩:=hcut
     have p0:=P5.c 0 rfl;have p1:=P5.c 1 rfl;have p2:=P5.c 2 rfl;have p3:=P5.c 3 rfl;have p4:=P5.c 4 rfl;have p5:=P5.c 5 rfl;have p6:=P5.c 6 rfl;have p7:=P5.c 7 rfl;have g0:=P5.f 0 rfl;have g1:=P5.f 1 rfl;have g2:=P5.f 2 rfl;have g3:=P5.f 3 rfl;have g4:=P5.f 4 rfl;have g5:=P5.f 5 rfl;have g6:=P5.f 6 rfl;have g7:=P5.f 7 rfl
     have pl:=P5.lt
     have AQ:=A5
     have SQ:=AQ.s
     have z0:=SQ.c 0 rfl;have z1:=SQ.c 1 rfl;have z2:=SQ.c 2 rfl;have z3:=SQ.c 3 rfl;have z4:=SQ.c 4 rfl;have z5:=SQ.c 5 rfl;have z6:=SQ.c 6 rfl;have z7:=SQ.c 7 rfl;have z8:=SQ.c 8 rfl;have z9:=SQ.c 9 rfl;have z10:=SQ.c 10 rfl;have z11:=SQ.c 11 rfl;have z12:=SQ.c 12 rfl;have z13:=SQ.c 13 rfl;have z14:=SQ.c 14 rfl;have z15:=SQ.c 15 rfl;have z16:=SQ.c 16 rfl;have z17:=SQ.c 17 rfl;have z18:=SQ.c 18 rfl;have z19:=SQ.c 19 rfl;have z20:=SQ.c 20 rfl;have z21:=SQ.c 21 rfl;have z22:=SQ.c 22 rfl;have y_:=SQ.of23
     have zl:=SQ.lt
     have VQ:=AQ.a.v
     have v0:=VQ.c 0 rfl;have v1:=VQ.c 1 rfl;have v2:=VQ.c 2 rfl;have f_:=VQ.of3
     have vl:=VQ.lt
     clear SQ VQ AQ
     have HA5:=Kb A5
     have hbc:base<=wc.heap.size:=by omega
     clear A5 P5
     by_cases hk2:p.k=2
     ·have hk2b:(p.k == 2)=true:=by rw [hk2];rfl
      have CS5:=Kb (CS.out wc vc2 l2 HA5.out.a.f HA5.out.a.c u a1 n1 k1 a2 n2 k2 ti ⟨h2,h2s⟩ o (by have h:=HO1.out;rw [Kf hk2] at h;exact h))
      clear hk2 h2 h3 hp3 CS
      go_wp2_with (first
       | ((with_reducible refine CS5.out.mono ?_);rintro e6 w6 hq6;have HQ:=Kb (HA5.out.a.fin hq6);obtain ⟨ra,rn,rc,rfl⟩:=stepq_shape hq6)
       | fail)
      go_ret
      exact HQ.out
     ·have hk2b:(p.k == 2)=false:=Ki.2 hk2
      by_cases hk3:p.k=3
      ·have hk3b:(p.k == 3)=true:=by rw [hk3];rfl
       have hpos:=hp3 hk3
       have HO2:Hid (askO J now S p.c p.hs true=o):=Kb (by have h:=HO1.out;rw [Ke hk2,Kf hk3] at h;exact h)
       have HSR:=Kb (hd_src h3)
       have HONE:=Kb (one2s p.hs)
       have HCL:=Kb (cellsK_len hdC_len p.hs)
       clear hk2 hk3 h2 h3 hp3 CS HO1
       go_wp2_with (first
        | (refine app_whr slH wc (by rfl) (.tmp 38) (.tmp 40) (by rfl) base _ _ _ (by rfl) HA5.out.row (cellsK hdC p.hs) ua p.hs.length uc (by rfl) HCL.out HSR.out hpos HONE.out (by omega) (by omega) hbc ?_;intro v6 w6 o6 g6 f6;obtain ⟨ra,rc,rfl,_⟩:=own_reads o6;have A6:=HA5.out.grow (L':=L ++ p.hs) (own_eq o6 (by rw [Kw]) (by rw [cellsK_app])) g6 f6;have A6':=Kb A6;have hl6:=A6.a.f.env.ls;have S6:=A6.s;clear A6 o6 g6 f6;have z0:=S6.c 0 rfl;have z1:=S6.c 1 rfl;have z2:=S6.c 2 rfl;have z3:=S6.c 3 rfl;have z4:=S6.c 4 rfl;have z5:=S6.c 5 rfl;have z6:=S6.c 6 rfl;have z7:=S6.c 7 rfl;have z8:=S6.c 8 rfl;have z9:=S6.c 9 rfl;have z10:=S6.c 10 rfl;have z11:=S6.c 11 rfl;have z12:=S6.c 12 rfl;have z13:=S6.c 13 rfl;have z14:=S6.c 14 rfl;have z15:=S6.c 15 rfl;have z16:=S6.c 16 rfl;have z17:=S6.c 17 rfl;have z18:=S6.c 18 rfl;have z19:=S6.c 19 rfl;have z20:=S6.c 20 rfl;have z21:=S6.c 21 rfl;have z22:=S6.c 22 rfl;have y_:=S6.of23;clear S6)
        | fail)
       go_meet
       case rel=>
        have A7:=A6'.out.set (S':={ S with ch:=true }) 17 (.bool true) (fun _ _=>rfl) rfl rfl
        subst hL
        refine ⟨ra,rc,p.hs,true,p.c,vc2,l2,by rw [Kw],?_,HO2.out,by omega⟩
        rw [Kw]
        exact A7
      ·have hk3b:(p.k == 3)=false:=Ki.2 hk3
       have HO2:Hid (askO J now S p.c [] false=o):=Kb (by have h:=HO1.out;rw [Ke hk2,Ke hk3] at h;exact h)
       clear hk2 hk3 h2 h3 hp3 CS HO1
       go_wp2_with fail
       go_meet
       case rel=>
        subst hL
        exact ⟨oa,oc,[],false,_,vc2,l2,by rw [Je],by rw [Je];exact HA5.out,HO2.out,Kh _⟩
 case rest=>
  obtain ⟨ha,hk,more,ch,C2,vc2,l2,rfl,A5,ho5,hml⟩:=hcut;obtain ⟨L2,hL2⟩:=Ka (hdF S ++ more);have hL2l:L2.length<=1200:=by rw [<-hL2,Kw,hL];omega
  obtain ⟨Kk,hKk⟩:=Ka (cookF J now S);unfold askO at ho5;obtain ⟨ckb,hck⟩:=Ka S.ck;rw [hL2,hKk] at ho5;rw [hL2] at A5;have CK:=Kb (fun (w':World) (E':∃ vc' lx',EnvIn w' s0 jb cb B vj vc' J nx lx')=>CC.out w' { S with ch:=ch } E' HS.out.u4 Kk hKk);have CT5:=Kb (fun (w':World) (s:AtL w' s0 (fsV { S with ch:=ch,ph:=1 } (.slice va S.qh.length vk) (.slice wa S.hs.length wk)))=>CT.out w' { S with ch:=ch,ph:=1 } HT.out HS.out.u4 s);have hln:(hdF S ++ more).length=L2.length:=by rw [hL2]
  rw [hln];have HO5:=Kb ho5;have HA5:=Kb A5;have AQ:=A5;have SQ:=AQ.s;have z0:=SQ.c 0 rfl;have z1:=SQ.c 1 rfl;have z2:=SQ.c 2 rfl;have z3:=SQ.c 3 rfl;have z4:=SQ.c 4 rfl;have z5:=SQ.c 5 rfl;have z6:=SQ.c 6 rfl;have z7:=SQ.c 7 rfl;have z8:=SQ.c 8 rfl;have z9:=SQ.c 9 rfl;have z10:=SQ.c 10 rfl;have z11:=SQ.c 11 rfl;have z12:=SQ.c 12 rfl;have z13:=SQ.c 13 rfl;have z14:=SQ.c 14 rfl;have z15:=SQ.c 15 rfl;have z16:=SQ.c 16 rfl;have z17:=SQ.c 17 rfl;have z18:=SQ.c 18 rfl;have z19:=SQ.c 19 rfl;have z20:=SQ.c 20 rfl;have z21:=SQ.c 21 rfl;have z22:=SQ.c 22 rfl;have y_:=SQ.of23;have zl:=SQ.lt;have VQ:=AQ.a.v;have v0:=VQ.c 0 rfl;have v1:=VQ.c 1 rfl;have v2:=VQ.c 2 rfl;have f_:=VQ.of3;have vl:=VQ.lt;clear SQ VQ AQ;clear hL2 hKk ho5 A5 CS CA CC CT hA3 HO hp3 hpl hb3 hln hml hL HL;rw [hck] at z7;have HCK:=Kb hck;clear hck;go_upto_if 49 with fail;clear z0 z1 z2 z3 z4 z5 z6 z7 z8 z9 z10 z11 z12 z13 z14 z15 z16 z17 z18 z19 z20 z21 z22 y_ v0 v1 v2 f_ zl vl;go_cut [5,7] from 50 to 65 (fun c5 c7 w'=>SndB w s0 jb cb B vj J nx vc lx (.slice va S.qh.length vk) (.slice wa S.hs.length wk) base V now { S with ch:=ch } C2 (L2 ++ (if ckb && !Kk.toList.isEmpty then [(ckN,Kk)] else [])) vc2 l2 c5 w')
  case first=>
   cases ckb with
   | false=>
     go_wp2_with fail
     go_meet
     case rel=>
      exact ⟨ha,hk,by simp,by simpa using HA5.out⟩
   | true=>
     have S5:=HA5.out.s
     have V5:=HA5.out.a.v
     have z0:=S5.c 0 rfl;have z1:=S5.c 1 rfl;have z2:=S5.c 2 rfl;have z3:=S5.c 3 rfl;have z4:=S5.c 4 rfl;have z5:=S5.c 5 rfl;have z6:=S5.c 6 rfl;have z7:=S5.c 7 rfl;have z8:=S5.c 8 rfl;have z9:=S5.c 9 rfl;have z10:=S5.c 10 rfl;have z11:=S5.c 11 rfl;have z12:=S5.c 12 rfl;have z13:=S5.c 13 rfl;have z14:=S5.c 14 rfl;have z15:=S5.c 15 rfl;have z16:=S5.c 16 rfl;have z17:=S5.c 17 rfl;have z18:=S5.c 18 rfl;have z19:=S5.c 19 rfl;have z20:=S5.c 20 rfl;have z21:=S5.c 21 rfl;have z22:=S5.c 22 rfl;have y_:=S5.of23
     have zl:=S5.lt
     have v0:=V5.c 0 rfl;have v1:=V5.c 1 rfl;have v2:=V5.c 2 rfl;have f_:=V5.of3
     have vl:=V5.lt
     obtain ⟨kb,hkb⟩:=Ka (Kk.toList == [])
     have HKB:=Kb (show Kk.toList.isEmpty=kb by rw [<-hkb];cases Kk.toList <;> rfl)
     go_upto_region 12 with fail
     go_region_held3 (fun w'=>(w'.cell? ⟨V,0,none⟩=some (.pointer (some ⟨jb,0,none⟩))/\w'.cell? ⟨V,2,none⟩=some (.int .i64 now))/\w'.cell? ⟨s0,9,none⟩=some (.string S.a)/\w'.cell? ⟨s0,10,none⟩=some (.string S.b)/\w'.cell? ⟨s0,11,none⟩=some (.string S.c)/\w'.cell? ⟨s0,12,none⟩=some (.string S.d)/\w'.cell? ⟨s0,13,none⟩=some (.string S.e)/\w'.cell? ⟨s0,14,none⟩=some (.string S.f))
      (first | exact ⟨e02_mk V5.drew,s7_at S5.drew⟩ | exact ⟨e02_mk V6,s7_at S6⟩ | go_keep)
      (first
        | ((with_reducible refine (CK.out wc.drew ⟨vc2,l2,HA5.out.a.f.env.below (Kc wc).drew⟩).mono ?_);rintro e6 w6 ⟨rfl,hbb6⟩;have hb6:Below wc.heap.size wc w6:=(Below.refl wc.heap.size wc).drew.trans hbb6;have A6:=Kb (HA5.out.below hb6);have V6:=V5.next hb6;have S6:=S5.next hb6;have vl6:=V6.lt;have h1:=e02_mk V6;have h2:=s7_at S6)
        | fail)
     have hb6':base<=w6.heap.size:=by omega
     clear V5 S5
     clear z0 z1 z2 z3 z4 z5 z6 z7 z8 z9 z10 z11 z12 z13 z14 z15 z16 z17 z18 z19 z20 z21 z22 y_ v0 v1 v2 f_ zl vl
     cases kb with
     | true=>
       go_wp2_with fail
       go_meet
       case rel=>
        rw [HKB.out]
        exact ⟨ha,hk,by simp,by simpa using A6.out⟩
     | false=>
       go_wp2_with (first
        | (refine app2 slH w6 (by rfl) (.tmp 61) (.tmp 64) (by rfl) base _ _ _ (by rfl) A6.out.row [.string ckN,.string Kk] 1 w6.heap.size (by rfl) rfl (by rfl) (by intro u hu;simp at hu;rcases hu with rfl | rfl <;> rfl) (by decide) (by omega) (by omega) hb6' ?_;intro v7 w7 o7 g7 f7;obtain ⟨ra,rc,rfl,_⟩:=own_reads o7;have A7:=Kb (A6.out.grow (L':=L2 ++ [(ckN,Kk)]) (own_eq o7 (by rw [Kw];rfl) (by rw [cellsK_app];rfl)) g7 (fun g hg=>by obtain ⟨g',h1,h2⟩:=f7;rw [h1] at hg;injection hg with hg;subst hg;exact h2.imp id Kl));clear o7 g7 f7)
        | fail)
       go_meet
       case rel=>
        rw [HKB.out]
        exact ⟨ra,rc,by rw [Kf (by rfl),Kw];rfl,by rw [Kf (by rfl)];have h:=A7.out;rw [show L2.length+1=(L2 ++ [(ckN,Kk)]).length by rw [Kw];rfl] at h;exact h⟩
  case rest=>
   obtain ⟨ha2,hk2,rfl,A6⟩:=hcut;obtain ⟨L3,hL3⟩:=Ka (L2 ++ (if ckb && !Kk.toList.isEmpty then [(ckN,Kk)] else []));rw [hL3] at A6;have HO6:Hid ((⟨{ S with ch:=ch,ph:=1 },C2,[⟨1,S.sm,T,L3,if S.sm.toList == S.me.toList then S.qb else eS,0,0⟩]⟩:Out)=o):=Kb (by rw [<-hL3,<-HT.out,<-HCK.out];exact HO5.out);have AQ:=A6;have SQ:=AQ.s;have z0:=SQ.c 0 rfl;have z1:=SQ.c 1 rfl;have z2:=SQ.c 2 rfl;have z3:=SQ.c 3 rfl;have z4:=SQ.c 4 rfl;have z5:=SQ.c 5 rfl;have z6:=SQ.c 6 rfl;have z7:=SQ.c 7 rfl;have z8:=SQ.c 8 rfl;have z9:=SQ.c 9 rfl;have z10:=SQ.c 10 rfl;have z11:=SQ.c 11 rfl;have z12:=SQ.c 12 rfl;have z13:=SQ.c 13 rfl;have z14:=SQ.c 14 rfl;have z15:=SQ.c 15 rfl;have z16:=SQ.c 16 rfl;have z17:=SQ.c 17 rfl;have z18:=SQ.c 18 rfl;have z19:=SQ.c 19 rfl;have z20:=SQ.c 20 rfl;have z21:=SQ.c 21 rfl;have z22:=SQ.c 22 rfl;have y_:=SQ.of23;have zl:=SQ.lt;have VQ:=AQ.a.v;have v0:=VQ.c 0 rfl;have v1:=VQ.c 1 rfl;have v2:=VQ.c 2 rfl;have f_:=VQ.of3;have vl:=VQ.lt;clear SQ VQ AQ;rw [hL3];go_upto_region 16 with fail;have A7:=A6.set (S':={ S with ch:=ch,ph:=1 }) 8 (.int .i64 1) (fun _ _=>rfl) rfl rfl;obtain ⟨w7,hw7⟩:∃ w7:World,wc.setCell ⟨s0,8,none⟩ (.int .i64 1)=w7:=⟨_,rfl⟩
   rw [hw7] at A7;rw [hw7];clear z0 z1 z2 z3 z4 z5 z6 z7 z8 z9 z10 z11 z12 z13 z14 z15 z16 z17 z18 z19 z20 z21 z22 y_ v0 v1 v2 f_ zl vl;clear hw7 A6 hL3 HO5 HA5;have HA7:=Kb A7;have S7:=A7.s;have hl7:=S7.lt;have hs7n:w7.heap.size≠s0:=by omega
   clear A7;go_cut [8] from 69 to 76 (fun c8 w'=>EvE w7 [.int .i64 1,.string S.sm,.string T,.slice ha2 L3.length hk2,.string ⟨#[]⟩,.int .i64 0,.int .i64 0] c8 w')
   case first=>
    have z15:=S7.c 15 rfl
    go_region_held3 (fun w'=>w'.cell? ⟨s0,15,none⟩=some (.string S.sm))
     (first | with_reducible exact S7.drew.c 15 rfl | with_reducible exact (S7.alloc _).drew.c 15 rfl | with_reducible exact S8.c 15 rfl | with_reducible exact (S8.alloc _).c 15 rfl | exact (atl_fark7 S8 hs7n _ _ _ _ _ _ _).c 15 rfl | go_keep)
     (first
       | ((with_reducible refine (CT5.out w7.drew S7.drew).mono ?_);rintro e8 w8 ⟨rfl,hbb8⟩;have h78:Below w7.heap.size w7 w8:=(Below.refl w7.heap.size w7).drew.trans hbb8;have S8:=S7.next h78;have HN:Hid (EvE w7 [.int .i64 1,.string S.sm,.string T,.slice ha2 L3.length hk2,.string ⟨#[]⟩,.int .i64 0,.int .i64 0] (.pointer (some ⟨w8.heap.size,0,none⟩)) (w8.alloc (.cells #[.int .i64 1,.string S.sm,.string T,.slice ha2 L3.length hk2,.string ⟨#[]⟩,.int .i64 0,.int .i64 0] 48))):=Kb ⟨_,rfl,AtL.new w8 [.int .i64 1,.string S.sm,.string T,.slice ha2 L3.length hk2,.string ⟨#[]⟩,.int .i64 0,.int .i64 0] 48,h78.size,h78.alloc h78.size _⟩)
       | ((with_reducible refine (CT5.out (w7.alloc (.cells zEv.toArray 48)).drew (S7.alloc _).drew).mono ?_);rintro e8 w8 ⟨rfl,hbb8⟩;have h78:Below w7.heap.size w7 w8:=((Below.refl w7.heap.size w7).alloc lr (.cells zEv.toArray 48)).drew.trans (hbb8.mono (by simp));have S8:=S7.next h78;have K8:=(AtL.new w7 zEv 48).drew.next hbb8;have HN:Hid (EvE w7 [.int .i64 1,.string S.sm,.string T,.slice ha2 L3.length hk2,.string ⟨#[]⟩,.int .i64 0,.int .i64 0] (.pointer (some ⟨w7.heap.size,0,none⟩)) (set7 w8 w7.heap.size (.int .i64 1) (.string S.sm) (.string T) (.slice ha2 L3.length hk2) (.string ⟨#[]⟩) (.int .i64 0) (.int .i64 0))):=Kb ⟨_,rfl,K8.set7 rfl _ _ _ _ _ _ _,lr,below_set7 h78 lr _ _ _ _ _ _ _⟩;have p0:=K8.c 0 rfl;have p1:=K8.c 1 rfl;have p2:=K8.c 2 rfl;have p3:=K8.c 3 rfl;have p4:=K8.c 4 rfl;have p5:=K8.c 5 rfl;have p6:=K8.c 6 rfl;have g0:=K8.f 0 rfl;have g1:=K8.f 1 rfl;have g2:=K8.f 2 rfl;have g3:=K8.f 3 rfl;have g4:=K8.f 4 rfl;have g5:=K8.f 5 rfl;have g6:=K8.f 6 rfl;have apl:=K8.lt)
       | fail)
    all_goals go_wp2_with fail;go_meet;case rel=>exact HN.out
   case rest=>
    obtain ⟨K,rfl,K8,hK7,h78⟩:=hcut
    have S8:=S7.next h78
    have p0:=K8.c 0 rfl;have p1:=K8.c 1 rfl;have p2:=K8.c 2 rfl;have p3:=K8.c 3 rfl;have p4:=K8.c 4 rfl;have p5:=K8.c 5 rfl;have p6:=K8.c 6 rfl;have g0:=K8.f 0 rfl;have g1:=K8.f 1 rfl;have g2:=K8.f 2 rfl;have g3:=K8.f 3 rfl;have g4:=K8.f 4 rfl;have g5:=K8.f 5 rfl;have g6:=K8.f 6 rfl
    have z0:=S8.c 0 rfl;have z1:=S8.c 1 rfl;have z2:=S8.c 2 rfl;have z3:=S8.c 3 rfl;have z4:=S8.c 4 rfl;have z5:=S8.c 5 rfl;have z6:=S8.c 6 rfl;have z7:=S8.c 7 rfl;have z8:=S8.c 8 rfl;have z9:=S8.c 9 rfl;have z10:=S8.c 10 rfl;have z11:=S8.c 11 rfl;have z12:=S8.c 12 rfl;have z13:=S8.c 13 rfl;have z14:=S8.c 14 rfl;have z15:=S8.c 15 rfl;have z16:=S8.c 16 rfl;have z17:=S8.c 17 rfl;have z18:=S8.c 18 rfl;have z19:=S8.c 19 rfl;have z20:=S8.c 20 rfl;have z21:=S8.c 21 rfl;have z22:=S8.c 22 rfl
    have kl:=K8.lt
    have zl:=S8.lt
    have H78:=Kb h78
    obtain ⟨mb,hmb⟩:=Ka (S.sm.toList == S.me.toList)
    go_upto_region 17 with fail
    go_quiet (fail)
    have hq:Below w7.heap.size w7 (wc.drewN nq):=⟨h78.os,h78.tape,h78.output,h78.size,h78.block⟩
    have HE:Hid (∀ W:World,Below w7.heap.size w7 W->∀ (bo:ByteArray) (N:Nat),W.heap.size=N->(if mb then S.qb else eS)=bo->StepQ w s0 jb cb B vj J nx vc o (.returned (.slice (some ⟨N,0,none⟩) 1 1)) (W.alloc (.cells #[.int .i64 1,.string S.sm,.string T,.slice ha2 L3.length hk2,.string bo,.int .i64 0,.int .i64 0] 48))):=Kb (by
     rintro W hW bo N hN rfl
     have A9:=HA7.out.below hW
     have h:=HO6.out
     rw [hmb] at h
     rw [<-h]
     exact StepQ.one (w:=w) A9.a.f.env A9.a.f.st A9.a.c A9.a.k A9.a.m (.slice ha2 L3.length hk2) ⟨1,S.sm,T,L3,if mb then S.qb else eS,0,0⟩ rfl ⟨SlK.of_own hdC_len A9.row,fun _ b off n c e hm=>hm.elim (A9.far b (by rw [e];rfl)) (fun hx=>(by have h1:=A9.e.px b hx;have h2:=own_base A9.row (g:=b) (by rw [e];rfl);have h3:=A9.bw;omega))⟩ N hN)
    cases mb with
    | true=>
      go_wp2_with fail
      go_ret
      exact HE.out _ (hq.setCell (p:=⟨K,4,none⟩) hK7 _) _ _ (by simp) (by simp)
    | false=>
      go_wp2_with fail
      go_ret
      exact HE.out _ hq _ _ (by first | rfl | simp) (by simp)
theorem send_all [Prot]{s0 jb cb B:Nat}{vj:Value}{J:List Ck}{nx:Int}(hJ:JOk J)(now:Int){m:Nat}(hm:m<=800):∀ (k n:Nat) (S:FSt) (w:World) (vc:Value) (lx:List Ee),SOk S->10<k+S.ho->COk n m (lx.map (·.2))->n<=880+S.ho->FIn w s0 jb cb B vj J nx vc lx S ->
 Calls Tryz.prog 116 #[.pointer (some ⟨s0,0,none⟩),envA jb cb now] w (StepQ w s0 jb cb B vj J nx vc (sendF J now k S (lx.map (·.2))))
 | 0,n,S,w,vc,lx,hS,hk,hC,hn,F=>by have:=hS.ho;omega
 | k+1,n,S,w,vc,lx,hS,hk,hC,hn,F=>send_is F hS hJ hC (by have:=hS.ho;omega) hm now k (fun S2 w' vc2 lx2 h1 h2 h3 h4=>send_all hJ now hm k (n+1) S2 w' vc2 lx2 h1 (by omega) h3 (by omega) h4) _ rfl
theorem take_net [Prot]{w:World}{s0 jb cb B:Nat}{vj:Value}{J:List Ck}{nx:Int}{vc:Value}{lx:List Ee}{S:FSt}{n m:Nat}(F:FIn w s0 jb cb B vj J nx vc lx S)(hS:SOk S)(hJ:JOk J)(hC:COk n m (lx.map (·.2)))(hn:n<=880)(hm:m<=800)
 (st:Int) (u:Value) (hd:List Hd) (hu:Hs (Mu s0 jb cb vj vc) w u hd) (hh:HOk m hd) (now:Int) :
 Calls Tryz.prog 78 #[.pointer (some ⟨s0,0,none⟩),.int .i64 st,u,envA jb cb now,.bool true] w (StepQ w s0 jb cb B vj J nx vc (takeF (sendF J now 11) true now st hd S (lx.map (·.2)))):=
 take_is F hS hC (by omega) hm st u hd hu.1 (fun h0 b off n c e hm=>hu.2 h0 b off n c e (.inl (.inl hm))) hh true (fun _=>hu.2) now (sendF J now 11) (fun S2 w' vc2 lx2 h1 h2 h3 h4=>send_all hJ now hm 11 (n+1) S2 w' vc2 lx2 h1 (by omega) h3 (by omega) h4) _ rfl
theorem stored_net [Prot]{w:World}{s0 jb cb B:Nat}{vj:Value}{J:List Ck}{nx:Int}{vc:Value}{lx:List Ee}{S:FSt}{n m:Nat}(F:FIn w s0 jb cb B vj J nx vc lx S)(hS:SOk S)(hJ:JOk J)(hC:COk n m (lx.map (·.2)))(hn:n<=880)(hm:m<=800)
 (en:En) (he:EOk m en) (u:ByteArray) (a1:Option Addr) (n1 k1:Nat) (ha:Option Addr) (hn' hk:Nat) (ti:Int) (hh:Hq (fun b=>b=s0) w (.slice ha hn' hk) en.hd) (now:Int) :
 Calls Tryz.prog 77 #[.pointer (some ⟨s0,0,none⟩),.agg #[.string u,.slice a1 n1 k1,.int .i64 en.st,.slice ha hn' hk,.string en.bo,.int .i64 ti],envA jb cb now] w (StepQ w s0 jb cb B vj J nx vc (storedF (sendF J now 11) now en S (lx.map (·.2)))):=
 stored_is F hS hC (by omega) hm en he u a1 n1 k1 ha hn' hk ti hh now (sendF J now 11) (fun S C=>sendF_ev J now 11 S C) (fun S C hS hC=>sendF_ok hm J now 11 S C hS hC) (fun S2 w' vc2 lx2 h1 h2 h3 h4=>send_all hJ now hm 11 (n+1) S2 w' vc2 lx2 h1 (by omega) h3 (by omega) h4) _ rfl
theorem e012_mk {W:World}{Q:Nat}{a b c:Value}(h:AtL W Q [a,b,c]):W.cell? ⟨Q,0,none⟩=some a/\W.cell? ⟨Q,1,none⟩=some b/\W.cell? ⟨Q,2,none⟩=some c:=⟨h.c 0 rfl,h.c 1 rfl,h.c 2 rfl⟩
theorem end_is [Prot]{w:World}{s0 jb cb B:Nat}{vj:Value}{J:List Ck}{nx:Int}{vc:Value}{lx:List Ee}{S:FSt}{n m:Nat}(F:FIn w s0 jb cb B vj J nx vc lx S)(hS:SOk S)(hC:COk n m (lx.map (·.2)))(hn:n<=900)(hm:m<=800)(now:Int)(o:Out)(ho:endF now S (lx.map (·.2))=o):
 Calls Tryz.prog 35 #[.pointer (some ⟨s0,0,none⟩),envA jb cb now] w (StepQ w s0 jb cb B vj J nx vc o):=by
 have hal:=(Kc w).alloc lr (.cells (envL jb cb now).toArray 83);have V1:=AtL.new w (envL jb cb now) 83;have F1:=F.below hal;have hV1:¬ Mu s0 jb cb vj vc w.heap.size:=fun e=>by have:=F.env.mlt _ e;omega
 have hsV:s0≠w.heap.size:=by have:=F.env.ls;omega
 have A1:RedA w s0 jb cb B vj J nx vc S (lx.map (·.2)) w.heap.size now vc lx (w.alloc (.cells (envL jb cb now).toArray 83)):=⟨F1,rfl,Kp.of_below hal lr,fun _ _ e=>e,V1⟩
 have CK:=Kb (fun (w':World) (F':FIn w' s0 jb cb B vj J nx vc lx { S with ph:=3 }) (u:Value) (hu:Hs (Mu s0 jb cb vj vc) w' u S.hs)=>keep_is F' hS.u4 hS.q hS.r.1 (fun x hx=>(hC.ok x.2 (Zc hx)).va) (by have:=hC.len;rw [Za] at this;omega) S.st u S.hs S.sb now hu (hS.hs.hd (by omega)));obtain ⟨w1,hw1⟩:∃ w1:World,w.alloc (.cells (envL jb cb now).toArray 83)=w1:=⟨_,rfl⟩
 obtain ⟨V,hV⟩:=Ka w.heap.size;rw [hw1] at A1 V1;rw [hV] at A1 V1 hV1 hsV;have HA1:=Kb A1;unfold endF at ho;obtain ⟨va,vk,wa,wk,S1,hq1,hh1⟩:=A1.f.st;have S1:AtL w1 s0 (fsC S.tk S.me S.ur S.og S.mo (.slice va S.qh.length vk) S.qb S.ck S.ph S.a S.b S.c S.d S.e S.f S.sm S.ho S.ch S.hi S.st (.slice wa S.hs.length wk) S.sb S.er):=S1;have HH1:=Kb hh1;clear hS hC F F1 hal A1 hq1 hh1;have z_:=S1.o23;have y_:=S1.of23;have zl:=S1.lt;by_cases h2:S.ph=2
 ·have h2b:(S.ph == 2)=true:=by rw [h2];rfl
  have h2c:(S.ph != 2)=false:=by rw [h2];rfl
  rw [Kf h2] at ho;have HO:=Kb ho;clear ho h2;go_enter Tryz.func35,Tryz.ntmps35;go_upto_region 4 with fail;have A3:=HA1.out.set (S':={ S with ph:=3 }) hsV 8 (.int .i64 3) (fun _ _=>rfl) rfl rfl;have S3:=S1.set 8 (.int .i64 3);have HH3:=Kb (HH1.out.same ((Kp.refl w1.heap.size (Mu s0 jb cb vj vc) w1).setCell ⟨s0,8,none⟩ (.inl (.inl rfl)) (.int .i64 3)) lr);obtain ⟨w3,hw3⟩:∃ w3:World,w1.setCell ⟨s0,8,none⟩ (.int .i64 3)=w3:=⟨_,rfl⟩
  rw [hw3] at A3 S3 HH3;rw [hw3];have HA3:=Kb A3;have V3:=A3.v;clear z_ y_ zl S1 V1 hw3 A3;have z_:=S3.o23;have y_:=S3.of23;have zl:=S3.lt;have v_:=V3.o3;have f_:=V3.of3;have vl:=V3.lt
  go_region_held3 (fun w'=>(w'.cell? ⟨V,0,none⟩=some (.pointer (some ⟨jb,0,none⟩))/\w'.cell? ⟨V,1,none⟩=some (.pointer (some ⟨cb,0,none⟩))/\w'.cell? ⟨V,2,none⟩=some (.int .i64 now))/\w'.cell? ⟨s0,19,none⟩=some (.int .i64 S.st)/\w'.cell? ⟨s0,20,none⟩=some (.slice wa S.hs.length wk)/\w'.cell? ⟨s0,21,none⟩=some (.string S.sb))
   (first | exact ⟨e012_mk V3.drew,S3.drew.c 19 rfl,S3.drew.c 20 rfl,S3.drew.c 21 rfl⟩ | go_keep)
   (first
     | ((with_reducible refine (CK.out w3.drew (HA3.out.below (Kc w3).drew).f _ (HH3.out.below (Kc w3).drew)).mono ?_);rintro e4 w4 hq4;have HK:=Kb ((HA3.out.below (Kc w3).drew).keep hq4 hV1);obtain ⟨rfl,hsq,-⟩:=hq4;obtain ⟨vc4,lx4,A4⟩:=HK.out;have S4:=hsq (.slice va S.qh.length vk) (.slice wa S.hs.length wk) S3.drew;have V4:=A4.v;have h4:=S4.c 20 rfl;have h1:=e012_mk V4;have h3:=S4.c 19 rfl;have h5:=S4.c 21 rfl)
     | fail)
  have HA4:=Kb A4;clear A4 S4 V4 h1 h3 h4 h5 hsq HK;clear z_ y_ v_ f_ zl vl;clear V3 S3;go_wp2_with fail;go_ret;rw [<-HO.out];exact StepQ.one (w:=w) HA4.out.f.env HA4.out.f.st HA4.out.c HA4.out.k HA4.out.m (.slice none 0 0) endV rfl (Hs.nil _ _) _ rfl
 ·have h2b:(S.ph == 2)=false:=Ki.2 h2;have h2c:(S.ph != 2)=true:=by simpa using h2
  rw [Ke h2] at ho;have HO:=Kb ho;clear ho h2;go_enter Tryz.func35,Tryz.ntmps35;go_wp2_with fail;go_ret;rw [<-HO.out];exact StepQ.none (w:=w) HA1.out.f.env HA1.out.f.st HA1.out.c HA1.out.k HA1.out.m rfl
def HeadQ [Prot](w:World)(s0 jb cb B:Nat)(vj vc:Value)(j:List Ck × Int)(o:Out)(x:Ending)(w':World):Prop:=
 ∃ (v:Value) (l:List (Value × Ev)) (vj' vc':Value) (lx:List Ee),x = .returned v/\FIn w' s0 jb cb B vj' j.1 j.2 vc' lx o.s/\lx.map (·.2)=o.c/\Evs (Mu s0 jb cb vj' vc') w.heap.size w' v l o.ev/\Kp w.heap.size (Mu s0 jb cb vj vc) w w'/\(∀ b,b<w.heap.size->Mu s0 jb cb vj' vc' b->Mu s0 jb cb vj vc b)
structure JarA [Prot](w:World)(s0 jb cb B:Nat)(vj vc:Value)(lx:List Ee)(S:FSt)(V:Nat)(now:Int)(u:Value)(hd:List Hd)(vj1:Value)(j:List Ck × Int)(wx:World):Prop where
 f:FIn wx s0 jb cb B vj1 j.1 j.2 vc lx S
 k:Kp w.heap.size (Mu s0 jb cb vj vc) w wx
 m:∀ b,b<w.heap.size->Mu s0 jb cb vj1 vc b->Mu s0 jb cb vj vc b
 v:AtL wx V (envL jb cb now)
 vm:¬ Mu s0 jb cb vj1 vc V
 u:Hs (Mu s0 jb cb vj1 vc) wx u hd
section
variable {w wx w' : World} {s0 jb cb B : Nat} {vj vc : Value} {lx : List Ee} {S : FSt} {V : Nat} {now : Int} {u : Value} {hd : List Hd} {vj1 : Value} {j : List Ck × Int}
theorem JarA.below [Prot](h:JarA w s0 jb cb B vj vc lx S V now u hd vj1 j wx)(hb:Below wx.heap.size wx w'):JarA w s0 jb cb B vj vc lx S V now u hd vj1 j w':=
 ⟨h.f.below hb,h.k.below hb h.k.size,h.m,h.v.next hb,h.vm,h.u.below hb⟩
theorem JarA.set [Prot]{x:Ending}{j':List Ck × Int}(h:JarA w s0 jb cb B vj vc lx S V now u hd vj1 j wx)(q:SetE wx jb B vj1 j' x w'):∃ vj2,JarA w s0 jb cb B vj vc lx S V now u hd vj2 j' w':=by
 obtain ⟨er,_,⟨vj2,hJ,hto⟩,hr⟩:=q;obtain ⟨E,hM,K⟩:=h.f.env.jarTo hJ hto hr;obtain ⟨va,vk,wa,wk,S0,hq,hh⟩:=h.f.st;have hkp:Kp wx.heap.size (fun b=>b=jb\/vj1.ownBlock=some b) wx w':=⟨hr.os,hr.tape,hr.output,hr.size,fun i hi hne=>hr.block i hi (fun e=>hne (.inl e)) (fun e=>hne (.inr e))⟩
 have hns:¬ (fun b=>b=jb\/vj1.ownBlock=some b) s0:=by
  rintro (e | e)
  ·exact h.f.env.sj e
  ·exact h.f.env.js e
 exact ⟨vj2,⟨E,va,vk,wa,wk,S0.kp hkp S0.lt hns,hq.kp K lr hM,hh.kp K lr hM⟩,h.k.trans K h.k.size h.m,fun b hb e=>h.m b hb (hM b (Ko hb h.k.size) e),h.v.kp K h.v.lt h.vm,fun e=>h.vm (hM V h.v.lt e),h.u.kp K lr hM⟩
theorem HeadQ.of [Prot](h:JarA w s0 jb cb B vj vc lx S V now u hd vj1 j wx){o:Out}{x:Ending}(q:StepQ wx s0 jb cb B vj1 j.1 j.2 vc o x w'):HeadQ w s0 jb cb B vj vc j o x w':=by obtain ⟨v,l,vc',lx',h1,h2,h3,h4,h5,h6,h7⟩:=q;exact ⟨v,l,vj1,vc',lx',h1,h2,h3,⟨h4.eq,own_mono h4.own h.k.size,h4.far,h4.hs⟩,h.k.trans h5 h.k.size h.m,fun b hb e=>h.m b hb (h6 b (Ko hb h.k.size) e)⟩
end
theorem RedA.conf [Prot]{w0 w3 w':World}{s0 jb cb B:Nat}{vj:Value}{J:List Ck}{nx:Int}{vc:Value}{S:FSt}{C C':List En}{V:Nat}{now:Int}{vc1:Value}{lx1 l':List Ee}(h:RedA w0 s0 jb cb B vj J nx vc S C V now vc1 lx1 w3)(k:CaTo w3 cb B vc1 l' w')(hm:∀ y∈l',y∈lx1\/NewE y w3.heap.size)(hc:l'.map (·.2)=C')(hV:¬ Mu s0 jb cb vj vc1 V):
 ∃ vc2,RedA w0 s0 jb cb B vj J nx vc S C' V now vc2 l' w':=by
 obtain ⟨a,c,E,hM,K⟩:=h.f.env.caTo k hm;have hr:=k.2;have hkp:Kp w3.heap.size (fun b=>b=cb\/vc1.ownBlock=some b) w3 w':=⟨hr.os,hr.tape,hr.output,hr.size,fun i hi hne=>hr.block i hi (fun e=>hne (.inl e)) (fun e=>hne (.inr e))⟩
 have hns:¬ (fun b=>b=cb\/vc1.ownBlock=some b) s0:=by
  rintro (e | e)
  ·exact h.f.env.sc e
  ·exact h.f.env.cs e
 obtain ⟨va,vk,wa,wk,S0,hq,hh⟩:=h.f.st;exact ⟨.slice a l'.length c,⟨⟨E,va,vk,wa,wk,S0.kp hkp S0.lt hns,hq.kp K lr hM,hh.kp K lr hM⟩,hc,h.k.trans K h.k.size h.m,fun b hb e=>h.m b hb (hM b (Ko hb h.k.size) e),h.v.kp K h.v.lt hV⟩⟩
def CnfE [Prot](w0:World)(s0 jb cb B:Nat)(vj:Value)(J:List Ck)(nx:Int)(vc:Value)(S:FSt)(V:Nat)(now:Int)(ok:Bool)(en:En)(C':List En)(c11 c12:Value)(w':World):Prop:=
 ∃ (P:Nat) (u:ByteArray) (a1:Option Addr) (n1 k1:Nat) (a2:Option Addr) (n2 k2:Nat) (ti:Int) (vc2:Value) (l':List Ee),.pointer (some ⟨P,0,none⟩)=c11/\.bool ok=c12/\AtL w' P [.string u,.slice a1 n1 k1,.int .i64 en.st,.slice a2 n2 k2,.string en.bo,.int .i64 ti]/\RedA w0 s0 jb cb B vj J nx vc S C' V now vc2 l' w'/\SlK hdC 2 w' (.slice a2 n2 k2) en.hd/\FarM (fun b=>b=s0) en.hd (.slice a2 n2 k2)
section
variable {w0 wc w4 w5 : World} {s0 jb cb B P V : Nat} {vj : Value} {J : List Ck} {nx now ti : Int} {vc vc1 : Value} {S : FSt} {C C' : List En} {lx1 l' : List Ee} {u : ByteArray} {a1 a2 : Option Addr} {n1 k1 n2 k2 : Nat} {en : En} {ok : Bool} {e : Ending}
theorem confr_open (h:ConfR w4 cb B vc1 lx1 ok en C' e w5):∃ (u:ByteArray) (a1:Option Addr) (n1 k1:Nat) (a2:Option Addr) (n2 k2:Nat) (ti:Int) (l':List Ee),e = .returned (.tuple #[.agg #[.string u,.slice a1 n1 k1,.int .i64 en.st,.slice a2 n2 k2,.string en.bo,.int .i64 ti],.bool ok])/\SlK hdC 2 w5 (.slice a2 n2 k2) en.hd/\(∀ b off n k,Value.slice a2 n2 k2 = .slice (some ⟨b,off,none⟩) n k->w4.heap.size<=b)/\CaTo w4 cb B vc1 l' w5/\l'.map (·.2)=C'/\∀ y∈l',y∈lx1\/NewE y w4.heap.size:=by obtain ⟨u,a1,n1,k1,st,a2,n2,k2,bo,ti,L,rfl,hr,hn,h1,h2,h3⟩:=h;have e1:st=en.st:=hr.st;have e2:bo=en.bo:=hr.bo;subst e1 e2;exact ⟨u,a1,n1,k1,a2,n2,k2,ti,L,rfl,hr.hd,hn.2,h1,h2,h3⟩
theorem cnf_ab [Prot](A:RedA w0 s0 jb cb B vj J nx vc S C V now vc1 lx1 wc)(hV:¬ Mu s0 jb cb vj vc1 V)(h34:Below wc.heap.size wc w4)(hP:wc.heap.size<=P)(A4:AtL w4 P zE)(h2:SlK hdC 2 w5 (.slice a2 n2 k2) en.hd)(hn:∀ b off n k,Value.slice a2 n2 k2 = .slice (some ⟨b,off,none⟩) n k->w4.heap.size<=b)(hto:CaTo w4 cb B vc1 l' w5)(hc:l'.map (·.2)=C')(hm:∀ y∈l',y∈lx1\/NewE y w4.heap.size)(u:ByteArray)(a1:Option Addr)(n1 k1:Nat)(ti:Int):
 CnfE w0 s0 jb cb B vj J nx vc S V now ok en C' (.pointer (some ⟨P,0,none⟩)) (.bool ok) (setE6 w5 P (.string u) (.slice a1 n1 k1) (.int .i64 en.st) (.slice a2 n2 k2) (.string en.bo) (.int .i64 ti)):=by
 have hcb:=A.f.env.lc;have hls:=A.f.env.ls;have hPw:=A4.lt;have A5:=A4.row hto.2 A4.lt (by omega) (fun e=>by have:=A.f.env.cl e;omega);have hfar:∀ y∈l',FarE y P none:=fun y hy=>by
  rcases hm y hy with h4 | h4
  ·exact FarE.new (A.f.env.ca.rd y h4) hP
  ·exact h4.far hPw (fun b e=>by cases e)
 obtain ⟨vc2,A6⟩:=A.conf (cato_fin6 A.f.env.ca h34 hto hfar hP hPw (.string u) (.slice a1 n1 k1) (.int .i64 en.st) (.slice a2 n2 k2) (.string en.bo) (.int .i64 ti)) (fun y hy=>(hm y hy).imp id (fun h=>⟨fun b off n k e=>Kg h34.size (h.1 b off n k e),fun b off n k e=>Kg h34.size (h.2 b off n k e)⟩)) hc hV;have hf2:FarV en.hd (.slice a2 n2 k2) P none:=fun _ b off n k e=>⟨by have:=hn b off n k e;omega,by simp⟩
 exact ⟨P,u,a1,n1,k1,a2,n2,k2,ti,vc2,l',rfl,rfl,A5.setE6 rfl _ _ _ _ _ _,A6,slk_setE6 h2 hf2 _ _ _ _ _ _,fun _ b off n c e e2=>by have:=hn b off n c e;have:=h34.size;omega⟩
theorem cnf_c [Prot](A:RedA w0 s0 jb cb B vj J nx vc S C V now vc1 lx1 wc)(hV:¬ Mu s0 jb cb vj vc1 V)(h34:Below wc.heap.size wc w4)(h2:SlK hdC 2 w5 (.slice a2 n2 k2) en.hd)(hn:∀ b off n k,Value.slice a2 n2 k2 = .slice (some ⟨b,off,none⟩) n k->w4.heap.size<=b)(hto:CaTo w4 cb B vc1 l' w5)(hc:l'.map (·.2)=C')(hm:∀ y∈l',y∈lx1\/NewE y w4.heap.size)(u:ByteArray)(a1:Option Addr)(n1 k1:Nat)(ti:Int):
 CnfE w0 s0 jb cb B vj J nx vc S V now ok en C' (.pointer (some ⟨w5.heap.size,0,none⟩)) (.bool ok) (w5.alloc (.cells #[.string u,.slice a1 n1 k1,.int .i64 en.st,.slice a2 n2 k2,.string en.bo,.int .i64 ti] 90)):=by
 have hls:=A.f.env.ls;have hal:=(Kc w5).alloc lr (.cells #[.string u,.slice a1 n1 k1,.int .i64 en.st,.slice a2 n2 k2,.string en.bo,.int .i64 ti] 90);obtain ⟨⟨v',h5,h6⟩,h7⟩:=hto
 have hto2:CaTo wc cb B vc1 l' (w5.alloc (.cells #[.string u,.slice a1 n1 k1,.int .i64 en.st,.slice a2 n2 k2,.string en.bo,.int .i64 ti] 90)):=
  ⟨⟨v',h5.below hal lr,fun g e=>(h6 g e).imp id (fun h=>Kg h34.size h)⟩,(((RowBut.refl wc.heap.size cb vc1.ownBlock wc).below h34 lr).trans (h7.mono h34.size)).below hal (Kg h34.size h7.size)⟩
 obtain ⟨vc2,A6⟩:=A.conf hto2 (fun y hy=>(hm y hy).imp id (fun h=>⟨fun b off n k e=>Kg h34.size (h.1 b off n k e),fun b off n k e=>Kg h34.size (h.2 b off n k e)⟩)) hc hV;exact ⟨_,u,a1,n1,k1,a2,n2,k2,ti,vc2,l',rfl,rfl,AtL.new w5 [.string u,.slice a1 n1 k1,.int .i64 en.st,.slice a2 n2 k2,.string en.bo,.int .i64 ti] 90,A6,h2.below hal lr,fun _ b off n c e e2=>by have:=hn b off n c e;have:=h34.size;omega⟩
end
theorem jarF_snoc (S:FSt)(now:Int)(h:Hd):∀ (l:List Hd) (j:List Ck × Int),jarF S now (l ++ [h]) j=if isH h scN then setJ h.2 S now (jarF S now l j) else jarF S now l j
 | [],j=>rfl
 | x :: l,j=>by
   show jarF S now (l ++ [h]) (if isH x scN then setJ x.2 S now j else j)=_
   exact jarF_snoc S now h l _
theorem e02h_mk {W:World}{Q:Nat}{a b c:Value}(h:AtL W Q [a,b,c]):W.cell? ⟨Q,0,none⟩=some a/\W.cell? ⟨Q,2,none⟩=some c:=⟨h.c 0 rfl,h.c 2 rfl⟩
def cnfO (S:FSt)(C:List En)(J:List Ck)(now:Int):Option (En × List En)->Out
 | none=>failO S C 17
 | some r=>storedF (sendF J now 11) now r.1 S r.2
theorem N66{p:Prop}(h:p:=by
 go_wp2_with (first
  | ((with_reducible refine CTk.out.mono ?_);rintro e9 w9 hq9;have HQ:=Kb (HAR.out.fin hq9);obtain ⟨ra,rn,rc,rfl⟩:=stepq_shape hq9)
  | fail)
 go_ret;have hq:=HQ.out;rw [HCE.out,HO.out] at hq;rw [HP2.out.1]
 exact HeadQ.of HAC.out hq
 ):p:=h
theorem head_is [Prot]{w:World}{s0 jb cb B:Nat}{vj:Value}{J:List Ck}{nx:Int}{vc:Value}{lx:List Ee}{S:FSt}{n m:Nat}(F:FIn w s0 jb cb B vj J nx vc lx S)(hS:SOk S)(hJ:JOk J)(hC:COk n m (lx.map (·.2)))(hn:n<=870)(hm:m+8<=800)(h8:8<=m)(hn1:0<=nx)(hn2:nx<=1125899906900000)
 (st:Int) (u:Value) (hd:List Hd) (hu:Hs (Mu s0 jb cb vj vc) w u hd) (hh:HOk 8 hd) (hset:(∃ h∈hd,isH h scN=true)->SetC) (now:Int) (p:(List Ck × Int) × Out) (hp:headA now st hd S (J,nx) (lx.map (·.2))=p) :
 Calls Tryz.prog 31 #[.pointer (some ⟨s0,0,none⟩),.int .i64 st,u,envA jb cb now] w (HeadQ w s0 jb cb B vj vc p.1 p.2):=by
 have hal:=(Kc w).alloc lr (.cells (envL jb cb now).toArray 83);have V1:=AtL.new w (envL jb cb now) 83;have F1:=F.below hal;have hV1:¬ Mu s0 jb cb vj vc w.heap.size:=fun e=>by have:=F.env.mlt _ e;omega
 have A1:JarA w s0 jb cb B vj vc lx S w.heap.size now u hd vj (J,nx) (w.alloc (.cells (envL jb cb now).toArray 83)):=⟨F1,Kp.of_below hal lr,fun _ _ e=>e,V1,hV1,hu.below hal⟩
 obtain ⟨ua,uk,rfl⟩:=hu.shape;obtain ⟨C,hCe⟩:=Ka (lx.map (·.2));rw [hCe] at hp;have hjb:=fun k=>jarF_ok (now:=now) hS.u4 (hd.take k) (J,nx) hJ (fun x hx=>by have:=hh.sz x (Xk hx);omega);have HJB:=Kb hjb;have HH:=Kb hh;have HSET:=Kb hset;have hhl:=hh.len;have HSK:=Kb hS;have HCK:=Kb hC;have HCE:=Kb hCe;have HJ:=Kb hJ;obtain ⟨w1,hw1⟩:∃ w1:World,w.alloc (.cells (envL jb cb now).toArray 83)=w1:=⟨_,rfl⟩
 obtain ⟨V,hV⟩:=Ka w.heap.size;rw [hw1] at A1;rw [hV] at A1;have hVs:V<=w.heap.size:=Jl hV.symm;obtain ⟨va,vk,wa,wk,S1,_,_⟩:=A1.f.st;have S1:AtL w1 s0 (fsC S.tk S.me S.ur S.og S.mo (.slice va S.qh.length vk) S.qb S.ck S.ph S.a S.b S.c S.d S.e S.f S.sm S.ho S.ch S.hi S.st (.slice wa S.hs.length wk) S.sb S.er):=S1;have HA1:=Kb A1;clear hal V1 F1 hV1 A1 hu F hS hJ hC hjb hh hCe hset;have CF:=Kb (fun (w':World) (vj':Value) (J':List Ck) (nx':Int) (vc':Value) (lx':List Ee) (S':FSt) (F':FIn w' s0 jb cb B vj' J' nx' vc' lx' S') (e:Int)=>fail_is F' e);have z0:=S1.c 0 rfl;have z1:=S1.c 1 rfl;have z2:=S1.c 2 rfl;have z3:=S1.c 3 rfl;have z4:=S1.c 4 rfl;have z5:=S1.c 5 rfl;have z6:=S1.c 6 rfl;have z7:=S1.c 7 rfl;have z8:=S1.c 8 rfl;have z9:=S1.c 9 rfl;have z10:=S1.c 10 rfl;have z11:=S1.c 11 rfl;have z12:=S1.c 12 rfl;have z13:=S1.c 13 rfl;have z14:=S1.c 14 rfl;have z15:=S1.c 15 rfl;have z16:=S1.c 16 rfl;have z17:=S1.c 17 rfl;have z18:=S1.c 18 rfl;have z19:=S1.c 19 rfl;have z20:=S1.c 20 rfl;have z21:=S1.c 21 rfl;have z22:=S1.c 22 rfl;have y_:=S1.of23;have zl:=S1.lt;unfold headA at hp;by_cases hph:S.ph=1
 ·rw [Kf hph] at hp;have hpb:(S.ph == 1)=true:=by rw [hph];rfl
  have hpn:(S.ph != 1)=false:=by rw [hph];rfl
  have HPH:=Kb hph;have HP:=Kb hp;clear hph hp;obtain ⟨ckb,hck⟩:=Ka S.ck;rw [hck] at z7;have HCKB:=Kb hck;clear hck;go_enter Tryz.func31,Tryz.ntmps31;go_upto_if 22 with fail;obtain ⟨j,hj⟩:=Ka (jarH S now hd (J,nx));have HJJ:=Kb hj;clear hj;clear z0 z1 z2 z3 z4 z5 z6 z7 z8 z9 z10 z11 z12 z13 z14 z15 z16 z17 z18 z19 z20 z21 z22 y_ S1;go_cut [] from 23 to 42 (fun wx=>∃ vj1,JarA w s0 jb cb B vj vc lx S V now (.slice ua hd.length uk) hd vj1 j wx)
  case first=>
   cases ckb with
   | false=>
     go_wp2_with fail
     go_meet
     case rel=>exact ⟨vj,by rw [<-HJJ.out];unfold jarH;rw [HCKB.out,Ke (by decide)];exact HA1.out⟩
   | true=>
     go_wp2_with fail
     go_loopw [25] (fun iv wr=>∃ k:Nat,k<=hd.length/\iv = .int .i64 k/\Hid (∃ vj1,JarA w s0 jb cb B vj vc lx S V now (.slice ua hd.length uk) hd vj1 (jarF S now (hd.take k) (J,nx)) wr)) (fun iv _=>hd.length - (intOf iv).toNat)
     case atStart=>exact ⟨0,Kh _,rfl,Kb ⟨vj,HA1.out⟩⟩
     case round=>
      obtain ⟨k,hk,rfl,HR⟩:=hrel
      obtain ⟨vj1,A2⟩:=HR.out
      by_cases hlt:k<hd.length
      ·have hki:(k:Int)<(hd.length:Int):=by omega
       have hl9:hd.length<=9223372036854775807:=by omega
       have HA2:=Kb A2
       obtain ⟨b0,off,cap,he,hb0,hcell⟩:∃ b0 off cap:Nat,Value.slice ua hd.length uk = .slice (some ⟨b0,off,none⟩) hd.length cap/\b0<wr.heap.size/\∀ j v,(hdC hd[k])[j]? = some v->wr.cell? ⟨b0,off+k * 2+j,none⟩=some v:=by
        rcases A2.u.1 with ⟨h0,_⟩ | ⟨_,b0,off,cap,he,_,_,h4,h5⟩
        ·rw [h0] at hlt;exact absurd hlt (Nat.not_lt_zero _)
        ·exact ⟨b0,off,cap,he,h4,h5 k hlt⟩
       injection he with e1 e2 e3
       subst e1 e3
       have hst:=jarF_snoc S now hd[k] (hd.take k) (J,nx)
       rw [<-Jf hlt] at hst
       have hz:=HH.out.sz _ (Ky hlt)
       have hjk:=HJB.out k
       have hzv:hd[k].2.size<=1000:=by omega
       have hset2:=fun e=>HSET.out ⟨_,Ky hlt,e⟩
       obtain ⟨y,hy⟩:=Ka (hd[k])
       rw [hy] at hst hz hcell hzv hset2
       obtain ⟨yn,yv⟩:=y
       have c0:=hcell 0 _ rfl
       have c1:=hcell 1 _ rfl
       simp only [Ku] at c0
       obtain ⟨hb,hhb⟩:=Ka (isH (yn,yv) scN)
       have CI:=Kb (fun (w':World)=>is_is (yn,yv) scN w' (by omega) (by decide) hb hhb)
       rw [hhb] at hst hset2
       have HSET2:=Kb hset2
       clear hset2
       obtain ⟨j1,hj1⟩:=Ka (jarF S now (hd.take k) (J,nx))
       rw [hj1] at hst hjk A2 HA2
       have htl:(hd.take k).length<=8:=by rw [Jk];omega
       have HST:=Kb hst
       have CJ:=Kb (fun (e:hb=true) (w':World) (F':FIn w' s0 jb cb B vj1 j1.1 j1.2 vc lx S)=>HSET2.out e w' jb B vj1 j1.1 j1.2 yv S now F'.env.mx F'.env.jar HSK.out.u4 hjk.1 (by have:=hjk.2.1;have h0:(J,nx).2=nx:=rfl;omega) (by have:=hjk.2.2;have h0:(J,nx).2=nx:=rfl;omega) hzv)
       have V2:=A2.v
       obtain ⟨va2,vk2,wa2,wk2,S2,_,_⟩:=A2.f.st
       have S2:AtL wr s0 (fsC S.tk S.me S.ur S.og S.mo (.slice va2 S.qh.length vk2) S.qb S.ck S.ph S.a S.b S.c S.d S.e S.f S.sm S.ho S.ch S.hi S.st (.slice wa2 S.hs.length wk2) S.sb S.er):=S2
       have B3:=AtL.new wr (hdC (yn,yv)) 70
       have h3:=(Kc wr).alloc lr (.cells (hdC (yn,yv)).toArray 70)
       have V3:=V2.next h3
       have S3:=S2.next h3
       clear hcell hst hz hhb hjk hy hj1 A2 HR
       cases hb with
       | false=>
         have HST:Hid (jarF S now (hd.take (k+1)) (J,nx)=j1):=Kb (by rw [HST.out];rfl)
         go_wp2_with ((with_reducible refine (CI.out _).mono ?_);rintro e4 w4 ⟨rfl,hb4⟩;have HA4:=Kb (HA2.out.below (h3.trans (hb4.mono h3.size))))
         go_roundw
         case rel=>exact ⟨k+1,by omega,by go_num,Kb ⟨vj1,by rw [HST.out];exact HA4.out⟩⟩
         case measure=>simp [intOf];omega
       | true=>
         have CJ2:=Kb (CJ.out rfl)
         clear CJ HSET2
         have HST:Hid (jarF S now (hd.take (k+1)) (J,nx)=setJ yv S now j1):=Kb (by rw [HST.out];rfl)
         go_upto_region 8 with ((with_reducible refine (CI.out _).mono ?_);rintro e4 w4 ⟨rfl,hb4⟩;have V4:=V3.next hb4;have S4:=S3.next hb4;have B4:=B3.next hb4;have HA4:=Kb (HA2.out.below (h3.trans (hb4.mono h3.size))))
         obtain ⟨Hb,hHb⟩:=Ka wr.heap.size
         rw [hHb] at B4
         rw [hHb]
         have hsH:s0≠Hb:=by have:=HA2.out.f.env.ls;omega
         have hjH:Hb≠jb:=by have:=HA2.out.f.env.lj;omega
         have hoH:vj1.ownBlock≠some Hb:=fun e=>by have:=HA2.out.f.env.jl e;omega
         clear hHb V2 S2 V3 S3 B3 h3 hb4
         have z0:=S4.c 0 rfl;have z1:=S4.c 1 rfl;have z2:=S4.c 2 rfl;have z3:=S4.c 3 rfl;have z4:=S4.c 4 rfl;have z5:=S4.c 5 rfl;have z6:=S4.c 6 rfl;have z7:=S4.c 7 rfl;have z8:=S4.c 8 rfl;have z9:=S4.c 9 rfl;have z10:=S4.c 10 rfl;have z11:=S4.c 11 rfl;have z12:=S4.c 12 rfl;have z13:=S4.c 13 rfl;have z14:=S4.c 14 rfl;have z15:=S4.c 15 rfl;have z16:=S4.c 16 rfl;have z17:=S4.c 17 rfl;have z18:=S4.c 18 rfl;have z19:=S4.c 19 rfl;have z20:=S4.c 20 rfl;have z21:=S4.c 21 rfl;have z22:=S4.c 22 rfl
         have zl:=S4.lt
         have v_:=V4.o3
         have vl:=V4.lt
         have b0:=B4.c 0 rfl;have b1:=B4.c 1 rfl
         have bl:=B4.lt
         go_region_held3 (fun w'=>(w'.cell? ⟨V,0,none⟩=some (.pointer (some ⟨jb,0,none⟩))/\w'.cell? ⟨V,2,none⟩=some (.int .i64 now))/\w'.cell? ⟨Hb,1,none⟩=some (.string yv)/\w'.cell? ⟨s0,9,none⟩=some (.string S.a)/\w'.cell? ⟨s0,10,none⟩=some (.string S.b)/\w'.cell? ⟨s0,11,none⟩=some (.string S.c)/\w'.cell? ⟨s0,12,none⟩=some (.string S.d)/\w'.cell? ⟨s0,13,none⟩=some (.string S.e)/\w'.cell? ⟨s0,14,none⟩=some (.string S.f))
          (first | exact ⟨e02h_mk V4.drew,B4.drew.c 1 rfl,s7_at S4.drew⟩ | go_keep)
          (first
            | ((with_reducible refine (CJ2.out w4.drew (HA4.out.below (Kc w4).drew).f).mono ?_);rintro e5 w5 hq5;have HA5:=Kb ((HA4.out.below (Kc w4).drew).set hq5);obtain ⟨er5,rfl,-,hr5⟩:=hq5;have B5:=B4.drew.row hr5 B4.drew.lt hjH hoH;have h3:=B5.c 1 rfl;first | (obtain ⟨vj5,A5⟩:=HA5.out;have V5:=A5.v;obtain ⟨va5,vk5,wa5,wk5,S5,_,_⟩:=A5.f.st;have h1:=e02h_mk V5;have h2:=s7_at S5;skip) | skip)
            | fail)
         all_goals
          clear z0 z1 z2 z3 z4 z5 z6 z7 z8 z9 z10 z11 z12 z13 z14 z15 z16 z17 z18 z19 z20 z21 z22
          clear v_ b0 b1 zl vl bl V4 S4 B4
          go_wp2_with fail
          go_roundw
          case rel=>exact ⟨k+1,by omega,by go_num,Kb (by rw [HST.out];exact HA5.out)⟩
          case measure=>simp [intOf];omega
      ·obtain rfl:k=hd.length:=by omega
       have HA2:=Kb A2
       clear A2 HR
       go_wp2_with fail
       go_meet
       case rel=>exact ⟨vj1,by rw [<-HJJ.out];unfold jarH;rw [HCKB.out,Kf rfl];have h:=HA2.out;rw [Jq] at h;exact h⟩
  case rest=>
   obtain ⟨vj1,Ac⟩:=hcut;have hjk:=HJB.out hd.length;rw [Jq] at hjk;have hjo:JOk j.1:=by
    rw [<-HJJ.out];unfold jarH;split
    ·exact hjk.1
    ·exact HJ.out
   have HJO:=Kb hjo;have AR:RedA wc s0 jb cb B vj1 j.1 j.2 vc S C V now vc lx wc:=⟨Ac.f,HCE.out,Kp.refl _ _ _,fun _ _ e=>e,Ac.v⟩
   have HAC:=Kb Ac;have HAR:=Kb AR;have HP2:Hid (p.1=j/\headF j.1 now st hd S C=p.2):=Kb (by have h:=HP.out;rw [HJJ.out] at h;subst h;exact ⟨rfl,rfl⟩);have V2:=Ac.v;obtain ⟨va2,vk2,wa2,wk2,S2,hq2,hh2⟩:=Ac.f.st;have S2:AtL wc s0 (fsC S.tk S.me S.ur S.og S.mo (.slice va2 S.qh.length vk2) S.qb S.ck S.ph S.a S.b S.c S.d S.e S.f S.sm S.ho S.ch S.hi S.st (.slice wa2 S.hs.length wk2) S.sb S.er):=S2;have z0:=S2.c 0 rfl;have z1:=S2.c 1 rfl;have z2:=S2.c 2 rfl;have z3:=S2.c 3 rfl;have z4:=S2.c 4 rfl;have z5:=S2.c 5 rfl;have z6:=S2.c 6 rfl;have z7:=S2.c 7 rfl;have z8:=S2.c 8 rfl;have z9:=S2.c 9 rfl;have z10:=S2.c 10 rfl;have z11:=S2.c 11 rfl;have z12:=S2.c 12 rfl;have z13:=S2.c 13 rfl;have z14:=S2.c 14 rfl;have z15:=S2.c 15 rfl;have z16:=S2.c 16 rfl;have z17:=S2.c 17 rfl;have z18:=S2.c 18 rfl;have z19:=S2.c 19 rfl;have z20:=S2.c 20 rfl;have z21:=S2.c 21 rfl;have z22:=S2.c 22 rfl;have zl:=S2.lt;have v_:=V2.o3;have vl:=V2.lt;clear hjk hjo AR Ac HP zl;have zl:=S2.lt;obtain ⟨chb,hchb⟩:=Ka S.ch;rw [hchb] at z17;have HCB:=Kb hchb;clear hchb;by_cases h304:(chb && decide (st=304))=true
   ·obtain ⟨rfl,h3⟩:chb=true/\st=304:=by simpa using h304
    subst h3;clear h304;obtain ⟨T,hT⟩:=Ka (txB S);obtain ⟨L,hL⟩:=Ka (hdF S);obtain ⟨q,hq⟩:=Ka (confF C T L hd now);have ho:cnfO S C j.1 now q=p.2:=by have h:=HP2.out.2;unfold headF at h;rw [HCB.out,hT,hL,hq] at h;rw [<-h];cases q <;> rfl
    have hqo:=fun r (h:confF C T L hd now=some r)=>conf_ok (n:=n) (m:=m) (by rw [<-HCE.out];exact HCK.out) HH.out T L now r h;rw [hq] at hqo;have hzl:HdSz L:=by rw [<-hL];exact HSK.out.r.1
    obtain ⟨ok,en,C',hoke,HQO⟩:∃ (ok:Bool) (en:En) (C':List En),((ok=false/\C'=C/\failO S C 17=p.2)\/(ok=true/\EOk (m+8) en/\COk n (m+8) C'/\storedF (sendF j.1 now 11) now en S C'=p.2)) /\
     ∀ (w':World) (F':FIn w' s0 jb cb B vj1 j.1 j.2 vc lx S) (vr:Value) (_:SlK hdC 2 w' vr L) (_:SlK hdC 2 w' (.slice ua hd.length uk) hd),Calls Tryz.prog 73 #[.pointer (some ⟨cb,0,none⟩),.string T,vr,.slice ua hd.length uk,.int .i64 now] w' (ConfR w' cb B vc lx ok en C'):=by
     have eC:=HCE.out
     subst eC
     have hcall:=fun (w':World) (F':FIn w' s0 jb cb B vj1 j.1 j.2 vc lx S) (vr:Value) (hv:SlK hdC 2 w' vr L) (hu':SlK hdC 2 w' (.slice ua hd.length uk) hd)=>conf_all cb B vc lx w' F'.env.ca (fun x hx=>⟨(HCK.out.ok x.2 (Zc hx)).va,(HCK.out.ok x.2 (Zc hx)).hd.hd (by omega)⟩) (by have:=HCK.out.len;rw [Za] at this;omega) T L hd vr _ hv hu' hzl (HH.out.hd (by omega)) (by omega) (fun x hx=>by have:=(HCK.out.ok x.2 (Zc hx)).hd.len;omega) now q hq
     cases q with
     | none=>exact ⟨false,en0,_,.inl ⟨rfl,rfl,ho⟩,hcall⟩
     | some r=>
       obtain ⟨e,C'⟩:=r
       have h1:=hqo (e,C') rfl
       exact ⟨true,e,C',.inr ⟨rfl,h1.1,h1.2,ho⟩,hcall⟩
    have HOK:=Kb hoke;have HQF:=Kb HQO;have CT:=Kb (fun (w':World) (F':FIn w' s0 jb cb B vj1 j.1 j.2 vc lx S)=>(show Calls Tryz.prog 74 #[.pointer (some ⟨s0,0,none⟩)] w' fun x w''=>x = .returned (.string T)/\Below w'.heap.size w' w'' by obtain ⟨va,vk,wa,wk,S',_,_⟩:=F'.st;exact txt_is S' HSK.out.u4 T hT));have CH:=Kb (fun (w':World) (F':FIn w' s0 jb cb B vj1 j.1 j.2 vc lx S)=>(show Calls Tryz.prog 75 #[.pointer (some ⟨s0,0,none⟩)] w' (HdsQ w' L) by obtain ⟨va,vk,wa,wk,S',hq',_⟩:=F'.st;exact headers_is S s0 _ _ w' F'.env.mx S' hq'.1 HSK.out.q HSK.out.u4 L hL));clear hT hL hq ho hqo hzl hoke HQO;go_upto_region 11 with fail;go_cut [11,12] from 51 to 63 (fun c11 c12 w'=>CnfE wc s0 jb cb B vj1 j.1 j.2 vc S V now ok en C' c11 c12 w')
    case first=>
     have hcV:V≠cb:=fun e=>HAC.out.vm (.inr (.inr (.inl e)));have hoV:vc.ownBlock≠some V:=fun e=>HAC.out.vm (.inr (.inr (.inr (.inr e))));have hcl:=HAC.out.f.env.lc;clear z0 z1 z2 z3 z4 z5 z6 z7 z8 z9 z10 z11 z12 z13 z14 z15 z16 z17 z18 z19 z20 z21 z22
     go_region_held3 (fun w'=>w'.cell? ⟨V,1,none⟩=some (.pointer (some ⟨cb,0,none⟩))/\w'.cell? ⟨V,2,none⟩=some (.int .i64 now))
      (first | with_reducible exact e2_mk V2.drew | with_reducible exact e2_mk (V2.alloc _).drew | with_reducible exact e2_mk V4 | with_reducible exact e2_mk (V4.alloc _) | with_reducible exact e2_mk V5 | with_reducible exact e2_mk (V5.alloc _) | with_reducible exact e2_mk V6 | with_reducible exact e2_mk (V6.alloc _) | exact e2_mk (atl_farE6 V6 hPV _ _ _ _ _ _) | go_keep)
      (first
        | ((with_reducible refine (CT.out wc.drew (HAC.out.f.below (Kc wc).drew)).mono ?_);rintro e4 w4 ⟨rfl,hbb4⟩;have h34:Below wc.heap.size wc w4:=(Below.refl wc.heap.size wc).drew.trans hbb4;have V4:=V2.next h34;have vl4:=V4.lt)
        | ((with_reducible refine (CT.out (wc.alloc (.cells zE.toArray 90)).drew (HAC.out.f.below ((Below.refl wc.heap.size wc).alloc lr (.cells zE.toArray 90)).drew)).mono ?_);rintro e4 w4 ⟨rfl,hbb4⟩;have h34:Below wc.heap.size wc w4:=((Below.refl wc.heap.size wc).alloc lr (.cells zE.toArray 90)).drew.trans (hbb4.mono (by simp));have V4:=V2.next h34;have P4:=(AtL.new wc zE 90).drew.next hbb4;have hP:wc.heap.size<=wc.heap.size:=lr;have hPV:wc.heap.size≠V:=(by omega);have vl4:=V4.lt)
        | ((with_reducible refine (CH.out w4 (HAC.out.f.below h34)).mono ?_);rintro e5 w5 hq5;obtain ⟨v5,rfl,o5,_,hb5⟩:=hq5;obtain ⟨oa,oc,rfl,_⟩:=own_reads o5;have h35:Below wc.heap.size wc w5:=h34.trans (hb5.mono h34.size);have V5:=V4.next hb5;have vl5:=V5.lt;have s5:=Kb (SlK.of_own hdC_len o5);first | (have P5:=P4.next hb5) | skip)
        | (go_at_call 75;have h34a:=h34.alloc h34.size (.cells zE.toArray 90);have P4:=AtL.new w4 zE 90;have hP:wc.heap.size<=w4.heap.size:=h34.size;have hPV:w4.heap.size≠V:=Nat.ne_of_gt vl4;(with_reducible refine (CH.out (w4.alloc (.cells zE.toArray 90)) (HAC.out.f.below h34a)).mono ?_);rintro e5 w5 hq5;obtain ⟨v5,rfl,o5,_,hb5⟩:=hq5;obtain ⟨oa,oc,rfl,_⟩:=own_reads o5;have h35:Below wc.heap.size wc w5:=h34a.trans (hb5.mono h34a.size);have V5:=(V4.alloc (.cells zE.toArray 90)).next hb5;have vl5:=V5.lt;have s5:=Kb (SlK.of_own hdC_len o5);have P5:=P4.next hb5)
        | (go_at_call 73;have T1:=HQF.out w5 (HAC.out.f.below h35) _ s5.out (HAC.out.u.below h35).1;(with_reducible refine T1.mono ?_);rintro e6 w6 hq6;obtain ⟨pu,a1,n1,k1,a2,n2,k2,ti,l6,rfl,hs6,hn6,hto6,hc6,hm6⟩:=confr_open hq6;have V6:=V5.row hto6.2 V5.lt hcV hoV;have vl6:=V6.lt;first | (have HN:=Kb (cnf_ab (ok:=ok) HAR.out HAC.out.vm h35 hP P5 hs6 hn6 hto6 hc6 hm6 pu a1 n1 k1 ti);have P6:=P5.row hto6.2 P5.lt (by omega) (fun e=>by have:=HAC.out.f.env.cl e;omega);have p_:=P6.o6;have f0:=P6.f 0 rfl;have f1:=P6.f 1 rfl;have f2:=P6.f 2 rfl;have f3:=P6.f 3 rfl;have f4:=P6.f 4 rfl;have f5:=P6.f 5 rfl;have apl:=P6.lt) | (have HN:=Kb (cnf_c (ok:=ok) HAR.out HAC.out.vm h35 hs6 hn6 hto6 hc6 hm6 pu a1 n1 k1 ti)))
        | (go_at_call 73;have h35a:=h35.alloc h35.size (.cells zE.toArray 90);have P5:=AtL.new w5 zE 90;have hP:wc.heap.size<=w5.heap.size:=h35.size;have hPV:w5.heap.size≠V:=Nat.ne_of_gt vl5;have s5a:=s5.out.below ((Kc w5).alloc lr (.cells zE.toArray 90)) lr;have V5a:=V5.alloc (.cells zE.toArray 90);have T1:=HQF.out (w5.alloc (.cells zE.toArray 90)) (HAC.out.f.below h35a) _ s5a (HAC.out.u.below h35a).1;(with_reducible refine T1.mono ?_);rintro e6 w6 hq6;obtain ⟨pu,a1,n1,k1,a2,n2,k2,ti,l6,rfl,hs6,hn6,hto6,hc6,hm6⟩:=confr_open hq6;have V6:=V5a.row hto6.2 V5a.lt hcV hoV;have vl6:=V6.lt;have HN:=Kb (cnf_ab (ok:=ok) HAR.out HAC.out.vm h35a hP P5 hs6 hn6 hto6 hc6 hm6 pu a1 n1 k1 ti);have P6:=P5.row hto6.2 P5.lt (by omega) (fun e=>by have:=HAC.out.f.env.cl e;omega);have p_:=P6.o6;have f0:=P6.f 0 rfl;have f1:=P6.f 1 rfl;have f2:=P6.f 2 rfl;have f3:=P6.f 3 rfl;have f4:=P6.f 4 rfl;have f5:=P6.f 5 rfl;have apl:=P6.lt)
        | (go_at_call 73;have h35a:=h35.alloc h35.size (.cells zE.toArray 90);have P5:=AtL.new w5 zE 90;have hP:wc.heap.size<=w5.heap.size:=h35.size;have hPV:w5.heap.size≠V:=Nat.ne_of_gt vl5;(with_reducible refine (HQF.out (w5.alloc (.cells zE.toArray 90)) (HAC.out.f.below h35a) _ (s5.out.below ((Kc w5).alloc lr (.cells zE.toArray 90)) lr) (HAC.out.u.below h35a).1).mono ?_);rintro e6 w6 hq6;obtain ⟨pu,a1,n1,k1,a2,n2,k2,ti,l6,rfl,hs6,hn6,hto6,hc6,hm6⟩:=confr_open hq6;have V6:=(V5.alloc (.cells zE.toArray 90)).row hto6.2 (V5.alloc (.cells zE.toArray 90)).lt hcV hoV;have vl6:=V6.lt;have HN:=Kb (cnf_ab (ok:=ok) HAR.out HAC.out.vm h35a hP P5 hs6 hn6 hto6 hc6 hm6 pu a1 n1 k1 ti);have P6:=P5.row hto6.2 P5.lt (by omega) (fun e=>by have:=HAC.out.f.env.cl e;omega);have p_:=P6.o6;have f0:=P6.f 0 rfl;have f1:=P6.f 1 rfl;have f2:=P6.f 2 rfl;have f3:=P6.f 3 rfl;have f4:=P6.f 4 rfl;have f5:=P6.f 5 rfl;have apl:=P6.lt)
        | fail)
     all_goals go_wp2_with fail;go_meet;case rel=>exact HN.out
    case rest=>
     obtain ⟨P,pu,a1,n1,k1,a2,n2,k2,ti,vc2,l2,rfl,rfl,P7,A7,hs7,hf7⟩:=hcut;clear z0 z1 z2 z3 z4 z5 z6 z7 z8 z9 z10 z11 z12 z13 z14 z15 z16 z17 z18 z19 z20 z21 z22;clear v_ vl zl V2 S2;have p_:=P7.o6;have f0:=P7.f 0 rfl;have f1:=P7.f 1 rfl;have f2:=P7.f 2 rfl;have f3:=P7.f 3 rfl;have f4:=P7.f 4 rfl;have f5:=P7.f 5 rfl;have pl:=P7.lt;have V7:=A7.v;have v_:=V7.o3;have f0:=V7.f 0 rfl;have f1:=V7.f 1 rfl;have f2:=V7.f 2 rfl;have vl:=V7.lt;have HA7:=Kb A7;have HS7:=Kb (And.intro hs7 hf7);clear A7 hs7 hf7 P7 V7;rcases HOK.out with ⟨rfl,rfl,hfo⟩ | ⟨rfl,hen,hck,hst⟩
     ·have HFO:=Kb hfo;clear hfo
      go_wp2_with (first
       | ((with_reducible refine (CF.out _ _ _ _ _ _ _ HA7.out.f _).mono ?_);rintro e9 w9 hq9;have HQ:=Kb (HA7.out.fin hq9);obtain ⟨ra,rn,rc,rfl⟩:=stepq_shape hq9)
       | fail)
      go_ret;have hq:=HQ.out;rw [HA7.out.c,HFO.out] at hq;rw [HP2.out.1];exact HeadQ.of HAC.out hq
     ·have CSt:=Kb (stored_net HA7.out.f HSK.out HJO.out (by rw [HA7.out.c];exact hck) (by omega) hm en hen pu a1 n1 k1 a2 n2 k2 ti ⟨HS7.out.1,HS7.out.2⟩ now);have HST:=Kb hst;clear hen hck hst
      go_wp2_with (first
       | ((with_reducible refine CSt.out.mono ?_);rintro e9 w9 hq9;have HQ:=Kb (HA7.out.fin hq9);obtain ⟨ra,rn,rc,rfl⟩:=stepq_shape hq9)
       | fail)
      go_ret;have hq:=HQ.out;rw [HA7.out.c,HST.out] at hq;rw [HP2.out.1];exact HeadQ.of HAC.out hq
   ·have ho:takeF (sendF j.1 now 11) true now st hd S C=p.2:=by have h:=HP2.out.2;unfold headF at h;rw [HCB.out,Ke h304] at h;exact h
    have CTk:=Kb (take_net HAR.out.f HSK.out HJO.out (n:=n) (m:=m) HCK.out (by omega) (by omega) st _ hd HAC.out.u (HH.out.mono h8) now);have HO:=Kb ho;clear ho;cases chb with
    | false=>
      clear h304
      exact N66
    | true=>
      have h3:(st == 304)=false:=Ki.2 fun e=>h304 (by rw [Kx e];rfl);clear h304
      exact N66
 ·rw [Ke hph] at hp;have hpb:(S.ph == 1)=false:=Ki.2 hph;have hpn:(S.ph != 1)=true:=by simpa using hph
  have HP:=Kb hp;clear hph hp;go_enter Tryz.func31,Tryz.ntmps31;go_wp2_with fail;go_ret;rw [<-HP.out];exact HeadQ.of HA1.out (StepQ.none (o:=⟨S,C,[]⟩) HA1.out.f.env HA1.out.f.st HCE.out (Kp.refl _ _ _) (fun _ _ e=>e) rfl)
end Go.Proofs.YtjdhaacmlpegoaaGreatDoor
