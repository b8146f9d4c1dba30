/- Part 43 of what the proof needs: YI YL0. -/
import Derived.Test.YtjdhaacmlpegoaaGreatDoorP25
import Derived.Test.YtjdhaacmlpegoaaGreatDoorP12
import Derived.Test.YtjdhaacmlpegoaaGreatDoorP01
import Derived.Test.YtjdhaacmlpegoaaGreatDoorP09
import Derived.Test.YtjdhaacmlpegoaaGreatDoorP14
import Derived.BigQuiet
set_option maxRecDepth 20000
set_option maxHeartbeats 16000000
namespace Go.Proofs.YtjdhaacmlpegoaaGreatDoor
open Go.RowKit
set_option linter.unusedSimpArgs false
set_option linter.unusedVariables false
theorem lcp4_is (hs:List Hd)(v:Value)(w:World)(hv:SlK hdC 2 w v hs)(hl:hs.length<=1000000):Calls Tryz.prog 33 #[v] w (CloQ w hs):=by
 rcases hv with ⟨rfl,a,cap,rfl,h2⟩ | ⟨h0,b,off,cap,rfl,h2,h3,h4,h5⟩
 ·cases a with
  | none=>
    go_enter Tryz.func33,Tryz.ntmps33
    go_wp2_with (refine app_z0 slH _ (by rfl) (.tmp 3) (.tmp 4) (by rfl) w.heap.size none cap (by rfl) (by rfl) ?_)
    go_ret
    first
     | exact ⟨_,rfl,World.ownsRow_nil _ _ _ _,Below.refl _ _⟩
     | exact ⟨_,rfl,own_z0 _ _ _,(Below.refl _ w).alloc lr _⟩
     | fail
  | some ad=>
    go_enter Tryz.func33,Tryz.ntmps33
    go_wp2_with (refine app_z0 slH _ (by rfl) (.tmp 3) (.tmp 4) (by rfl) w.heap.size (some ad) cap (by rfl) (by rfl) ?_)
    go_ret
    exact ⟨_,rfl,own_z0 _ _ _,(Below.refl _ w).alloc lr _⟩
 ·have hpos:0<hs.length:=List.length_pos_iff.2 h0
  have hc:∀ j u,(cellsK hdC hs)[j]? = some u->w.cell? ((⟨b,off,none⟩:Addr).add j)=some u:=fun j u hu=>by
   obtain ⟨i,hi,q,rfl,hq⟩:=cellsK_inv hdC_len hs j u hu
   rw [add_none,<-Nat.add_assoc]
   exact h5 i hi q u hq
  have HC:=Lib.hid hc
  have hone:=Lib.hid (one2s hs)
  have hlc:=Lib.hid (cellsK_len hdC_len hs)
  clear h5 hc h0
  go_enter Tryz.func33,Tryz.ntmps33
  go_wp2_with (refine app_z slH w (by rfl) (.tmp 3) (.tmp 4) (by rfl) w.heap.size (by rfl) rfl ⟨b,off,none⟩ hs.length cap (cellsK hdC hs) (by rfl) hlc.out HC.out h4 hone.out hpos (by omega) (by omega) ?_;intro g cap2 w2 hown2 hb2)
  go_ret
  exact ⟨_,rfl,hown2,hb2⟩
def CpAt4 (w4:World)(N:Nat)(r:Er)(e:En)(w5:World):Prop:=∃ (a b:Option Addr) (c d:Nat),AtL w5 N [.string r.u,.slice a e.va.length c,.int .i64 r.st,.slice b e.hd.length d,.string r.bo,.int .i64 r.ti]/\SlK hdC 2 w5 (.slice a e.va.length c) e.va/\SlK hdC 2 w5 (.slice b e.hd.length d) e.hd/\NewE (⟨r.u,.slice a e.va.length c,r.st,.slice b e.hd.length d,r.bo,r.ti⟩,e) w4.heap.size/\BelowBut w4.heap.size N w4 w5
theorem cpat4_mk {w4 w6 w7:World}{N:Nat}{u bo:ByteArray}{st ti:Int}{e:En}{vv hh:Value}{a b:Option Addr}{c d:Nat}(hN:N<w4.heap.size)(X:AtL w7 N [.string u,vv,.int .i64 st,hh,.string bo,.int .i64 ti])(h6:SlK hdC 2 w6 (.slice a e.va.length c) e.va)(n6:∀ b' off n k,Value.slice a e.va.length c = .slice (some ⟨b',off,none⟩) n k->w4.heap.size<=b')(b6:Below w4.heap.size w4 w6)(h7:SlK hdC 2 w7 (.slice b e.hd.length d) e.hd)(n7:∀ b' off n k,Value.slice b e.hd.length d = .slice (some ⟨b',off,none⟩) n k->w6.heap.size<=b')(b7:Below w6.heap.size w6 w7):
 CpAt4 w4 N ⟨u,vv,st,hh,bo,ti⟩ e ((w7.setCell ⟨N,1,none⟩ (.slice a e.va.length c)).setCell ⟨N,3,none⟩ (.slice b e.hd.length d)):=by
 have f6:∀ b' off n k,Value.slice a e.va.length c = .slice (some ⟨b',off,none⟩) n k->b'≠N:=fun b' off n k h=>by have:=n6 b' off n k h;omega
 have f7:∀ b' off n k,Value.slice b e.hd.length d = .slice (some ⟨b',off,none⟩) n k->b'≠N:=fun b' off n k h=>by have:=n7 b' off n k h;have:=b6.size;omega
 refine ⟨a,b,c,d,(X.set 1 _).set 3 _,slk_cell (slk_cell (h6.below b7 lr) ⟨N,1,none⟩ _ f6) ⟨N,3,none⟩ _ f6,slk_cell (slk_cell h7 ⟨N,1,none⟩ _ f7) ⟨N,3,none⟩ _ f7,⟨fun b' off n k h=>n6 b' off n k h,fun b' off n k h=>Nat.le_trans b6.size (n7 b' off n k h)⟩,?_⟩
 exact (((BelowBut.refl w4.heap.size N w4).below b6 lr).below b7 b6.size).setCell ⟨N,1,none⟩ (Or.inl rfl) _ |>.setCell ⟨N,3,none⟩ (Or.inl rfl) _
theorem RowIn.app4 {W w5:World}{jb B n:Nat}{v v5:Value}{l:List Ee}{x:Ee}(h:RowIn W jb B v l)(hx:Rd W x.1 x.2)(hfx:FarE x jb v.ownBlock)(hjb:jb<W.heap.size)(hn:n=l.length+1)
 (h5:w5.ownsRow B 90 6 v5 n (cellsK eeC l ++ eeC x)) (hg:W.grownBy w5 v.ownBlock) (ht:RowTo v v5 W.heap.size):RowIn w5 jb B v5 (l ++ [x]):=by
 have hrb:=RowBut.of_grown (jb:=jb) hg
 refine ⟨own_eq h5 (by rw [hn];simp) (by rw [cellsK_app];simp [cellsK]),?_,Nat.le_trans h.le hg.size,fun y hy=>?_,fun y hy=>?_⟩
 ·intro e
  rcases ht jb e with h1 | h1
  ·exact h.ne h1
  ·omega
 ·rcases List.mem_append.1 hy with h1 | h1
  ·exact (h.rd y h1).row hrb lr (h.far y h1)
  ·obtain rfl:=List.mem_singleton.1 h1
   exact hx.row hrb lr hfx
 ·rcases List.mem_append.1 hy with h1 | h1
  ·exact (h.far y h1).to (h.rd y h1) ht lr
  ·obtain rfl:=List.mem_singleton.1 h1
   exact hfx.to hx ht lr
def EntQ (w:World)(jb:Nat)(es:List En)(x:Ending)(w':World):Prop:=∃ (a:Option Addr) (c:Nat) (lo:List Ee),x = .returned (.slice a lo.length c)/\RowIn w' jb w.heap.size (.slice a lo.length c) lo/\(∀ y∈lo,NewE y w.heap.size)/\lo.map (·.2)=es/\Below w.heap.size w w'
theorem entries_is (l:List Ee)(v:Value)(w:World)(jb:Nat)(hjb:jb<w.heap.size)(hv:SlK eeC 6 w v l)(hr:∀ x∈l,Rd w x.1 x.2)(hz:∀ x∈l,x.2.va.length<=1000000/\x.2.hd.length<=1000000)(hl:l.length<=1000)(es:List En)(hes:l.map (·.2)=es):
 Calls Tryz.prog 32 #[v] w (EntQ w jb es):=by
 have HES:=Lib.hid hes
 have HZ:=Lib.hid hz
 have HC:Hid (0<l.length->∃ b0 off cap:Nat,v = .slice (some ⟨b0,off,none⟩) l.length cap/\∀ kk (h:kk<l.length) j u,(eeC l[kk])[j]? = some u->w.cell? ⟨b0,off+kk * 6+j,none⟩=some u):=Lib.hid (by
  intro h0
  rcases hv with ⟨rfl,_⟩ | ⟨_,b0,off,cap,he,hc1,hc2,hc3,hcell⟩
  ·simp at h0
  ·exact ⟨b0,off,cap,he,hcell⟩)
 have HRD:=Lib.hid hr
 obtain ⟨sa,sc,rfl,_⟩:=hv.shape
 obtain ⟨B,hB⟩:∃ B,w.heap.size=B:=⟨_,rfl⟩
 have hr0:RowIn w jb B (.slice none 0 0) []:=⟨World.ownsRow_nil _ _ _ _,by simp [Value.ownBlock],Nat.le_of_eq hB.symm,(fun x hx=>by cases hx),(fun x hx=>by cases hx)⟩
 have HBB:=Lib.hid hB
 rw [hB] at hjb
 have HR0:=Lib.hid hr0
 clear hv hr hz hes hr0 hB
 go_enter Tryz.func32,Tryz.ntmps32
 go_wp2_with fail
 go_loopw [3,8] (fun ov iv wr=>∃ (k:Nat) (lo:List Ee),k<=l.length/\iv = .int .i64 k/\Hid (lo.map (·.2)=(l.take k).map (·.2))/\RowIn wr jb B ov lo/\Hid (∀ y∈lo,NewE y B)/\Below B w wr) (fun _ iv _=>l.length - (intOf iv).toNat)
 case atStart=>exact ⟨0,[],Nat.zero_le _,rfl,Lib.hid rfl,HR0.out,Lib.hid (fun y hy=>by cases hy),Below.refl _ _⟩
 case round=>
  obtain ⟨kk,lo,hk,rfl,HM,hJ,HNW,hbw⟩:=hrel
  have hlo:lo.length=kk:=by
   have:=congrArg List.length HM.out
   simp at this;omega
  have hwB:=HBB.out
  have hle:=hJ.le
  obtain ⟨ra,rc,rfl,_⟩:=own_reads hJ.own
  by_cases hlt:kk<l.length
  ·obtain ⟨b0,off,cap,he,hcell⟩:=HC.out (by omega)
   injection he with e1 e2 e3
   subst e1 e3
   have hmem:l[kk]∈l:=List.getElem_mem hlt
   have hrd0:=HRD.out _ hmem
   have hzz:=HZ.out _ hmem
   have cc:∀ j u,(eeC l[kk])[j]? = some u->wr.cell? ⟨b0,off+kk * 6+j,none⟩=some u:=fun j u hu=>(hbw.cell (p:=⟨b0,off+kk * 6+j,none⟩) (by have:=cell_lt (hcell kk hlt j u hu);show b0<B;omega)).trans (hcell kk hlt j u hu)
   have hst:(l.take (kk+1)).map (·.2)=(l.take kk).map (·.2) ++ [l[kk].2]:=by
    rw [List.take_succ_eq_append_getElem hlt,List.map_append];rfl
   obtain ⟨y,hy⟩:∃ y,l[kk]=y:=⟨_,rfl⟩
   rw [hy] at cc hrd0 hzz hst
   have hrd:=hrd0.below hbw (by omega)
   obtain ⟨⟨a1,n1,k1,f1⟩,a2,n2,k2,f2⟩:=hrd.shp
   clear hy hcell e2 hmem
   obtain ⟨⟨u,vv,st,hh,bo,ti⟩,ex⟩:=y
   have f1:vv = .slice a1 n1 k1:=f1
   have f2:hh = .slice a2 n2 k2:=f2
   subst f1 f2
   have c0:=cc 0 _ rfl
   have c1:=cc 1 _ rfl
   have c2:=cc 2 _ rfl
   have c3:=cc 3 _ rfl
   have c4:=cc 4 _ rfl
   have c5:=cc 5 _ rfl
   simp only [Nat.add_zero] at c0
   have HST:=Lib.hid hst
   have hki:(kk:Int)<(l.length:Int):=by omega
   have hal:=(Below.refl _ wr).alloc lr (.cells [.string u,.slice a1 n1 k1,.int .i64 st,.slice a2 n2 k2,.string bo,.int .i64 ti].toArray 90)
   have X4:=AtL.new wr [.string u,.slice a1 n1 k1,.int .i64 st,.slice a2 n2 k2,.string bo,.int .i64 ti] 90
   have hva:SlK hdC 2 wr (.slice a1 n1 k1) ex.va:=hrd.va
   have hhd:SlK hdC 2 wr (.slice a2 n2 k2) ex.hd:=hrd.hd
   have hva4:=(hva.below hal lr).below (Below.refl _ _).drew lr
   have hhd4:=(hhd.below hal lr).below (Below.refl _ _).drew lr
   have C1:=Lib.hid (fun w hv=>lcp4_is ex.va (.slice a1 n1 k1) w hv hzz.1)
   have C2:=Lib.hid (fun w hv=>lcp4_is ex.hd (.slice a2 n2 k2) w hv hzz.2)
   have HJ:=Lib.hid hJ
   have HRE:Hid (u=ex.u/\st=ex.st/\bo=ex.bo/\ti=ex.ti):=Lib.hid ⟨hrd.u,hrd.st,hrd.bo,hrd.ti⟩
   have HLO:=Lib.hid hlo
   clear cc hst hva hhd hrd hrd0 hzz hJ hlo
   go_upto_region 5 with fail
   obtain ⟨w4,hw4⟩:∃ w4:World,wr.alloc (.cells [.string u,.slice a1 n1 k1,.int .i64 st,.slice a2 n2 k2,.string bo,.int .i64 ti].toArray 90)=w4:=⟨_,rfl⟩
   obtain ⟨N,hN⟩:∃ N,wr.heap.size=N:=⟨_,rfl⟩
   rw [hw4] at hal X4 hva4 hhd4
   rw [hN] at X4 hal hle
   rw [hw4,hN]
   have HNN:=Lib.hid hN
   clear hw4 hN c0 c1 c2 c3 c4 c5
   have hN4:=X4.lt
   go_cut [] from 12 to 19 (fun w5=>CpAt4 w4 N ⟨u,.slice a1 n1 k1,st,.slice a2 n2 k2,bo,ti⟩ ex w5)
   case first=>
    have z_:=X4.o6
    go_region_with (first
     | (go_at_call 33;(with_reducible refine (C1.out w4.drew hva4).mono ?_);rintro e w6 hq6;obtain ⟨a6,c6,rfl,hs6,hb6,hn6⟩:=cloq_open hq6;clear hq6;have X6:=X4.drew.next hb6;have y3:=X6.c 3 rfl;have y1:=X6.c 1 rfl;have xl6:=X6.lt;have hhd6:=hhd4.below hb6 lr)
     | (go_at_call 33;(with_reducible refine (C2.out w6 hhd6).mono ?_);rintro e w7 hq7;obtain ⟨a7,c7,rfl,hs7,hb7,hn7⟩:=cloq_open hq7;clear hq7 y3 y1;have X7:=X6.next hb7;have y1:=X7.c 1 rfl;have g1:=X7.f 1 rfl;have y3:=X7.c 3 rfl;have g3:=X7.f 3 rfl;have xl7:=X7.lt)
     | fail)
    all_goals
     go_wp2_with fail
     go_meet
     case rel=>exact cpat4_mk hN4 X7 hs6 hn6 ((Below.refl _ w4).drew.trans hb6) hs7 hn7 hb7
   case rest=>
    obtain ⟨a,b,c,d,X5,sva,shd,hnew,hbb⟩:=hcut
    have hwN:=HNN.out
    have hb5:Below N wr wc:=BelowBut.to_below hbb hal (by omega) lr
    have RS5:=HJ.out.below hb5 (Nat.le_of_eq hwN)
    have hown5:∀ g,(Value.slice ra lo.length rc).ownBlock=some g->g<wr.heap.size:=fun g hg=>(HJ.out.own.lt g hg).2
    have hfx:FarE (⟨u,.slice a ex.va.length c,st,.slice b ex.hd.length d,bo,ti⟩,ex) jb (Value.slice ra lo.length rc).ownBlock:=hnew.far (by omega) (fun b e=>by have:=hown5 b e;omega)
    have hrx:Rd wc (⟨u,.slice a ex.va.length c,st,.slice b ex.hd.length d,bo,ti⟩:Er) ex:=⟨HRE.out.1,HRE.out.2.1,HRE.out.2.2.1,HRE.out.2.2.2,sva,shd⟩
    have hnw2:∀ y∈lo ++ [((⟨u,.slice a ex.va.length c,st,.slice b ex.hd.length d,bo,ti⟩:Er),ex)],NewE y B:=fun y hy=>by
     rcases List.mem_append.1 hy with h | h
     ·exact HNW.out y h
     ·obtain rfl:=List.mem_singleton.1 h
      exact ⟨fun b' off n k e=>by have:=hnew.1 b' off n k e;omega,fun b' off n k e=>by have:=hnew.2 b' off n k e;omega⟩
    have HNW2:=Lib.hid hnw2
    have HFX:=Lib.hid hfx
    have HRX:=Lib.hid hrx
    have HONE:=Lib.hid (one6 (⟨u,.slice a ex.va.length c,st,.slice b ex.hd.length d,bo,ti⟩,ex) ⟨⟨_,_,_,rfl⟩,⟨_,_,_,rfl⟩⟩)
    have HRS:=Lib.hid RS5
    have hB5:=RS5.le
    have hjw:jb<wc.heap.size:=by omega
    have z_:=X5.o6
    have xl5:=X5.lt
    have hfin:Below B w wc:=hbw.trans (hb5.mono (by have:=hbw.size;omega))
    have HFIN:=Lib.hid hfin
    have hll:lo.length<=1000:=by have:=HLO.out;omega
    clear RS5 hown5 hfx hrx hfin hnew sva shd hbb hnw2
    go_wp2_with (first
     | (refine app2 slE wc (by rfl) (.tmp 20) (.tmp 22) (by rfl) B _ lo.length (cellsK eeC lo) (by rfl) HRS.out.own (eeC (⟨u,.slice a ex.va.length c,st,.slice b ex.hd.length d,bo,ti⟩,ex)) 1 wc.heap.size (by rfl) rfl (by rfl) HONE.out (by decide) (by omega) (by omega) hB5 ?_;intro v8 w8 o8 g8 f8;have R8:=Lib.hid (HRS.out.app4 HRX.out HFX.out hjw rfl o8 g8 (fun g hg=>by obtain ⟨g',h1,h2⟩:=f8;rw [h1] at hg;injection hg with hg;subst hg;exact h2.imp id Nat.le_of_lt));have B8:=Lib.hid (below_own HFIN.out HRS.out.own g8 hB5 lr);clear o8 g8 f8)
     | fail)
    go_roundw
    case rel=>exact ⟨kk+1,lo ++ [(⟨u,.slice a ex.va.length c,st,.slice b ex.hd.length d,bo,ti⟩,ex)],by omega,by go_num,Lib.hid (by rw [HST.out,List.map_append,HM.out];rfl),R8.out,HNW2,B8.out⟩
    case measure=>simp [intOf];omega
  ·obtain rfl:kk=l.length:=by omega
   have hm:=HM.out
   rw [List.take_length,HES.out] at hm
   have HJ:=Lib.hid hJ
   have HMM:=Lib.hid hm
   clear hm hJ HM hlo
   go_wp2_with fail
   go_ret
   exact ⟨ra,rc,lo,rfl,by rw [hwB];exact HJ.out,by rw [hwB];exact HNW.out,HMM.out,by rw [hwB];exact hbw⟩
theorem step_appS {P:Program}{T E size bytes:Nat}(ty:SlTy P T E size bytes)(W:World){ops:Array Oper}{o:Oper}{a:Act}{K:Act->World->Prop}{Q:Exit->Act->World->Prop}{Ep:Prop}
 (hgd:o.guard=none) (s x:Operand) (ho:o.op = .call { callee:=.builtin .append,args:=#[s,x],argTypes:=#[T,T] })
 (B:Nat) (v:Value) (hs:a.eval s=v) (hown:W.ownsRow B E size v 0 []) (news:List Value) (ad:Addr) (m c:Nat)
 (hx:a.eval x = .slice (some ad) m c) (hc:∀ j u,news[j]? = some u->W.cell? (ad.add j)=some u) (hl:news.length=m * size) (h1:∀ u∈news,u.oneCell'=true)
 (hm:0<m) (hb:m * bytes<=140737488355328) (hn:m<=140737488355328) (hB:B<=W.heap.size)
 (h:∀ g cap w',w'.ownsRow B E size (.slice (some ⟨g,0,none⟩) m cap) m news->W.grownBy w' v.ownBlock->(v.ownBlock=some g\/g=W.heap.size)->K (a.put o.dst (.slice (some ⟨g,0,none⟩) m cap)) w') :
 if Region.wanted o (yielded ops a.tmps)=true then Oper.wp P o a W K Q else Ep:=by
 obtain ⟨hu,⟨i,z,hi,hz,h2,h3,h4⟩,hp⟩:=ty
 refine step_append_lies _ hgd s x T ho B E i z size bytes hu hi hz h2 h3 h4 hp v 0 [] hs hown ad m c news hx hl hc h1 hm (by unfold maxLen;omega) (by rw [Nat.zero_add];exact hb) hB W.heap.size rfl fun g cap w' a1 a2 a3 _=>?_
 rw [Nat.zero_add] at a1 ⊢
 exact h g cap w' a1 a2 a3
def JarN (w1:World)(l:List Ck)(nx:Int)(c9:Value)(w':World):Prop:=∃ (jb:Nat) (v':Value),.pointer (some ⟨jb,0,none⟩)=c9/\w1.heap.size<=jb/\JarIn w' jb w1.heap.size v' l nx/\Below w1.heap.size w1 w'
theorem JarN.drew {w1 w2:World}{l:List Ck}{nx:Int}{c:Value}(h:JarN w1 l nx c w2):JarN w1 l nx c w2.drew:=by
 obtain ⟨jb,v,h1,h2,h3,h4⟩:=h
 exact ⟨jb,v,h1,h2,h3.below (Below.refl _ w2).drew lr,h4.drew⟩
theorem jarn_mk {w1 w2:World}{l:List Ck}{nx:Int}{v:Value}(ho:w2.ownsRow w1.heap.size 88 9 v l.length (cellsK ckL l))(hb:Below w1.heap.size w1 w2):
 JarN w1 l nx (.pointer (some ⟨w2.heap.size,0,none⟩)) (w2.alloc (.cells #[v,.int .i64 nx] 24)):=by
 have hal:=(Below.refl _ w2).alloc lr (.cells #[v,.int .i64 nx] 24)
 refine ⟨_,v,rfl,hb.size,⟨AtL.new w2 [v,.int .i64 nx] 24,own_below ho hal lr,fun e=>?_,Nat.le_trans hb.size hal.size⟩,hb.trans (hal.mono hb.size)⟩
 have:=(ho.lt _ e).2
 omega
theorem cell_set2 {W:World}{b k o:Nat}{u x y:Value}(h:W.cell? ⟨b,o,none⟩=some u)(hk:b≠k):((W.setCell ⟨k,0,none⟩ x).setCell ⟨k,1,none⟩ y).cell? ⟨b,o,none⟩=some u:=
 (World.cell?_setCell_other _ _ _ _ (fun q=>hk (congrArg Addr.block q).symm)).trans ((World.cell?_setCell_other _ _ _ _ (fun q=>hk (congrArg Addr.block q).symm)).trans h)
theorem jarn_mk2 {w1 w2:World}{l:List Ck}{nx:Int}{v:Value}{jb:Nat}(hj:w1.heap.size<=jb)(hA:AtL w2 jb [v,.int .i64 nx])(ho:w2.ownsRow w1.heap.size 88 9 v l.length (cellsK ckL l))(hn:v.ownBlock≠some jb)(hb:Below w1.heap.size w1 w2):JarN w1 l nx (.pointer (some ⟨jb,0,none⟩)) w2:=⟨jb,v,rfl,hj,⟨hA,ho,hn,hb.size⟩,hb⟩
theorem jarn_s {w1 w2:World}{l:List Ck}{nx:Int}{v:Value}{jb:Nat}{x y:Value}(hj:w1.heap.size<=jb)(hA:AtL w2 jb [x,y])(ho:w2.ownsRow w1.heap.size 88 9 v l.length (cellsK ckL l))(hn:v.ownBlock≠some jb)(hb:Below w1.heap.size w1 w2):JarN w1 l nx (.pointer (some ⟨jb,0,none⟩)) ((w2.setCell ⟨jb,0,none⟩ v).setCell ⟨jb,1,none⟩ (.int .i64 nx)):=
 jarn_mk2 hj ((hA.set 0 v).set 1 (.int .i64 nx)) (ownsRow_setCell_other (a:=⟨jb,1,none⟩) (ownsRow_setCell_other (a:=⟨jb,0,none⟩) ho hn v) hn _) hn ((hb.setCell (p:=⟨jb,0,none⟩) hj _).setCell (p:=⟨jb,1,none⟩) hj _)
theorem jarn_e (w1:World)(nx:Int):JarN w1 [] nx (.pointer (some ⟨w1.heap.size,0,none⟩)) ((w1.alloc (.cells #[.slice (some ⟨w1.heap.size+1,0,none⟩) 0 0,.int .i64 nx] 24)).alloc (.cells #[] 88)).drew:=by
 have ho:=own_z0 (w1.alloc (.cells #[.slice (some ⟨w1.heap.size+1,0,none⟩) 0 0,.int .i64 nx] 24)) 88 9
 have hs:(w1.alloc (.cells #[.slice (some ⟨w1.heap.size+1,0,none⟩) 0 0,.int .i64 nx] 24)).heap.size=w1.heap.size+1:=by simp
 rw [hs] at ho
 exact jarn_mk2 lr ((AtL.new w1 [.slice (some ⟨w1.heap.size+1,0,none⟩) 0 0,.int .i64 nx] 24).alloc (.cells #[] 88)).drew (own_below (own_mono ho (by omega)) (Below.refl _ _).drew lr) (by simp [Value.ownBlock]) (((Below.refl _ w1).alloc lr _).alloc (by rw [hs];omega) _).drew
theorem jar_o1 (w1:World):(w1.alloc (.cells #[] 88)).drew.ownsRow w1.heap.size 88 9 (.slice (some ⟨w1.heap.size,0,none⟩) 0 0) 0 []:=own_zero w1 88 9
theorem jar_o2 (w1:World):((w1.alloc (.cells #[] 88)).alloc (.cells #[.slice none 0 0,.int .i64 0] 24)).drew.ownsRow w1.heap.size 88 9 (.slice (some ⟨w1.heap.size,0,none⟩) 0 0) 0 []:=own_below (own_z0 w1 88 9) ((Below.refl _ _).alloc lr _).drew lr
theorem jar_o3 (w1:World):((w1.alloc (.cells #[.slice none 0 0,.int .i64 0] 24)).alloc (.cells #[] 88)).drew.ownsRow w1.heap.size 88 9 (.slice (some ⟨w1.heap.size+1,0,none⟩) 0 0) 0 []:=by
 have ho:=own_z0 (w1.alloc (.cells #[.slice none 0 0,.int .i64 0] 24)) 88 9
 have hs:(w1.alloc (.cells #[.slice none 0 0,.int .i64 0] 24)).heap.size=w1.heap.size+1:=by simp
 rw [hs] at ho
 exact own_below (own_mono ho (by omega)) (Below.refl _ _).drew lr
end Go.Proofs.YtjdhaacmlpegoaaGreatDoor
