/- Part 8 of what the proof needs: B5 B6 TA TB C1. -/
import Derived.Test.YtjdhaacmlpegoaaGreatDoorU07
set_option maxRecDepth 20000
set_option maxHeartbeats 16000000
set_option linter.unusedSimpArgs false
set_option linter.unusedVariables false
namespace Go.Proofs.YtjdhaacmlpegoaaGreatDoor
open Go.RowKit
theorem own_z0 (W0:World)(E size:Nat):(W0.alloc (.cells #[] E)).ownsRow W0.heap.size E size (.slice (some ⟨W0.heap.size,0,none⟩) 0 0) 0 []:=own_zero W0 E size
theorem app_z {P:Program}{T E size bytes:Nat}(ty:SlTy P T E size bytes)(W0:World){ops:Array Oper}{rest:List Oper}{o:Oper}{a:Act}{Q:Exit->Act->World->Prop}
 (hgd:o.guard=none) (s x:Operand) (ho:o.op = .call { callee:=.builtin .append,args:=#[s,x],argTypes:=#[T,T] })
 (kk:Nat) (hs:a.eval s = .slice (some ⟨kk,0,none⟩) 0 0) (hkk:kk=W0.heap.size) (ad:Addr) (m c:Nat) (news:List Value)
 (hx:a.eval x = .slice (some ad) m c) (hl:news.length=m * size) (hc:∀ j u,news[j]? = some u->W0.cell? (ad.add j)=some u) (hb:ad.block<W0.heap.size) (h1:∀ u∈news,u.oneCell'=true)
 (hm:0<m) (hby:m * bytes<=140737488355328) (hn:m<=140737488355328)
 (h:∀ g cap w',w'.ownsRow W0.heap.size E size (.slice (some ⟨g,0,none⟩) m cap) m news->Below W0.heap.size W0 w'->wpList P ops Q rest (a.put o.dst (.slice (some ⟨g,0,none⟩) m cap)) w') :
 wpList P ops Q (o :: rest) a (W0.alloc (.cells #[] E)):=by
 subst hkk;obtain ⟨hu,⟨i,z,hi,hz,h2,h3,h4⟩,hp⟩:=ty;have hb0:Below W0.heap.size W0 (W0.alloc (.cells #[] E)):=(Kc W0).alloc lr _
 refine wpList_append_lies _ hgd s x T ho W0.heap.size E i z size bytes hu hi hz h2 h3 h4 hp _ 0 [] hs (own_z0 W0 E size) ad m c news hx hl (fun j u hj=>?_) h1 hm (by unfold maxLen;omega) (by rw [Jm];exact hby) (by simp) (W0.heap.size+1) (by simp)
  fun g cap w' a1 a2 a3 a4=>?_
 ·have e1:(ad.add j).block=ad.block:=by unfold Addr.add;split <;> rfl
  exact (hb0.cell (p:=ad.add j) (by rw [e1];exact hb)).trans (hc j u hj)
 ·rw [Jm] at a1 ⊢;rw [Jp] at a1;refine h g cap w' a1 (hb0.grown a2 (by simp) fun k hk=>?_);simp only [Value.ownBlock,Js] at hk;omega
theorem app_z0 {P:Program}{T E size bytes:Nat}(ty:SlTy P T E size bytes)(W:World){ops:Array Oper}{rest:List Oper}{o:Oper}{a:Act}{Q:Exit->Act->World->Prop}
 (hgd:o.guard=none) (s x:Operand) (ho:o.op = .call { callee:=.builtin .append,args:=#[s,x],argTypes:=#[T,T] }) (b:Nat) (ad:Option Addr) (c:Nat)
 (hs:a.eval s = .slice (some ⟨b,0,none⟩) 0 0) (hx:a.eval x = .slice ad 0 c)
 (h:wpList P ops Q rest (a.put o.dst (.slice (some ⟨b,0,none⟩) 0 0)) W):wpList P ops Q (o :: rest) a W:=by
 obtain ⟨hu,⟨i,z,hi,hz,h2,h3,h4⟩,hp⟩:=ty;have hfc:(Builtin.firstCells i.size 0 (.slice ad 0 c)).run P W = .ok #[] W:=by
  exact M36
 exact N61
theorem one2s (l:List Hd):∀ u∈cellsK hdC l,u.oneCell'=true:=by intro u hu;obtain ⟨c,_,hu⟩:=List.mem_flatMap.1 hu;simp at hu;rcases hu with rfl | rfl <;> rfl
def CloQ (w:World)(hs:List Hd)(x:Ending)(w':World):Prop:=∃ v',x = .returned v'/\w'.ownsRow w.heap.size 70 2 v' hs.length (cellsK hdC hs)/\Below w.heap.size w w'
theorem cloq_open {w:World}{hs:List Hd}{x:Ending}{w':World}(h:CloQ w hs x w'):∃ a c,x = .returned (.slice a hs.length c)/\SlK hdC 2 w' (.slice a hs.length c) hs/\Below w.heap.size w w'/\(∀ b off n k,Value.slice a hs.length c = .slice (some ⟨b,off,none⟩) n k->w.heap.size<=b):=by
 obtain ⟨v',rfl,h1,h2⟩:=h;obtain ⟨a,c,rfl,_,_,ha⟩:=own_reads h1;refine ⟨a,c,rfl,SlK.of_own hdC_len h1,h2,fun b off n k e=>?_⟩;injection e with e _ _;rcases ha with ⟨rfl,_⟩ | ⟨g,rfl,hg,_⟩
 ·cases e
 ·injection e with e;injection e with e;omega
theorem eqnil_h (a:Option Addr)(l c:Nat)(w:World):(binOp .eql 28 (.slice a l c) (.slice none 0 0)).run Tryz.prog w = .ok (.bool a.isNone) w:=by simp only [binOp];simp [run_equal_slice_nil w _ _ a l c Tryz.underlying28]
attribute [local go_sem] eqnil_h
theorem N57{p:Prop}(h:p:=by
 have hpos:0<hs.length:=Xf.2 h0;have hc:∀ j u,(cellsK hdC hs)[j]? = some u->w.cell? ((⟨b,off,none⟩:Addr).add j)=some u:=fun j u hu=>by obtain ⟨i,hi,q,rfl,hq⟩:=cellsK_inv hdC_len hs j u hu;rw [add_none,<-Nat.add_assoc];exact h5 i hi q u hq
 have HC:=Kb hc;have hone:=Kb (one2s hs);have hlc:=Kb (cellsK_len hdC_len hs);clear h5 hc h0
 first
  |go_enter Tryz.func69,Tryz.ntmps69;go_wp2_with (refine app_z slH w (by rfl) (.tmp 5) (.tmp 6) (by rfl) w.heap.size (by rfl) rfl ⟨b,off,none⟩ hs.length cap (cellsK hdC hs) (by rfl) hlc.out HC.out h4 hone.out hpos (by omega) (by omega) ?_;intro g cap2 w2 hown2 hb2)
   go_ret;exact ⟨_,rfl,hown2,hb2⟩
  |go_enter Tryz.func33,Tryz.ntmps33;go_wp2_with (refine app_z slH w (by rfl) (.tmp 3) (.tmp 4) (by rfl) w.heap.size (by rfl) rfl ⟨b,off,none⟩ hs.length cap (cellsK hdC hs) (by rfl) hlc.out HC.out h4 hone.out hpos (by omega) (by omega) ?_;intro g cap2 w2 hown2 hb2)
   go_ret;exact ⟨_,rfl,hown2,hb2⟩
 ):p:=h
theorem clo_is (hs:List Hd)(v:Value)(w:World)(hv:SlK hdC 2 w v hs)(hl:hs.length<=1000000):Calls Tryz.prog 69 #[v] w (CloQ w hs):=by
 rcases hv with ⟨rfl,a,cap,rfl,h2⟩ | ⟨h0,b,off,cap,rfl,h2,h3,h4,h5⟩
 ·cases a with
  | none=>
    go_enter Tryz.func69,Tryz.ntmps69;go_wp2_with (refine app_z0 slH _ (by rfl) (.tmp 5) (.tmp 6) (by rfl) w.heap.size none cap (by rfl) (by rfl) ?_)
    go_ret;first | exact ⟨_,rfl,World.ownsRow_nil _ _ _ _,Kc _⟩ | exact ⟨_,rfl,own_z0 _ _ _,(Kc w).alloc lr _⟩
  | some ad=>
    go_enter Tryz.func69,Tryz.ntmps69;go_wp2_with (refine app_z0 slH _ (by rfl) (.tmp 5) (.tmp 6) (by rfl) w.heap.size (some ad) cap (by rfl) (by rfl) ?_)
    go_ret;exact ⟨_,rfl,own_z0 _ _ _,(Kc w).alloc lr _⟩
 ·exact N57
theorem ret6_run {P:Program}{fn:Func}{q T:Nat}(hr:fn.results = #[.cell q T])(hz:∀ w,(Go.sizeOf T).run P w = .ok 6 w)(ha:∀ w,(isAgg T).run P w = .ok true w)(tmps:Array Value)(W:World)(k:Nat)(a b c d e f:Value)(h2:tmps.getD q undef = .pointer (some ⟨k,0,none⟩))(hA:AtL W k [a,b,c,d,e,f]):
 (results fn tmps).run P W = .ok (.agg #[a,b,c,d,e,f]) W:=by have c0:=hA.c 0 rfl;have c1:=hA.c 1 rfl;have c2:=hA.c 2 rfl;have c3:=hA.c 3 rfl;have c4:=hA.c 4 rfl;have c5:=hA.c 5 rfl;rw [Xg] at h2;simp [results,hr,h2,go_sem,hz,ha,c0,c1,c2,c3,c4,c5]
theorem slk_cell {hs:List Hd}{u:Value}{w:World}(h:SlK hdC 2 w u hs)(p:Addr)(x:Value)(hne:∀ b off n k,u = .slice (some ⟨b,off,none⟩) n k->b≠p.block):SlK hdC 2 (w.setCell p x) u hs:=by
 rcases h with h | ⟨h0,b,off,cap,hv,e2,e3,h4,h5⟩
 ·exact .inl h
 ·exact .inr ⟨h0,b,off,cap,hv,e2,e3,by rw [World.size_setCell];exact h4,fun i hi j u hu=>(World.cell?_setCell_other w p _ x (fun q=>hne b off _ _ hv (Kq Addr.block q).symm)).trans (h5 i hi j u hu)⟩
def CopQ (w:World)(x:Ee)(e:Ending)(w':World):Prop:=∃ x':Ee,e = .returned (eeA x')/\x'.2=x.2/\Rd w' x'.1 x'.2/\Below w.heap.size w w'/\(∀ b off n k,x'.1.vv = .slice (some ⟨b,off,none⟩) n k->w.heap.size<=b)/\(∀ b off n k,x'.1.hv = .slice (some ⟨b,off,none⟩) n k->w.heap.size<=b)
theorem cop_is (x:Ee)(w:World)(hr:Rd w x.1 x.2)(h1:x.2.va.length<=1000000)(h2:x.2.hd.length<=1000000):Calls Tryz.prog 120 #[eeA x] w (CopQ w x):=by
 obtain ⟨⟨u,vv,st,hh,bo,ti⟩,xe⟩:=x;have hva:SlK hdC 2 w vv xe.va:=hr.va;have hhd:SlK hdC 2 w hh xe.hd:=hr.hd;have h1:xe.va.length<=1000000:=h1;have h2:xe.hd.length<=1000000:=h2;have HU:=Kb hr.u;have HS:=Kb hr.st;have HBO:=Kb hr.bo;have HTI:=Kb hr.ti;have C1:=Kb (fun w hv=>clo_is xe.va vv w hv h1);have C2:=Kb (fun w hv=>clo_is xe.hd hh w hv h2);have E0:=(AtL.new w (erC ⟨u,vv,st,hh,bo,ti⟩) 90).alloc (.cells [.string ⟨#[]⟩,.slice none 0 0,.int .i64 0,.slice none 0 0,.string ⟨#[]⟩,.int .i64 0].toArray 90);have R0:=AtL.new (w.alloc (.cells (erC ⟨u,vv,st,hh,bo,ti⟩).toArray 90)) [.string ⟨#[]⟩,.slice none 0 0,.int .i64 0,.slice none 0 0,.string ⟨#[]⟩,.int .i64 0] 90;rw [show (w.alloc (.cells (erC ⟨u,vv,st,hh,bo,ti⟩).toArray 90)).heap.size=w.heap.size+1 by simp] at R0;have hB0:Below w.heap.size w ((w.alloc (.cells (erC ⟨u,vv,st,hh,bo,ti⟩).toArray 90)).alloc (.cells [.string ⟨#[]⟩,.slice none 0 0,.int .i64 0,.slice none 0 0,.string ⟨#[]⟩,.int .i64 0].toArray 90)):=((Kc w).alloc lr _).alloc (by simp) _;have hva0:=hva.below hB0 lr;have hhd0:=hhd.below hB0 lr;obtain ⟨ta,tc,rfl,_⟩:=hva.shape;obtain ⟨ua,uc,rfl,_⟩:=hhd.shape;have HHD:=Kb hhd;clear hva hhd hr;go_enter Tryz.func120,Tryz.ntmps120;go_wp2_with fail;obtain ⟨W0,hW0⟩:∃ W0:World,(w.alloc (.cells (erC ⟨u,.slice ta xe.va.length tc,st,.slice ua xe.hd.length uc,bo,ti⟩).toArray 90)).alloc (.cells [.string ⟨#[]⟩,.slice none 0 0,.int .i64 0,.slice none 0 0,.string ⟨#[]⟩,.int .i64 0].toArray 90)=W0:=⟨_,rfl⟩
 obtain ⟨E,hE⟩:=Ka w.heap.size;obtain ⟨R,hR⟩:=Ka (w.heap.size+1);have hER:E<R:=by omega
 rw [hW0] at E0 R0 hB0 hva0 hhd0;rw [hE] at E0 hB0;rw [hR] at R0;rw [hW0,hR,hE];have HE:=Kb hE;have hne:E≠R:=by omega
 clear hW0 hE hR;have el0:=E0.lt;have z0:=E0.c 0 rfl;have z1:=E0.c 1 rfl;have z2:=E0.c 2 rfl;have z3:=E0.c 3 rfl;have z4:=E0.c 4 rfl;have z5:=E0.c 5 rfl
 go_wp2_with (first
  | (go_at_call 69;refine (C1.out _ hva0).mono ?_;rintro e w1 hq;obtain ⟨a1,k1,rfl,hs1,hb1,hn1⟩:=cloq_open hq;clear hq z0 z1 z2 z3 z4 z5;have E1:=E0.next hb1;have z1:=E1.c 1 rfl;have f1:=E1.f 1 rfl;have el1:=E1.lt;have E1s:=E1.set 1 (.slice a1 xe.va.length k1);have y_:=E1s.o6;have hB1:=hB0.trans (hb1.mono (Kl el0)))
  | (go_at_call 69;refine (C2.out _ (HHD.out.below (hB1.setCell (p:=⟨E,1,none⟩) lr _) (Jl HE.out))).mono ?_;rintro e w2 hq;obtain ⟨a2,k2,rfl,hs2,hb2,hn2⟩:=cloq_open hq;clear hq y_;have hB2:=(hB1.setCell (p:=⟨E,1,none⟩) lr (.slice a1 xe.va.length k1)).trans (hb2.mono (by simp;have:=hB1.size;have:=HE.out;omega));have E2:=E1s.next hb2;have e3:=E2.c 3 rfl;have f3:=E2.f 3 rfl;have el2:=E2.lt;have E2s:=E2.set 3 (.slice a2 xe.hd.length k2);have x_:=E2s.o6;have R1:=((R0.next hb1).far ⟨E,1,none⟩ (.slice a1 xe.va.length k1) hne).next hb2;have R2:=R1.far ⟨E,3,none⟩ (.slice a2 xe.hd.length k2) hne;have r_:=R2.o6;have g_:=R2.of6;have rl:=R2.lt))
 have RF:=(((((R2.set 0 (.string u)).set 1 (.slice a1 xe.va.length k1)).set 2 (.int .i64 st)).set 3 (.slice a2 xe.hd.length k2)).set 4 (.string bo)).set 5 (.int .i64 ti);have hBF:=((((((hB2.setCell (p:=⟨E,3,none⟩) lr (.slice a2 xe.hd.length k2)).setCell (p:=⟨R,0,none⟩) (Kl hER) (.string u)).setCell (p:=⟨R,1,none⟩) (Kl hER) (.slice a1 xe.va.length k1)).setCell (p:=⟨R,2,none⟩) (Kl hER) (.int .i64 st)).setCell (p:=⟨R,3,none⟩) (Kl hER) (.slice a2 xe.hd.length k2)).setCell (p:=⟨R,4,none⟩) (Kl hER) (.string bo)).setCell (p:=⟨R,5,none⟩) (Kl hER) (.int .i64 ti);have hE1:E<W0.heap.size:=el0;have hR1:R<W0.heap.size:=R0.lt;have hw01:=hb1.size;have n1E:∀ p:Addr,p.block=E->∀ b off n k,Value.slice a1 xe.va.length k1 = .slice (some ⟨b,off,none⟩) n k->b≠p.block:=fun p hp b off n k e=>by have:=hn1 b off n k e;omega
 have n1R:∀ p:Addr,p.block=R->∀ b off n k,Value.slice a1 xe.va.length k1 = .slice (some ⟨b,off,none⟩) n k->b≠p.block:=fun p hp b off n k e=>by have:=hn1 b off n k e;omega
 have hws:(w1.setCell ⟨E,1,none⟩ (.slice a1 xe.va.length k1)).heap.size=w1.heap.size:=World.size_setCell _ _ _;have n2R:∀ p:Addr,p.block=R->∀ b off n k,Value.slice a2 xe.hd.length k2 = .slice (some ⟨b,off,none⟩) n k->b≠p.block:=fun p hp b off n k e=>by have:=hn2 b off n k e;omega
 have n2E:∀ p:Addr,p.block=E->∀ b off n k,Value.slice a2 xe.hd.length k2 = .slice (some ⟨b,off,none⟩) n k->b≠p.block:=fun p hp b off n k e=>by have:=hn2 b off n k e;omega
 have s1:=(slk_cell hs1 ⟨E,1,none⟩ (.slice a1 xe.va.length k1) (n1E _ rfl)).below hb2 lr;have s1F:=slk_cell (slk_cell (slk_cell (slk_cell (slk_cell (slk_cell (slk_cell s1 ⟨E,3,none⟩ (.slice a2 xe.hd.length k2) (n1E _ rfl)) ⟨R,0,none⟩ (.string u) (n1R _ rfl)) ⟨R,1,none⟩ (.slice a1 xe.va.length k1) (n1R _ rfl)) ⟨R,2,none⟩ (.int .i64 st) (n1R _ rfl)) ⟨R,3,none⟩ (.slice a2 xe.hd.length k2) (n1R _ rfl)) ⟨R,4,none⟩ (.string bo) (n1R _ rfl)) ⟨R,5,none⟩ (.int .i64 ti) (n1R _ rfl);have s2F:=slk_cell (slk_cell (slk_cell (slk_cell (slk_cell (slk_cell (slk_cell hs2 ⟨E,3,none⟩ (.slice a2 xe.hd.length k2) (n2E _ rfl)) ⟨R,0,none⟩ (.string u) (n2R _ rfl)) ⟨R,1,none⟩ (.slice a1 xe.va.length k1) (n2R _ rfl)) ⟨R,2,none⟩ (.int .i64 st) (n2R _ rfl)) ⟨R,3,none⟩ (.slice a2 xe.hd.length k2) (n2R _ rfl)) ⟨R,4,none⟩ (.string bo) (n2R _ rfl)) ⟨R,5,none⟩ (.int .i64 ti) (n2R _ rfl);refine bodyPost_ret (ret6_run Tryz.results120 Tryz.sizeOf90 Tryz.isAgg90 _ _ R _ _ _ _ _ _ rfl RF) rfl ?_;refine ⟨(⟨u,.slice a1 xe.va.length k1,st,.slice a2 xe.hd.length k2,bo,ti⟩,xe),rfl,rfl,⟨HU.out,HS.out,HBO.out,HTI.out,s1F,s2F⟩,?_,?_,?_⟩
 ·rw [HE.out];exact hBF
 ·intro b off n k e;have:=hn1 b off n k e;have:=HE.out;omega
 ·intro b off n k e;have:=hn2 b off n k e;have:=HE.out;omega
end Go.Proofs.YtjdhaacmlpegoaaGreatDoor
namespace Go.Proofs.YtjdhaacmlpegoaaGreatDoor
open Go.RowKit
def en0:En:=⟨⟨#[]⟩,[],0,[],⟨#[]⟩,0⟩
def useB (D:Dir)(e:En)(now:Int):Bool:=freshE e now && (!D.nc && (decide (D.ma<0) || decide (ageE e.ti now<=1000 * D.ma)))
abbrev set8 (W:World)(k:Nat)(a b c d e f g h:Value):World:=(((((((W.setCell ⟨k,0,none⟩ a).setCell ⟨k,1,none⟩ b).setCell ⟨k,2,none⟩ c).setCell ⟨k,3,none⟩ d).setCell ⟨k,4,none⟩ e).setCell ⟨k,5,none⟩ f).setCell ⟨k,6,none⟩ g).setCell ⟨k,7,none⟩ h
theorem AtL.set8 {W:World}{k:Nat}{vs:List Value}(hv:AtL W k vs)(hl:vs.length=8)(a b c d e f g h:Value):AtL (set8 W k a b c d e f g h) k [a,b,c,d,e,f,g,h]:=by
 match vs,hl with
 | [_,_,_,_,_,_,_,_],_=>exact (((((((hv.set 0 a).set 1 b).set 2 c).set 3 d).set 4 e).set 5 f).set 6 g).set 7 h
theorem ret8_run {P:Program}{fn:Func}{q T:Nat}(hr:fn.results = #[.cell q T])(hz:∀ w,(Go.sizeOf T).run P w = .ok 8 w)(ha:∀ w,(isAgg T).run P w = .ok true w)(tmps:Array Value)(W:World)(k:Nat)(a b c d e f g h:Value)(h2:tmps.getD q undef = .pointer (some ⟨k,0,none⟩))(hA:AtL W k [a,b,c,d,e,f,g,h]):
 (results fn tmps).run P W = .ok (.agg #[a,b,c,d,e,f,g,h]) W:=by have c0:=hA.c 0 rfl;have c1:=hA.c 1 rfl;have c2:=hA.c 2 rfl;have c3:=hA.c 3 rfl;have c4:=hA.c 4 rfl;have c5:=hA.c 5 rfl;have c6:=hA.c 6 rfl;have c7:=hA.c 7 rfl;rw [Xg] at h2;simp [results,hr,h2,go_sem,hz,ha,c0,c1,c2,c3,c4,c5,c6,c7]
def NewE (x:Ee)(N:Nat):Prop:=(∀ b off n k,x.1.vv = .slice (some ⟨b,off,none⟩) n k->N<=b)/\(∀ b off n k,x.1.hv = .slice (some ⟨b,off,none⟩) n k->N<=b)
theorem NewE.mono {x:Ee}{N M:Nat}(h:NewE x N)(hm:M<=N):NewE x M:=⟨fun b off n k e=>Kg hm (h.1 b off n k e),fun b off n k e=>Kg hm (h.2 b off n k e)⟩
def AskQ (w:World)(jb B:Nat)(v:Value)(k:Int)(en:En)(hs:List Hd)(l':List Ee)(e:Ending)(w':World):Prop:=
 ∃ (r:Er) (u:Value),e = .returned (.agg #[.int .i64 k,.string r.u,r.vv,.int .i64 r.st,r.hv,.string r.bo,.int .i64 r.ti,u])/\Rd w' r en/\SlK hdC 2 w' u hs/\CaTo w jb B v l' w'/\NewE (r,en) w.heap.size/\∀ b off n k,u = .slice (some ⟨b,off,none⟩) n k->w.heap.size<=b
theorem rd0 (w:World):Rd w ⟨⟨#[]⟩,.slice none 0 0,0,.slice none 0 0,⟨#[]⟩,0⟩ en0:=⟨rfl,rfl,rfl,rfl,.inl ⟨rfl,none,0,rfl,Kh _⟩,.inl ⟨rfl,none,0,rfl,Kh _⟩⟩
theorem slk0 (w:World):SlK hdC 2 w (.slice none 0 0) ([]:List Hd):=.inl ⟨rfl,none,0,rfl,Kh _⟩
theorem slk_new {hs:List Hd}{u:Value}{w:World}{q:Nat}(h:SlK hdC 2 w u hs)(hq:w.heap.size<=q):FarV hs u q none:=by
 intro h0 b off n c e;rcases h with ⟨h1,_⟩ | ⟨_,b2,off2,cap,hv,_,_,h4,_⟩
 ·exact absurd h1 h0
 ·rw [hv] at e;injection e with e1 _ _;injection e1 with e1;injection e1 with e1;exact ⟨by omega,by simp⟩
theorem FarE.new {x:Ee}{w:World}{q:Nat}(h:Rd w x.1 x.2)(hq:w.heap.size<=q):FarE x q none:=⟨slk_new h.va hq,slk_new h.hd hq⟩
theorem NewE.far {x:Ee}{N q:Nat}{o:Option Nat}(h:NewE x N)(hq:q<N)(ho:∀ b,o=some b->b<N):FarE x q o:=
 ⟨fun _ b off n c e=>⟨by have:=h.1 b off n c e;omega,fun e2=>by have:=h.1 b off n c e;have:=ho b e2;omega⟩,fun _ b off n c e=>⟨by have:=h.2 b off n c e;omega,fun e2=>by have:=h.2 b off n c e;have:=ho b e2;omega⟩⟩
theorem rd_set {x:Ee}{w:World}(h:Rd w x.1 x.2)(p:Addr)(u:Value)(hf:FarE x p.block none):Rd (w.setCell p u) x.1 x.2:=
 h.row ((RowBut.refl w.heap.size p.block none w).setCell p (Or.inl rfl) u) lr hf
theorem ca_set {w:World}{jb B:Nat}{v:Value}{l:List Ee}(h:CaIn w jb B v l)(p:Addr)(x:Value)(h1:p.block≠jb)(h2:v.ownBlock≠some p.block)(h3:∀ y∈l,FarE y p.block none):CaIn (w.setCell p x) jb B v l:=
 ⟨h.at_.far p x h1,ownsRow_setCell_other (a:=p) h.own h2 x,h.ne,by rw [World.size_setCell];exact h.le,fun y hy=>rd_set (h.rd y hy) p x (h3 y hy),h.far⟩
theorem hown_lt {w:World}{b e s n:Nat}{v:Value}{xs:List Value}(h:w.ownsRow b e s v n xs):∀ g,v.ownBlock=some g->g<w.heap.size:=by
 intro g hg;rcases h.2 with ⟨rfl,_⟩ | ⟨g',cap,cur,rfl,hb,hh,_⟩
 ·simp [Value.ownBlock] at hg
 ·simp only [Value.ownBlock,Js] at hg;subst hg;exact (Xq.1 hh).1
theorem cato_set {w W6 W7:World}{jb B Rb:Nat}{v:Value}{l l':List Ee}(hJ:CaIn w jb B v l)(hsub:∀ y∈l',y∈l)(hR:w.heap.size<=Rb)(hR6:Rb<W6.heap.size)
 (h:(∃ v',CaIn W7 jb B v' l'/\RowTo v v' W6.heap.size)/\RowBut w.heap.size jb v.ownBlock w W7) (o:Nat) (x:Value):(∃ v',CaIn (W7.setCell ⟨Rb,o,none⟩ x) jb B v' l'/\RowTo v v' W6.heap.size)/\RowBut w.heap.size jb v.ownBlock w (W7.setCell ⟨Rb,o,none⟩ x):=by
 obtain ⟨⟨v',h1,h2⟩,h3⟩:=h;have hjl:=hJ.at_.lt;refine ⟨⟨v',ca_set h1 ⟨Rb,o,none⟩ x (by show Rb≠jb;omega) (fun e=>?_) (fun y hy=>FarE.new (hJ.rd y (hsub y hy)) hR),h2⟩,h3.setCell ⟨Rb,o,none⟩ (Or.inr (Or.inr hR)) x⟩;rcases h2 Rb e with h4 | h4
 ·have:=hown_lt hJ.own Rb h4;omega
 ·omega
theorem cato_fin {w W6 W7:World}{jb B Rb:Nat}{v:Value}{l l':List Ee}(hJ:CaIn w jb B v l)(hb:Below w.heap.size w W6)(h:CaTo W6 jb B v l' W7)(hsub:∀ y∈l',y∈l)(hR:w.heap.size<=Rb)(hR6:Rb<W6.heap.size)(x0 x1 x2 x3 x4 x5 x6 x7:Value):CaTo w jb B v l' (set8 W7 Rb x0 x1 x2 x3 x4 x5 x6 x7):=by
 have h0:(∃ v',CaIn W7 jb B v' l'/\RowTo v v' W6.heap.size)/\RowBut w.heap.size jb v.ownBlock w W7:=⟨h.1,((RowBut.refl w.heap.size jb v.ownBlock w).below hb lr).trans (h.2.mono hb.size)⟩
 have c:=fun (W:World) h (o:Nat) (x:Value)=>cato_set (W7:=W) (W6:=W6) hJ hsub hR hR6 h o x;obtain ⟨⟨v',h1,h2⟩,h3⟩:=c _ (c _ (c _ (c _ (c _ (c _ (c _ (c _ h0 0 x0) 1 x1) 2 x2) 3 x3) 4 x4) 5 x5) 6 x6) 7 x7;exact ⟨⟨v',h1,fun g e=>(h2 g e).imp id (fun h=>Kg hb.size h)⟩,h3⟩
theorem rd_set8 {x:Ee}{w:World}{k:Nat}(h:Rd w x.1 x.2)(hf:FarE x k none)(x0 x1 x2 x3 x4 x5 x6 x7:Value):Rd (set8 w k x0 x1 x2 x3 x4 x5 x6 x7) x.1 x.2:=by have c:=fun (w:World) (h:Rd w x.1 x.2) (o:Nat) (u:Value)=>rd_set h ⟨k,o,none⟩ u hf;exact c _ (c _ (c _ (c _ (c _ (c _ (c _ (c _ h 0 x0) 1 x1) 2 x2) 3 x3) 4 x4) 5 x5) 6 x6) 7 x7
theorem slk_set8 {hs:List Hd}{u:Value}{w:World}{k:Nat}(h:SlK hdC 2 w u hs)(hf:∀ b off n c,u = .slice (some ⟨b,off,none⟩) n c->b≠k)(x0 x1 x2 x3 x4 x5 x6 x7:Value):SlK hdC 2 (set8 w k x0 x1 x2 x3 x4 x5 x6 x7) u hs:=by have c:=fun (w:World) (h:SlK hdC 2 w u hs) (o:Nat) (x:Value)=>slk_cell h ⟨k,o,none⟩ x hf;exact c _ (c _ (c _ (c _ (c _ (c _ (c _ (c _ h 0 x0) 1 x1) 2 x2) 3 x3) 4 x4) 5 x5) 6 x6) 7 x7
abbrev pl0:List Value:=[.int .i64 0,.string ⟨#[]⟩,.slice none 0 0,.int .i64 0,.slice none 0 0,.string ⟨#[]⟩,.int .i64 0,.slice none 0 0]
theorem ask_send {w W6:World}{jb B Rb:Nat}{v:Value}{l:List Ee}{tmps:Array Value}(hJ:CaIn w jb B v l)(hb:Below w.heap.size w W6)(hR:w.heap.size<=Rb)(A6:AtL W6 Rb pl0)(h2:tmps.getD 8 undef = .pointer (some ⟨Rb,0,none⟩)):
 bodyPost Tryz.prog Tryz.f169 (AskQ w jb B v 1 en0 [] l) .ret { tmps:=tmps,defers:=[] } (set8 W6 Rb (.int .i64 1) (.string ⟨#[]⟩) (.slice none 0 0) (.int .i64 0) (.slice none 0 0) (.string ⟨#[]⟩) (.int .i64 0) (.slice none 0 0)):=
 bodyPost_ret (ret8_run Tryz.results169 Tryz.sizeOf178 Tryz.isAgg178 _ _ Rb _ _ _ _ _ _ _ _ h2 (A6.set8 rfl _ _ _ _ _ _ _ _)) rfl
  ⟨⟨⟨#[]⟩,.slice none 0 0,0,.slice none 0 0,⟨#[]⟩,0⟩,.slice none 0 0,rfl,rd0 _,slk0 _,cato_fin hJ hb (CaTo.refl (hJ.below hb lr)) (fun _ h=>h) hR A6.lt _ _ _ _ _ _ _ _,⟨fun b off n k e=>(by cases e),fun b off n k e=>(by cases e)⟩,fun b off n k e=>(by cases e)⟩
theorem ask_no (jb B:Nat)(v:Value)(l:List Ee)(w:World)(hM:MaxAt w)(hJ:CaIn w jb B v l)(hz:∀ x∈l,HdSz x.2.va/\HdSz x.2.hd)(hl:l.length<=1000)(url:ByteArray)(rq:List Hd)(vr:Value)(hq:SlK hdC 2 w vr rq)(hzq:HdSz rq)(now R:Int)(hR:LastAt (fun x=>ansB x.2 url rq) l R)(D:Dir)(hD:dirL rq=D)(hno:R = -1\/D.ns=true):
 Calls Tryz.prog 169 #[.pointer (some ⟨jb,0,none⟩),.string url,vr,.int .i64 now] w (AskQ w jb B v 1 en0 [] l):=by
 obtain ⟨d1,d2,d3,d4⟩:=D;have hjl:=hJ.at_.lt;have R0:=AtL.new w pl0 178;have hB0:Below w.heap.size w (w.alloc (.cells pl0.toArray 178)):=(Kc w).alloc lr _;have J0:=hJ.below hB0 lr;have q0:=hq.below hB0 lr;have CF:=Kb (find_is jb v l _ J0.at_ J0.reads (fun x hx=>⟨J0.rd x hx,(hz x hx).1⟩) hl url rq vr q0 hzq _ hR);have CD:=Kb (fun (w:World) hM hv=>(dir_is rq vr w hM hv hzq ⟨d1,d2,d3,d4⟩ hD).mono fun e w' (h:e=Ending.returned (dirA ⟨d1,d2,d3,d4⟩)/\Below w.heap.size w w')=>(show e=Ending.returned (.agg #[.bool d1,.bool d2,.bool d3,.int .i64 d4])/\Below w.heap.size w w' from h));have HM:=Kb hM;have HQ:=Kb hq;have HJ:=Kb hJ;obtain ⟨sa,sc,rfl,_⟩:=hq.shape;obtain ⟨ta,tc,hve,_⟩:=hJ.reads.shape;have hRb:=hR.bd;by_cases hR1:R = -1
 ·subst hR1;clear hD hR hq hJ hno hz hM hRb;go_enter Tryz.func169,Tryz.ntmps169
  go_wp2_with (first
   |
   (with_reducible refine CF.out.mono ?_;rintro e w1 ⟨rfl,hb1⟩;have hB1:=Kd hB0 hb1)
   | (with_reducible refine (CD.out _ (HM.out.below hB1 lr) (HQ.out.below hB1 lr)).mono ?_;rintro e w2 ⟨rfl,hb2⟩;have hB2:=Kd hB1 hb2;have hB3:=hB2.alloc hB2.size (.cells #[.bool d1,.bool d2,.bool d3,.int .i64 d4] 228);have R3:=((R0.next hb1).next hb2).alloc (.cells #[.bool d1,.bool d2,.bool d3,.int .i64 d4] 228);have rl3:=R3.lt;have r_:=R3.o8;have g_:=R3.of8)
   )
  exact ask_send HJ.out hB3 lr R3 rfl
 ·have hd1:d1=true:=hno.resolve_left hR1;subst hd1;obtain ⟨m,rfl⟩:∃ m:Nat,R=(m:Int):=⟨R.toNat,by omega⟩
  clear hD hR hq hJ hno hz hM hRb hR1;go_enter Tryz.func169,Tryz.ntmps169
  go_wp2_with (first
   |
   (with_reducible refine CF.out.mono ?_;rintro e w1 ⟨rfl,hb1⟩;have hB1:=Kd hB0 hb1)
   | (with_reducible refine (CD.out _ (HM.out.below hB1 lr) (HQ.out.below hB1 lr)).mono ?_;rintro e w2 ⟨rfl,hb2⟩;have hB2:=Kd hB1 hb2;have hB3:=hB2.alloc hB2.size (.cells #[.bool true,.bool d2,.bool d3,.int .i64 d4] 228);have R3:=((R0.next hb1).next hb2).alloc (.cells #[.bool true,.bool d2,.bool d3,.int .i64 d4] 228);have rl3:=R3.lt;have r_:=R3.o8;have g_:=R3.of8)
   )
  exact ask_send HJ.out hB3 lr R3 rfl
def originL (u:U6)(v:Bool):List UInt8:=if v=true/\u.1≠aboutL then placeL u else [110,117,108,108]
theorem outL_app (a b:List (List UInt8)):outL (a ++ b)=outL a ++ outL b:=by simp [outL]
theorem outL_cons (p:List UInt8)(r:List (List UInt8)):(outL (p :: r)).length=p.length+1+(outL r).length:=by simp [outL];omega
theorem outL_drop (acc:List (List UInt8)):(outL acc.dropLast).length<=(outL acc).length:=by
 rcases List.eq_nil_or_concat acc with rfl | ⟨l,x,rfl⟩
 ·simp
 ·rw [List.concat_eq_append,List.dropLast_concat,outL_app,Kw];omega
theorem kstep_w (acc:List (List UInt8))(p:List UInt8):(outL (kstep acc p)).length<=(outL acc).length+(p.length+1):=by
 unfold kstep;split
 ·have:=outL_drop acc;omega
 ·split
  ·omega
  ·rw [outL_app,Kw,outL_cons];simp [outL]
theorem fold_w (l:List (List UInt8)):∀ acc:List (List UInt8),(outL (l.foldl kstep acc)).length<=(outL acc).length+(outL l).length:=by
 induction l with
 | nil=>intro acc;simp
 | cons p r ih=>
   intro acc
   rw [Xc,outL_cons]
   have:=ih (kstep acc p)
   have:=kstep_w acc p
   omega
theorem segs_w (c:UInt8)(l:List UInt8):(outL (segs c l)).length=l.length+1:=by
 induction l with
 | nil=>simp [segs,outL]
 | cons b l ih=>
   unfold segs
   split
   ·rw [outL_cons,ih];simp;omega
   ·have hne:=segs_ne c l
    cases e:segs c l with
    | nil=>exact absurd e hne
    | cons p r=>
      rw [e,outL_cons] at ih
      simp only [outL_cons,Kv]
      omega
theorem tail_w (l:List (List UInt8)):(outL (tailE l)).length<=(outL l).length:=by
 unfold tailE;split
 ·cases l with
  | nil=>simp
  | cons p r=>rw [List.tail_cons,outL_cons];omega
 ·exact lr
theorem clean_le (l:List UInt8):(cleanL l).length<=l.length+2:=by
 unfold cleanL;split
 ·simp
 ·have h1:=segs_w 47 l;have h2:=tail_w (segs 47 l);unfold keptL kpt;rw [Jq,outL_app,Kw];have h3:=fold_w (tailE (segs 47 l)) [];have h4:(outL []).length=0:=rfl;have h5:∀ b:Prop,[Decidable b]->(outL (if b then [[]] else [])).length<=1:=fun b _=>by split <;> simp [outL]
  have h6:=h5 ((tailE (segs 47 l)).length=(tailE (segs 47 l)).length/\((tailE (segs 47 l)).getLast?.map isDot).getD false=true);omega
def Fits (n:Nat)(u:U6):Prop:=u.1.length<=n/\u.2.1.length<=n/\u.2.2.1.length<=n/\u.2.2.2.1.length<=n/\u.2.2.2.2.1.length<=n/\u.2.2.2.2.2.length<=n
theorem parse_len (s:List UInt8)(u:U6)(h:parseL s=some u):Fits (3 * s.length+2) u:=by
 unfold parseL at h;split at h
 ·have ht:=trimL_len s;have h1:=pre_le 58 (trimL s);have h2:=post_le 58 (trimL s);have h3:=lowL_len (pre 58 (trimL s));revert h;generalize lowL (pre 58 (trimL s))=n at h3 ⊢;generalize post 58 (trimL s)=r at h2 ⊢;intro h;unfold restL at h;have h4:=pre_le 35 r;have h5:=post_le 35 r;have h6:=conv_len (innerL ++ [63]) true (post 35 r);revert h;generalize conv (innerL ++ [63]) true (post 35 r)=fr at h6 ⊢
  generalize pre 35 r=b at h4 ⊢;intro h;simp only at h;split at h
  ·split at h
   ·cases h;refine ⟨?_,?_,?_,?_,?_,?_⟩ <;> simp only [Zg] <;> omega
   ·cases h
  ·unfold siteL at h;split at h
   ·simp only at h;split at h
    ·next h7=>
     cases h;have a1:=pre_le 63 (b.drop 2);have a2:=post_le 63 (b.drop 2);have a3:(b.drop 2).length<=b.length:=by simp
     have a4:=conv_len (innerL ++ [63]) true (post 63 (b.drop 2));have a5:=clean_le (conv innerL true ((pre 63 (b.drop 2)).drop (pre 47 (pre 63 (b.drop 2))).length));have a6:=conv_len innerL true ((pre 63 (b.drop 2)).drop (pre 47 (pre 63 (b.drop 2))).length);have a7:((pre 63 (b.drop 2)).drop (pre 47 (pre 63 (b.drop 2))).length).length<=(pre 63 (b.drop 2)).length:=by simp
     have a8:=pre_le 47 (pre 63 (b.drop 2));have a9:=pre_le 58 (pre 47 (pre 63 (b.drop 2)));have b1:=lowL_len (pre 58 (pre 47 (pre 63 (b.drop 2))));have b2:(portOf n (post 58 (pre 47 (pre 63 (b.drop 2))))).length<=(post 58 (pre 47 (pre 63 (b.drop 2)))).length:=by
      unfold portOf;split
      ·simp
      ·exact zeros_len _
     have b3:=post_le 58 (pre 47 (pre 63 (b.drop 2)));refine ⟨?_,?_,?_,?_,?_,?_⟩ <;> simp only <;> omega
    ·cases h
   ·cases h
 ·cases h
theorem origin_any (a b c d e f:ByteArray)(w:World)(ha:a.size<=40000)(hb:b.size<=40000)(hc:c.size<=40000)(hd:d.size<=40000)(he:e.size<=40000)(hf:f.size<=40000)(hM:MaxAt w):
 Calls Tryz.prog 29 #[.agg #[.string a,.string b,.string c,.string d,.string e,.string f]] w fun e' w'=>∃ t:ByteArray,e' = .returned (.string t)/\t.data.toList=originL (a.data.toList,b.data.toList,c.data.toList,d.data.toList,e.data.toList,f.data.toList) (validB (a.data.toList,b.data.toList,c.data.toList,d.data.toList,e.data.toList,f.data.toList))/\Below w.heap.size w w':=by
 have cV:=fun w hM=>valid_any a b c d e f w ha hb hc hd he hf hM;have cP:=fun w=>site_any a b c d e f w (by omega) (by omega) (by omega);obtain ⟨B,hB⟩:=Ka (validB (a.data.toList,b.data.toList,c.data.toList,d.data.toList,e.data.toList,f.data.toList));obtain ⟨PL,hPL⟩:=Ka (placeL (a.data.toList,b.data.toList,c.data.toList,d.data.toList,e.data.toList,f.data.toList));have hR:originL (a.data.toList,b.data.toList,c.data.toList,d.data.toList,e.data.toList,f.data.toList) B=if B=true/\a.data.toList≠aboutL then PL else [110,117,108,108]:=by rw [originL,hPL]
 rw [hB] at cV ⊢;rw [hPL] at cP;obtain ⟨R,hRR⟩:=Ka (originL (a.data.toList,b.data.toList,c.data.toList,d.data.toList,e.data.toList,f.data.toList) B);rw [hRR] at hR ⊢;have hB0:Below w.heap.size w (w.alloc (.cells #[.string a,.string b,.string c,.string d,.string e,.string f] 37)):=(Kc w).alloc lr _;have n1:(a.toList == [97,98,111,117,116])=decide (a.data.toList=aboutL):=str_beq _ _;obtain ⟨X,hX⟩:=Ka (decide (a.data.toList=aboutL));have hR2:R=if B=true/\X=false then PL else [110,117,108,108]:=by rw [hR,<-hX];simp
 rw [hX] at n1;have HR:=Kb hR2;have CV:=Kb cV;have CP:=Kb cP;clear cV cP hB hPL hR hRR hX hR2;cases B <;> cases X
 all_goals
  go_enter Tryz.func29,Tryz.ntmps29
  go_wp2_with (first
   | (with_reducible refine (CV.out _ (hM.below hB0 lr)).mono ?_;rintro e' w1 ⟨rfl,hb1⟩;have hB1:=Kd hB0 hb1;obtain ⟨hc1,hf1⟩:=bcell hb1;have hz1:w.heap.size<w1.heap.size:=(by have:=hb1.size;simp at this;omega))
   | (with_reducible refine (CP.out _).mono ?_;rintro e' w2 ⟨t,rfl,ht,hb2⟩;have hB2:=Kd hB1 hb2;have Ht:=Kb ht;clear ht))
  go_ret;first | exact ⟨_,rfl,by rw [HR.out];rfl,hB1⟩ | exact ⟨t,rfl,by rw [HR.out,Ht.out];rfl,hB2⟩
abbrev aggU (a b c d e f:ByteArray):Value:=.agg #[.string a,.string b,.string c,.string d,.string e,.string f]
theorem without_any (a b c d e f:ByteArray)(w:World):
 Calls Tryz.prog 124 #[.agg #[.string a,.string b,.string c,.string d,.string e,.string f]] w fun x w'=>x = .returned (.agg #[.string a,.string b,.string c,.string d,.string e,.string ⟨#[]⟩])/\Below w.heap.size w w':=by go_enter Tryz.func124,Tryz.ntmps124;go_wp2_with fail;refine bodyPost_ret (v:=aggU a b c d e ⟨#[]⟩) (by simp [results,Tryz.results124,go_sem]) rfl ⟨rfl,?_⟩;exact ((Kc w).alloc lr _).alloc (by simp) _
theorem byteArray_ext {a b:ByteArray}(h:a.data.toList=b.data.toList):a=b:=by cases a;cases b;congr 1;exact Array.toList_inj.1 h
theorem drew_below {w w':World}(h:Below w.drew.heap.size w.drew w'):Below w.heap.size w w':=(Kc w).drew.trans (h.mono (by simp))
def orgL (u:U6):List UInt8:=originL u (validB u)
theorem org_of {u:U6}(h:parseL (formatL u)=some u)(h1:u.1≠aboutL):orgL u=placeL u:=by unfold orgL originL;rw [Kf ⟨(valid_iff u).2 h,h1⟩]
theorem origin_is (a b c d e f T:ByteArray)(w:World)(ha:a.size<=40000)(hb:b.size<=40000)(hc:c.size<=40000)(hd:d.size<=40000)(he:e.size<=40000)(hf:f.size<=40000)(hM:MaxAt w)(hT:T.data.toList=orgL (a.data.toList,b.data.toList,c.data.toList,d.data.toList,e.data.toList,f.data.toList)):
 Calls Tryz.prog 29 #[.agg #[.string a,.string b,.string c,.string d,.string e,.string f]] w fun x w'=>x = .returned (.string T)/\Below w.heap.size w w':=by refine (origin_any a b c d e f w ha hb hc hd he hf hM).mono ?_;rintro x w' ⟨u,rfl,hu,hb⟩;exact ⟨by rw [byteArray_ext (hu.trans hT.symm)],hb⟩
theorem format_is4 (a b c d e f t:ByteArray)(w:World)(ha:a.size<=1000000)(hb:b.size<=1000000)(hc:c.size<=1000000)(hd:d.size<=1000000)(he:e.size<=1000000)(hf:f.size<=1000000)(ht:t.data.toList=formatL (a.data.toList,b.data.toList,c.data.toList,d.data.toList,e.data.toList,f.data.toList)):
 Calls Tryz.prog 104 #[.agg #[.string a,.string b,.string c,.string d,.string e,.string f]] w fun x w'=>x = .returned (.string t)/\Below w.heap.size w w':=by refine (format_any a b c d e f w ha hb hc hd he hf).mono ?_;rintro x w' ⟨u,rfl,hu,hb⟩;exact ⟨by rw [byteArray_ext (hu.trans ht.symm)],hb⟩
theorem parse_some4 (t:ByteArray)(w:World)(hs:t.size<=300000)(hM:MaxAt w)(a b c d e f:ByteArray)(h:parseL t.data.toList=some (a.data.toList,b.data.toList,c.data.toList,d.data.toList,e.data.toList,f.data.toList)):
 Calls Tryz.prog 28 #[.string t] w fun x w'=>x = .returned (.tuple #[.agg #[.string a,.string b,.string c,.string d,.string e,.string f],.int .i64 0])/\Below w.heap.size w w':=by have:=parse_any t w hs hM;rw [h] at this;exact this
def methL:List ByteArray:=[⟨#[71,69,84]⟩,⟨#[72,69,65,68]⟩,⟨#[80,79,83,84]⟩,⟨#[80,85,84]⟩,⟨#[68,69,76,69,84,69]⟩]
def knownB (m:ByteArray):Bool:=Lib.containsS methL m
theorem known_is (m:ByteArray)(w:World)(R:Bool)(hR:knownB m=R):
 Calls Tryz.prog 48 #[.string m] w fun e w'=>e = .returned (.bool R)/\Below w.heap.size w w':=by
 have hb:=(Kc w).alloc lr (.cells (methL.map Value.string).toArray 9);have A:=AtL.new w (methL.map Value.string) 9;have CC:=Kb (Tryz.slices_Contains_string w.heap.size 0 5 5 methL m (w.alloc (.cells (methL.map Value.string).toArray 9)) lr (by decide) (fun j hj=>by rw [Jm];exact A.c j (by rw [Zh,Jd hj,List.getD_eq_getElem?_getD,Jd hj];rfl)));have HR:Hid (((methL.take 5).any fun y=>Lib.containsS [y] m)=true\/True):=Kb (Or.inr trivial);have HR2:=Kb hR;clear hR A;go_enter Tryz.func48,Tryz.ntmps48;go_wp2_with (go_at_call 103;refine CC.out.mono ?_;rintro e w4 ⟨rfl,rfl⟩)
 go_ret;exact ⟨ret_bool (by rw [<-HR2.out];rfl),hb⟩
def webB (a:ByteArray):Bool:=(a.toList == [104,116,116,112]) || (a.toList == [104,116,116,112,115])
theorem web_is (a b c d e f:ByteArray)(w:World)(R:Bool)(hR:webB a=R):
 Calls Tryz.prog 50 #[.agg #[.string a,.string b,.string c,.string d,.string e,.string f]] w fun x w'=>x = .returned (.bool R)/\Below w.heap.size w w':=by
 have hb:=(Kc w).alloc lr (.cells [.string a,.string b,.string c,.string d,.string e,.string f].toArray 37)
 have A:=AtL.new w [.string a,.string b,.string c,.string d,.string e,.string f] 37
 unfold webB at hR
 cases h1:(a.toList == [104,116,116,112]) with
 | true=>
   rw [h1] at hR;subst hR
   go_enter Tryz.func50,Tryz.ntmps50
   go_wp2_with fail
   go_ret
   exact ⟨rfl,hb⟩
 | false=>
   obtain ⟨b5,h5⟩:=Ka (a.toList == [104,116,116,112,115])
   rw [h1,h5] at hR
   have hR:b5=R:=by simpa using hR
   subst hR
   go_enter Tryz.func50,Tryz.ntmps50
   go_wp2_with fail
   go_ret
   exact ⟨rfl,hb⟩
def acoL:List UInt8:=[97,99,99,101,115,115,45,99,111,110,116,114,111,108,45,97,108,108,111,119,45,111,114,105,103,105,110]
def accL:List UInt8:=[97,99,99,101,115,115,45,99,111,110,116,114,111,108,45,97,108,108,111,119,45,99,114,101,100,101,110,116,105,97,108,115]
def acoC:ByteArray:=⟨#[65,99,99,101,115,115,45,67,111,110,116,114,111,108,45,65,108,108,111,119,45,79,114,105,103,105,110]⟩
def accC:ByteArray:=⟨#[65,99,99,101,115,115,45,67,111,110,116,114,111,108,45,65,108,108,111,119,45,67,114,101,100,101,110,116,105,97,108,115]⟩
theorem hdr_cong (hs:List Hd){n1 n2:List UInt8}(h:lowL n1=lowL n2):hdrL hs n1=hdrL hs n2:=by
 unfold hdrL;have:hitH n1=hitH n2:=by funext x;unfold hitH;rw [h]
 rw [this]
theorem aco_cong (hs:List Hd):hdrL hs acoC.data.toList=hdrL hs acoL:=hdr_cong hs (by decide +kernel)
theorem acc_cong (hs:List Hd):hdrL hs accC.data.toList=hdrL hs accL:=hdr_cong hs (by decide +kernel)
def readB (og:ByteArray)(mo:Int)(ck:Bool)(O:ByteArray)(hd:List Hd):Bool:=(decide (mo=1) || (O.toList == og.toList)) || (decide (mo=3) && ((hdrL hd acoL).isSome && ((!ck || ((valL hd accL).toList == [116,114,117,101])) && (((valL hd acoL).toList == og.toList) || (((valL hd acoL).toList == [42]) && !ck)))))
theorem N11{p:Prop}(h:p:=by
 go_enter Tryz.func24,Tryz.ntmps24
 go_wp2_with (first
  | ((with_reducible refine CO.out.mono ?_);rintro e w1 ⟨rfl,hb1⟩;have hB1:=Kd hb0 hb1)
  | (with_reducible refine (CH1.out _ (HV.out.below hB1 lr)).mono ?_;rintro e w2 ⟨rfl,hb2⟩;have hB2:=Kd hB1 hb2)
  | (with_reducible refine (CH2.out _ (HV.out.below hB2 lr)).mono ?_;rintro e w3 ⟨rfl,hb3⟩;have hBE:=Kd hB2 hb3;have hBF:=hBE;have hBG:=hBE;have hBD:=hBE)
  | fail)
 go_ret
 first
  |exact ⟨rfl,hBF⟩
  |exact ⟨rfl,hBG⟩
  |exact ⟨rfl,hBD⟩
 ):p:=h
theorem N50{p:Prop}(h:p:=by
 subst hR;go_enter Tryz.func24,Tryz.ntmps24
 go_wp2_with (first
  | ((with_reducible refine CO.out.mono ?_);rintro e w1 ⟨rfl,hb1⟩;have hB1:=Kd hb0 hb1)
  | (with_reducible refine (CH1.out _ (HV.out.below hB1 lr)).mono ?_;rintro e w2 ⟨rfl,hb2⟩;have hB2:=Kd hB1 hb2)
  | (with_reducible refine (CH2.out _ (HV.out.below hB2 lr)).mono ?_;rintro e w3 ⟨rfl,hb3⟩;have hBE:=Kd hB2 hb3;have hBF:=hBE;have hBG:=hBE;have hBD:=hBE)
  | fail)
 go_ret
 first
  |exact ⟨rfl,hB1⟩
  |exact ⟨rfl,hBE⟩
 ):p:=h
theorem readable_is (og:ByteArray)(mo:Int)(ck:Bool)(a b c d e f:ByteArray)(vh:Value)(hd:List Hd)(w:World)(hM:MaxAt w)(hv:SlK hdC 2 w vh hd)(hz:HdSz hd)(ha:a.size<=40000)(hb:b.size<=40000)(hc:c.size<=40000)(hdd:d.size<=40000)(he:e.size<=40000)(hf:f.size<=40000)(O:ByteArray)(hO:O.data.toList=orgL (a.data.toList,b.data.toList,c.data.toList,d.data.toList,e.data.toList,f.data.toList))(R:Bool)(hR:readB og mo ck O hd=R):
 Calls Tryz.prog 24 #[.string og,.int .i64 mo,.bool ck,.agg #[.string a,.string b,.string c,.string d,.string e,.string f],vh] w fun x w'=>x = .returned (.bool R)/\Below w.heap.size w w':=by
 have hb0:=(Kc w).alloc lr (.cells [.string a,.string b,.string c,.string d,.string e,.string f].toArray 37);have A0:=AtL.new w [.string a,.string b,.string c,.string d,.string e,.string f] 37;have HV:=Kb hv;obtain ⟨va,vc,rfl,_⟩:=hv.shape;obtain ⟨B,hB⟩:=Ka ((hdrL hd acoL).isSome);obtain ⟨V,hV⟩:=Ka (valL hd acoL);obtain ⟨V2,hV2⟩:=Ka (valL hd accL);obtain ⟨b1,h1⟩:=Ka (O.toList == og.toList);obtain ⟨b2,h2⟩:=Ka (V2.toList == [116,114,117,101]);obtain ⟨b3,h3⟩:=Ka (V.toList == og.toList);obtain ⟨b4,h4⟩:=Ka (V.toList == [42]);have h2n:(V2.toList != [116,114,117,101]) = !b2:=by simp only [bne];rw [h2]
 unfold readB at hR;rw [hB,hV,hV2,h1,h2,h3,h4] at hR;have CO:=Kb (origin_is a b c d e f O _ ha hb hc hdd he hf (hM.below hb0 lr) hO);obtain ⟨B2,hB2'⟩:=Ka ((hdrL hd accL).isSome);have CH1:=Kb (fun (w':World) hv=>(show Calls Tryz.prog 15 #[.slice va hd.length vc,.string ⟨#[65,99,99,101,115,115,45,67,111,110,116,114,111,108,45,65,108,108,111,119,45,79,114,105,103,105,110]⟩] w' fun x w''=>x = .returned (.tuple #[.string V,.bool B])/\Below w'.heap.size w' w'' from hdr_at hd (.slice va hd.length vc) acoC w' hv hz (by decide) V B (by rw [aco_cong];exact hV) (by rw [aco_cong];exact hB)));have CH2:=Kb (fun (w':World) hv=>(show Calls Tryz.prog 15 #[.slice va hd.length vc,.string ⟨#[65,99,99,101,115,115,45,67,111,110,116,114,111,108,45,65,108,108,111,119,45,67,114,101,100,101,110,116,105,97,108,115]⟩] w' fun x w''=>x = .returned (.tuple #[.string V2,.bool B2])/\Below w'.heap.size w' w'' from hdr_at hd (.slice va hd.length vc) accC w' hv hz (by decide) V2 B2 (by rw [acc_cong];exact hV2) (by rw [acc_cong];exact hB2')));clear hB2' hO;clear hv hM hB hV hV2;by_cases m1:mo=1
 ·have hR:true=R:=by rw [<-hR,Kx m1];simp
  subst hR;clear h1 h2 h3 h4 h2n;subst m1;go_enter Tryz.func24,Tryz.ntmps24
  go_wp2_with (first
   | ((with_reducible refine CO.out.mono ?_);rintro e w1 ⟨rfl,hb1⟩;have hB1:=Kd hb0 hb1)
   | (with_reducible refine (CH1.out _ (HV.out.below hB1 lr)).mono ?_;rintro e w2 ⟨rfl,hb2⟩;have hB2:=Kd hB1 hb2)
   | (with_reducible refine (CH2.out _ (HV.out.below hB2 lr)).mono ?_;rintro e w3 ⟨rfl,hb3⟩;have hBE:=Kd hB2 hb3;have hBF:=hBE;have hBG:=hBE;have hBD:=hBE)
   | fail)
  go_ret;exact ⟨rfl,hb0⟩
 ·have m1':(mo == 1)=false:=Ki.2 m1;cases b1 with
  | true=>
    have hR:true=R:=by rw [<-hR];simp
    exact N50
  | false=>
    by_cases m3:mo=3
    ·subst m3;cases B with
     | false=>
       have hR:false=R:=by rw [<-hR];simp
       exact N50
     | true=>
       cases ck with
       | true=>
         cases b3 with
         | true=>
           cases b2 with
           | false =>
             have hR:false=R:=by rw [<-hR];simp
             subst hR
             have h2f:(V2.toList != [116,114,117,101])=true:=by rw [h2n];rfl
             clear h2n
             exact N11
           | true =>
             have hR:true=R:=by rw [<-hR];simp
             subst hR
             have h2f:(V2.toList != [116,114,117,101])=false:=by rw [h2n];rfl
             clear h2n
             exact N11
         | false=>
           have hR:false=R:=by rw [<-hR];cases b2 <;> cases b4 <;> simp
           subst hR
           cases b2 with
           | false =>
             have h2f:(V2.toList != [116,114,117,101])=true:=by rw [h2n];rfl
             clear h2n
             exact N11
           | true =>
             have h2f:(V2.toList != [116,114,117,101])=false:=by rw [h2n];rfl
             clear h2n
             cases b4 with
             | true =>
               exact N11
             | false =>
               exact N11
       | false=>
         cases b3 with
         | true=>
           have hR:true=R:=by rw [<-hR];cases b4 <;> simp
           subst hR
           exact N11
         | false=>
           have hR:b4=R:=by rw [<-hR];cases b4 <;> simp
           subst hR
           cases b4 with
           | true =>
             exact N11
           | false =>
             exact N11
    ·have hR:false=R:=by rw [<-hR,Kj m1,Kj m3];simp
     subst hR;have m3':(mo == 3)=false:=Ki.2 m3;have m3'':(mo != 3)=true:=by simp only [bne];rw [m3'];rfl
     exact N11
theorem ctl_from (s:ByteArray):∀ (f pos:Nat),s.size<=pos+f->decide (0<=Lib.idxFuncFrom ctlN true s f pos)=(s.data.toList.drop pos).any ctlB:=by
 intro f
 induction f with
 | zero=>
   intro pos h
   rw [drop_end s pos (by omega)];rfl
 | succ f ih=>
   intro pos h
   unfold Lib.idxFuncFrom
   by_cases hp:pos<s.size
   ·rw [Kf hp]
    rcases dec_cases s pos with ⟨h1,h2⟩ | ⟨h0,h1,h2,h3⟩
    ·rw [h2,drop_at s pos hp,List.any_cons,ctlB_is,<-get_at s pos hp]
     cases hc:ctlN (s.get! pos).toNat with
     | true=>simp
     | false=>simp only [Bool.false_eq_true,if_false,Bool.false_or];exact ih (pos+1) (by omega)
    ·have hn:ctlN (Utf8.decode s pos).1=false:=by
      cases e:ctlN (Utf8.decode s pos).1 with
      | false=>rfl
      | true=>have:=ctlN_lt _ e;omega
     have hle:pos+(Utf8.decode s pos).2<=s.size:=by
      rcases Zn 1 (Utf8.decode s pos).2 with h4 | h4
      ·have:=(h3 ((Utf8.decode s pos).2 - 1) (by omega) (by omega)).1;omega
      ·omega
     rw [hn]
     simp only [Bool.false_eq_true,if_false]
     rw [ih _ (by omega),ctl_skip s (Utf8.decode s pos).2 pos hle (fun k hk=>by
      rcases Nat.eq_zero_or_pos k with rfl | hk0
      ·exact h0
      ·exact (h3 k hk0 hk).2)]
   ·rw [Ke hp,drop_end s pos (by omega)];rfl
theorem ctl_idx (s:ByteArray):decide (0<=Lib.idxFunc ctlN true s)=ctlL s.data.toList:=by unfold Lib.idxFunc;rw [ctl_from s s.size 0 (by omega),List.drop_zero];rfl
theorem ctl_pred (w:World):PredAt Tryz.prog 235 #[] encR ctlN w:=fun W r _=>by
 unfold FnGives
 have h1:ctlN r=(decide ((r:Int)<32) && ((r:Int) != 9) || ((r:Int) == 127)):=by
  unfold ctlN
  have e0:decide (r<32)=decide ((r:Int)<32):=by rw [Zm,Jb,Jb];omega
  have e1:decide (r≠9)=((r:Int) != 9):=by rw [Zm,bne_iff_ne,Jb];omega
  have e2:decide (r=127)=((r:Int) == 127):=by rw [Zm,Ju,Jb];omega
  rw [e0,e1,e2]
 obtain ⟨R,hR⟩:=Ka (ctlN r)
 rw [hR] at h1 ⊢
 have H1:=Kb h1
 clear hR h1
 show Calls Tryz.prog 235 #[.int .i32 (r:Int)] W fun e w'=>e = .returned (.bool R)/\∃ q,w'=W.drewN q
 by_cases ha:(r:Int)<32
 ·by_cases hb:((r:Int) != 9)=true
  ·go_enter Tryz.func235,Tryz.ntmps235
   go_wp2
   go_ret
   exact ⟨ret_bool (by rw [H1.out];simp [*]),0,rfl⟩
  ·have hb2:((r:Int) != 9)=false:=by simpa using hb
   go_enter Tryz.func235,Tryz.ntmps235
   go_wp2
   go_ret
   exact ⟨ret_bool (by rw [H1.out];simp [*]),0,rfl⟩
 ·go_enter Tryz.func235,Tryz.ntmps235
  go_wp2
  go_ret
  exact ⟨ret_bool (by rw [H1.out,show decide ((r:Int)<32)=false from Kj (by omega)];simp),0,rfl⟩
theorem control_is (s:ByteArray)(R:Bool)(hR:ctlL s.data.toList=R)(w:World):
 Calls Tryz.prog 171 #[.string s] w fun e w'=>e = .returned (.bool R)/\Below w.heap.size w w':=by
 have c:=fun w=>Tryz.strings_ContainsFunc 235 #[] (enters_of Tryz.func235 (by kernel_rfl) rfl) ctlN s w (ctl_pred w);rw [ctl_idx,hR] at c;have C:=Kb c;clear c hR;go_enter Tryz.func171,Tryz.ntmps171;go_wp2_with (with_reducible refine (C.out _).mono ?_;rintro e w1 ⟨rfl,hb1⟩)
 go_ret;exact ⟨rfl,hb1⟩
theorem idxf_any (p:Ck->Bool)(g:Nat)(cb:Array Value)(eg:∀ args w,(callFunc g args).run Tryz.prog w = .ok (.enter g args) w)(l:List Ck)(b off cap:Nat)(w:World)
 (hp:PredBelow Tryz.prog g cb ckA p w) (hn:l.length<=1000000) (hb:b<w.heap.size) (hc:∀ i (h:i<l.length) j u,(ckL l[i])[j]? = some u->w.cell? ⟨b,off+i * 9+j,none⟩=some u) (R:Int) (hR:idxI p l=R) :
 Calls Tryz.prog 178 #[.slice (some ⟨b,off,none⟩) l.length cap,.func (.func g) #[] cb] w fun e w'=>e = .returned (.int .i64 R)/\Below w.heap.size w w':=by
 have HR:=Kb hR;have HC:=Kb hc;have HP:=Kb hp;clear hR hc hp;go_enter Tryz.func178,Tryz.ntmps178;go_wp2;go_loopw [5,8] (fun _ s8 wr=>∃ kk:Nat,kk<=l.length/\s8 = .int .i64 kk/\Below w.heap.size w wr/\∀ j (h:j<l.length),j<kk->p l[j]=false) (fun _ s8 _=>l.length - (intOf s8).toNat);case atStart=>exact ⟨0,Kh _,rfl,Kc w,fun j _ hj=>absurd hj (Nat.not_lt_zero _)⟩
 case round=>
  obtain ⟨kk,hkk,rfl,BW,A⟩:=hrel;have HA:=Kb A;clear A;by_cases hlt:kk<l.length
  ·have hltz:(kk:Int)<(l.length:Int):=by omega
   have hcc:=HC.out kk hlt;have cc:∀ j u,(ckL l[kk])[j]? = some u->wr.cell? ⟨b,off+kk * 9+j,none⟩=some u:=fun j u hu=>(BW.cell (p:=⟨b,off+kk * 9+j,none⟩) hb).trans (hcc j u hu);have hcall:=HP.out wr l[kk] BW;obtain ⟨y,hy⟩:=Ka (l[kk]);rw [hy] at cc hcall;have HY:=Kb hy;have c0:=cc 0 _ rfl;have c1:=cc 1 _ rfl;have c2:=cc 2 _ rfl;have c3:=cc 3 _ rfl;have c4:=cc 4 _ rfl;have c5:=cc 5 _ rfl;have c6:=cc 6 _ rfl;have c7:=cc 7 _ rfl;have c8:=cc 8 _ rfl;simp only [Ku] at c0;clear cc hcc hy;cases hq:p y with
   | true=>
     exact N52
   | false=>
     rw [hq] at hcall;have HQ:=Kb hq;have HCall:=Kb hcall;clear hq hcall;go_wp2_with (go_at_fn g;refine HCall.out.mono ?_;rintro e w' ⟨rfl,hb'⟩)
     go_roundw
     case rel=>
      refine ⟨kk+1,by omega,by go_num,hb',fun j h hj=>?_⟩;by_cases e:j=kk
      ·subst e;rw [HY.out];exact HQ.out
      ·exact HA.out j h (by omega)
     case measure=>simp [intOf];omega
  ·exact M26
theorem idxf_nil (p:Ck->Bool)(fv:Value)(a:Option Addr)(cap:Nat)(w:World):
 Calls Tryz.prog 178 #[.slice a 0 cap,fv] w fun e w'=>e = .returned (.int .i64 (-1))/\w=w':=by go_enter Tryz.func178,Tryz.ntmps178;go_wp2;refine wp_loop_rounds 1 ?_;rw [rounds_succ];go_wp2;go_ret;exact ⟨rfl,rfl⟩
theorem expired_is (c:Ck)(now:Int)(R:Bool)(hR:exB c now=R)(w:World):
 Calls Tryz.prog 84 #[ckA c,.int .i64 now] w fun e w'=>e = .returned (.bool R)/\Below w.heap.size w w':=by
 obtain ⟨cn,cv,cd,cp,cho,cse,chi,cex,ccr⟩:=c;have cK:=fun w=>(clock_any now w).mono fun e w' ⟨h1,h2⟩=>(⟨h1,h2.symm⟩:_/\w'=w)
 unfold exB at hR;obtain ⟨Cn,hCn⟩:=Ka (clockI now);rw [hCn] at hR cK;have HR:=Kb hR;have CK:=Kb cK;clear hR cK hCn;by_cases h0:0<=cex
 ·have hd:decide (0<=cex)=true:=Kx h0;go_enter Tryz.func84,Tryz.ntmps84;go_wp2_with fail;go_quiet ((go_at_call 135;exact Calls.quiet_of_same (CK.out _)));go_wp2_with fail;go_ret;exact ⟨ret_bool (by rw [<-HR.out];rw [hd,Bool.true_and]),below_drewN ((Kc w).alloc lr _) _⟩
 ·have hd:decide (0<=cex)=false:=Kj h0;go_enter Tryz.func84,Tryz.ntmps84;go_wp2_with fail;go_quiet ((go_at_call 135;exact Calls.quiet_of_same (CK.out _)));go_wp2_with fail;go_ret;exact ⟨ret_bool (by rw [<-HR.out];rw [hd,Bool.false_and]),below_drewN ((Kc w).alloc lr _) _⟩
theorem same_is (c:Ck)(w:World):
 Calls Tryz.prog 179 #[ckA c] w fun e w'=>e = .returned (.func (.func 238) #[] #[.pointer (some ⟨w.heap.size,0,none⟩)])/\Below w.heap.size w w'/\AtL w' w.heap.size (ckL c):=by go_enter Tryz.func179,Tryz.ntmps179;go_wp2_with fail;go_ret;exact ⟨rfl,(Kc w).alloc lr _,AtL.new w (ckL c) 88⟩
theorem same_pred (c:Ck)(B:Nat)(w:World)(hA:AtL w B (ckL c)):PredBelow Tryz.prog 238 #[.pointer (some ⟨B,0,none⟩)] ckA (sameB c) w:=by intro W d hb;obtain ⟨R,hR⟩:=Ka (sameB c d);rw [hR];have A:=hA.next hb;have c0:=A.c 0 rfl;have c2:=A.c 2 rfl;have c3:=A.c 3 rfl;have hB:=A.lt;have hR2:((c.n.toList == d.n.toList) && (c.d.toList == d.d.toList) && (c.p.toList == d.p.toList))=R:=hR;clear hR;have HR:=Kb hR2;show Calls Tryz.prog 238 #[ckA d,.pointer (some ⟨B,0,none⟩)] W _;clear hR2 hA A;by_cases h1:c.n.toList=d.n.toList <;> by_cases h2:c.d.toList=d.d.toList <;> by_cases h3:c.p.toList=d.p.toList;all_goals go_enter Tryz.func238,Tryz.ntmps238;go_wp2_with fail;go_ret;exact ⟨ret_bool (by rw [<-HR.out];simp [*]),hb.alloc hb.size _⟩
theorem takes_is (a b c d e f:ByteArray)(T:Bool)(hT:takesB (u6 a b c d e f)=T)(w:World)(hz:USize 40000 a b c d e f)(hM:MaxAt w):
 Calls Tryz.prog 82 #[urlA a b c d e f] w fun x w'=>x = .returned (.bool T)/\Below w.heap.size w w':=by
 have cV:=fun w hM=>valid_any a b c d e f w hz.a hz.b hz.c hz.d hz.e hz.f hM;obtain ⟨V,hV⟩:=Ka (validB (u6 a b c d e f));have hn:=neq_about a;have hT2:(V && !(a.data.toList == aboutL))=T:=by rw [<-hT,<-hV];rfl
 rw [hV] at cV;rw [<-hn] at hT2;obtain ⟨N,hN⟩:=Ka (a.toList != aboutL);rw [hN] at hT2;have CV:=Kb cV;have HT:=Kb hT2;have A0:=AtL.new w (urlL a b c d e f) 37;have hB0:Below w.heap.size w (w.alloc (.cells #[.string a,.string b,.string c,.string d,.string e,.string f] 37)):=(Kc w).alloc lr _;have hM0:=hM.below hB0 lr;clear cV hT hV hn hT2 hM hz;cases V
 ·cases N
  all_goals
   go_enter Tryz.func82,Tryz.ntmps82;go_wp2_with (with_reducible refine (CV.out _ hM0).mono ?_;rintro x w1 ⟨rfl,hb1⟩;have hB1:=Kd hB0 hb1)
   go_ret;exact ⟨ret_bool (by rw [<-HT.out];rfl),hB1⟩
 ·cases N
  all_goals
   have hN1:=hN;have hN2:(a.toList == [97,98,111,117,116]) = !(a.toList != aboutL):=by simp [bne]
   rw [hN] at hN2;clear hN;go_enter Tryz.func82,Tryz.ntmps82;go_wp2_with (with_reducible refine (CV.out _ hM0).mono ?_;rintro x w1 ⟨rfl,hb1⟩;have hB1:=Kd hB0 hb1;have A1:=A0.next hb1;have z0:=A1.c 0 rfl)
   go_ret;exact ⟨ret_bool (by rw [<-HT.out];first | rfl | (rw [<-hN1];rfl)),hB1⟩
theorem slC:SlTy Tryz.prog 22 88 9 88:=.mk' (z:=ckA ck0) Tryz.underlying22 (by kernel_rfl) rfl (by decide)
theorem idxs_is (p:Ck->Bool)(g:Nat)(cb:Array Value)(eg:∀ args w,(callFunc g args).run Tryz.prog w = .ok (.enter g args) w)(l:List Ck)(v:Value)(w:World)
 (hv:SlK ckL 9 w v l) (hp:PredBelow Tryz.prog g cb ckA p w) (hn:l.length<=1000000) (R:Int) (hR:idxI p l=R) :
 Calls Tryz.prog 178 #[v,.func (.func g) #[] cb] w fun e w'=>e = .returned (.int .i64 R)/\Below w.heap.size w w':=by
 rcases hv with ⟨rfl,a,cap,rfl,h2⟩ | ⟨h0,b,off,cap,rfl,h2,h3,h4,h5⟩
 ·subst hR;refine (idxf_nil p _ a cap w).mono ?_;rintro e w' ⟨rfl,rfl⟩;exact ⟨rfl,Kc _⟩
 ·exact idxf_any p g cb eg l b off cap w hp hn h4 h5 R hR
structure JarIn (w:World)(jb B:Nat)(v:Value)(l:List Ck)(nx:Int):Prop where
 at_:AtL w jb [v,.int .i64 nx]
 own:w.ownsRow B 88 9 v l.length (cellsK ckL l)
 ne:v.ownBlock≠some jb
 le:B<=w.heap.size
theorem JarIn.reads {w:World}{jb B:Nat}{v:Value}{l:List Ck}{nx:Int}(h:JarIn w jb B v l nx):SlK ckL 9 w v l:=SlK.of_own ckL_len h.own
theorem JarIn.below {w w':World}{jb B n:Nat}{v:Value}{l:List Ck}{nx:Int}(h:JarIn w jb B v l nx)(hb:Below n w w')(hn:w.heap.size<=n):JarIn w' jb B v l nx:=
 ⟨h.at_.below hb (Ko h.at_.1 hn),own_below h.own hb hn,h.ne,Kg h.le hb.size⟩
end Go.Proofs.YtjdhaacmlpegoaaGreatDoor
