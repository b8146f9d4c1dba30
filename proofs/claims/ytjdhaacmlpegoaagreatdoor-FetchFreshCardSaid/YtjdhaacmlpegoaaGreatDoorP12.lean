/- Part 12 of what the proof needs: B5. -/
import Derived.Test.YtjdhaacmlpegoaaGreatDoorP11
import Derived.Test.YtjdhaacmlpegoaaGreatDoorP01
set_option maxRecDepth 20000
set_option maxHeartbeats 16000000
namespace Go.Proofs.YtjdhaacmlpegoaaGreatDoor
set_option linter.unusedVariables false
set_option linter.unusedSimpArgs false
open Go.RowKit
theorem own_z0 (W0:World)(E size:Nat):(W0.alloc (.cells #[] E)).ownsRow W0.heap.size E size (.slice (some ⟨W0.heap.size,0,none⟩) 0 0) 0 []:=own_zero W0 E size
theorem app_z {P:Program}{T E size bytes:Nat}(ty:SlTy P T E size bytes)(W0:World){ops:Array Oper}{rest:List Oper}{o:Oper}{a:Act}{Q:Exit->Act->World->Prop}
 (hgd:o.guard=none) (s x:Operand) (ho:o.op = .call { callee:=.builtin .append,args:=#[s,x],argTypes:=#[T,T] })
 (kk:Nat) (hs:a.eval s = .slice (some ⟨kk,0,none⟩) 0 0) (hkk:kk=W0.heap.size) (ad:Addr) (m c:Nat) (news:List Value)
 (hx:a.eval x = .slice (some ad) m c) (hl:news.length=m * size) (hc:∀ j u,news[j]? = some u->W0.cell? (ad.add j)=some u) (hb:ad.block<W0.heap.size) (h1:∀ u∈news,u.oneCell'=true)
 (hm:0<m) (hby:m * bytes<=140737488355328) (hn:m<=140737488355328)
 (h:∀ g cap w',w'.ownsRow W0.heap.size E size (.slice (some ⟨g,0,none⟩) m cap) m news->Below W0.heap.size W0 w'->wpList P ops Q rest (a.put o.dst (.slice (some ⟨g,0,none⟩) m cap)) w') :
 wpList P ops Q (o :: rest) a (W0.alloc (.cells #[] E)):=by
 subst hkk
 obtain ⟨hu,⟨i,z,hi,hz,h2,h3,h4⟩,hp⟩:=ty
 have hb0:Below W0.heap.size W0 (W0.alloc (.cells #[] E)):=(Below.refl _ W0).alloc lr _
 refine wpList_append_lies _ hgd s x T ho W0.heap.size E i z size bytes hu hi hz h2 h3 h4 hp _ 0 [] hs (own_z0 W0 E size) ad m c news hx hl (fun j u hj=>?_) h1 hm (by unfold maxLen;omega) (by rw [Nat.zero_add];exact hby) (by simp) (W0.heap.size+1) (by simp)
  fun g cap w' a1 a2 a3 a4=>?_
 ·have e1:(ad.add j).block=ad.block:=by unfold Addr.add;split <;> rfl
  exact (hb0.cell (p:=ad.add j) (by rw [e1];exact hb)).trans (hc j u hj)
 ·rw [Nat.zero_add] at a1 ⊢
  rw [List.nil_append] at a1
  refine h g cap w' a1 (hb0.grown a2 (by simp) fun k hk=>?_)
  simp only [Value.ownBlock,Option.some.injEq] at hk
  omega
theorem app_z0 {P:Program}{T E size bytes:Nat}(ty:SlTy P T E size bytes)(W:World){ops:Array Oper}{rest:List Oper}{o:Oper}{a:Act}{Q:Exit->Act->World->Prop}
 (hgd:o.guard=none) (s x:Operand) (ho:o.op = .call { callee:=.builtin .append,args:=#[s,x],argTypes:=#[T,T] }) (b:Nat) (ad:Option Addr) (c:Nat)
 (hs:a.eval s = .slice (some ⟨b,0,none⟩) 0 0) (hx:a.eval x = .slice ad 0 c)
 (h:wpList P ops Q rest (a.put o.dst (.slice (some ⟨b,0,none⟩) 0 0)) W):wpList P ops Q (o :: rest) a W:=by
 obtain ⟨hu,⟨i,z,hi,hz,h2,h3,h4⟩,hp⟩:=ty
 have hfc:(Builtin.firstCells i.size 0 (.slice ad 0 c)).run P W = .ok #[] W:=by
  cases ad with
  | none=>rfl
  | some ad=>exact run_firstCells_some (P:=P) W i.size 0 ad 0 c [] (by simp) (by simp)
 have hst:∀ p:Addr,(storeCells p []).run P W = .ok () W:=fun p=>by simp [storeCells]
 have hrun:(Builtin.append_ #[T,T] o.type #[.slice (some ⟨b,0,none⟩) 0 0,.slice ad 0 c]).run P W = .ok (.slice (some ⟨b,0,none⟩) 0 0) W:=by
  simp [Builtin.append_,run_underlying hu,sizeOf,typeInfo,hi,Builtin.lenOf,hfc,hst]
 refine wpList_plain hgd fun K hK=>?_
 unfold Oper.wp execOp
 simp only [ho,resolve,invoke,builtin,Sem.run_bind,Sem.run_pure,Result.andThen_ok,List.map_toArray,List.map_cons,List.map_nil,hs,hx,hrun]
 exact hK _ _ h
theorem one2s (l:List Hd):∀ u∈cellsK hdC l,u.oneCell'=true:=by
 intro u hu
 obtain ⟨c,_,hu⟩:=List.mem_flatMap.1 hu
 simp at hu
 rcases hu with rfl | rfl <;> rfl
def CloQ (w:World)(hs:List Hd)(x:Ending)(w':World):Prop:=∃ v',x = .returned v'/\w'.ownsRow w.heap.size 70 2 v' hs.length (cellsK hdC hs)/\Below w.heap.size w w'
theorem cloq_open {w:World}{hs:List Hd}{x:Ending}{w':World}(h:CloQ w hs x w'):∃ a c,x = .returned (.slice a hs.length c)/\SlK hdC 2 w' (.slice a hs.length c) hs/\Below w.heap.size w w'/\(∀ b off n k,Value.slice a hs.length c = .slice (some ⟨b,off,none⟩) n k->w.heap.size<=b):=by
 obtain ⟨v',rfl,h1,h2⟩:=h
 obtain ⟨a,c,rfl,_,_,ha⟩:=own_reads h1
 refine ⟨a,c,rfl,SlK.of_own hdC_len h1,h2,fun b off n k e=>?_⟩
 injection e with e _ _
 rcases ha with ⟨rfl,_⟩ | ⟨g,rfl,hg,_⟩
 ·cases e
 ·injection e with e
  injection e with e
  omega
theorem eqnil_h (a:Option Addr)(l c:Nat)(w:World):(binOp .eql 28 (.slice a l c) (.slice none 0 0)).run Tryz.prog w = .ok (.bool a.isNone) w:=by
 simp only [binOp]
 simp [run_equal_slice_nil w _ _ a l c Tryz.underlying28]
attribute [local go_sem] eqnil_h
theorem clo_is (hs:List Hd)(v:Value)(w:World)(hv:SlK hdC 2 w v hs)(hl:hs.length<=1000000):Calls Tryz.prog 69 #[v] w (CloQ w hs):=by
 rcases hv with ⟨rfl,a,cap,rfl,h2⟩ | ⟨h0,b,off,cap,rfl,h2,h3,h4,h5⟩
 ·cases a with
  | none=>
    go_enter Tryz.func69,Tryz.ntmps69
    go_wp2_with (refine app_z0 slH _ (by rfl) (.tmp 5) (.tmp 6) (by rfl) w.heap.size none cap (by rfl) (by rfl) ?_)
    go_ret
    first
     | exact ⟨_,rfl,World.ownsRow_nil _ _ _ _,Below.refl _ _⟩
     | exact ⟨_,rfl,own_z0 _ _ _,(Below.refl _ w).alloc lr _⟩
  | some ad=>
    go_enter Tryz.func69,Tryz.ntmps69
    go_wp2_with (refine app_z0 slH _ (by rfl) (.tmp 5) (.tmp 6) (by rfl) w.heap.size (some ad) cap (by rfl) (by rfl) ?_)
    go_ret
    exact ⟨_,rfl,own_z0 _ _ _,(Below.refl _ w).alloc lr _⟩
 ·have hpos:0<hs.length:=List.length_pos_iff.2 h0
  have hc:∀ j u,(cellsK hdC hs)[j]? = some u->w.cell? ((⟨b,off,none⟩:Addr).add j)=some u:=fun j u hu=>by
   obtain ⟨i,hi,q,rfl,hq⟩:=cellsK_inv hdC_len hs j u hu
   rw [add_none,<-Nat.add_assoc]
   exact h5 i hi q u hq
  have HC:=Lib.hid hc
  have hone:=Lib.hid (one2s hs)
  have hlc:=Lib.hid (cellsK_len hdC_len hs)
  clear h5 hc h0
  go_enter Tryz.func69,Tryz.ntmps69
  go_wp2_with (refine app_z slH w (by rfl) (.tmp 5) (.tmp 6) (by rfl) w.heap.size (by rfl) rfl ⟨b,off,none⟩ hs.length cap (cellsK hdC hs) (by rfl) hlc.out HC.out h4 hone.out hpos (by omega) (by omega) ?_;intro g cap2 w2 hown2 hb2)
  go_ret
  exact ⟨_,rfl,hown2,hb2⟩
theorem ret6_run {P:Program}{fn:Func}{q T:Nat}(hr:fn.results = #[.cell q T])(hz:∀ w,(Go.sizeOf T).run P w = .ok 6 w)(ha:∀ w,(isAgg T).run P w = .ok true w)(tmps:Array Value)(W:World)(k:Nat)(a b c d e f:Value)(h2:tmps.getD q undef = .pointer (some ⟨k,0,none⟩))(hA:AtL W k [a,b,c,d,e,f]):
 (results fn tmps).run P W = .ok (.agg #[a,b,c,d,e,f]) W:=by
 have c0:=hA.c 0 rfl
 have c1:=hA.c 1 rfl
 have c2:=hA.c 2 rfl
 have c3:=hA.c 3 rfl
 have c4:=hA.c 4 rfl
 have c5:=hA.c 5 rfl
 rw [Array.getD_eq_getD_getElem?] at h2
 simp [results,hr,h2,go_sem,hz,ha,c0,c1,c2,c3,c4,c5]
theorem slk_cell {hs:List Hd}{u:Value}{w:World}(h:SlK hdC 2 w u hs)(p:Addr)(x:Value)(hne:∀ b off n k,u = .slice (some ⟨b,off,none⟩) n k->b≠p.block):SlK hdC 2 (w.setCell p x) u hs:=by
 rcases h with h | ⟨h0,b,off,cap,hv,e2,e3,h4,h5⟩
 ·exact .inl h
 ·exact .inr ⟨h0,b,off,cap,hv,e2,e3,by rw [World.size_setCell];exact h4,fun i hi j u hu=>(World.cell?_setCell_other w p _ x (fun q=>hne b off _ _ hv (congrArg Addr.block q).symm)).trans (h5 i hi j u hu)⟩
def CopQ (w:World)(x:Ee)(e:Ending)(w':World):Prop:=∃ x':Ee,e = .returned (eeA x')/\x'.2=x.2/\Rd w' x'.1 x'.2/\Below w.heap.size w w'/\(∀ b off n k,x'.1.vv = .slice (some ⟨b,off,none⟩) n k->w.heap.size<=b)/\(∀ b off n k,x'.1.hv = .slice (some ⟨b,off,none⟩) n k->w.heap.size<=b)
theorem cop_is (x:Ee)(w:World)(hr:Rd w x.1 x.2)(h1:x.2.va.length<=1000000)(h2:x.2.hd.length<=1000000):Calls Tryz.prog 120 #[eeA x] w (CopQ w x):=by
 obtain ⟨⟨u,vv,st,hh,bo,ti⟩,xe⟩:=x
 have hva:SlK hdC 2 w vv xe.va:=hr.va
 have hhd:SlK hdC 2 w hh xe.hd:=hr.hd
 have h1:xe.va.length<=1000000:=h1
 have h2:xe.hd.length<=1000000:=h2
 have HU:=Lib.hid hr.u
 have HS:=Lib.hid hr.st
 have HBO:=Lib.hid hr.bo
 have HTI:=Lib.hid hr.ti
 have C1:=Lib.hid (fun w hv=>clo_is xe.va vv w hv h1)
 have C2:=Lib.hid (fun w hv=>clo_is xe.hd hh w hv h2)
 have E0:=(AtL.new w (erC ⟨u,vv,st,hh,bo,ti⟩) 90).alloc (.cells [.string ⟨#[]⟩,.slice none 0 0,.int .i64 0,.slice none 0 0,.string ⟨#[]⟩,.int .i64 0].toArray 90)
 have R0:=AtL.new (w.alloc (.cells (erC ⟨u,vv,st,hh,bo,ti⟩).toArray 90)) [.string ⟨#[]⟩,.slice none 0 0,.int .i64 0,.slice none 0 0,.string ⟨#[]⟩,.int .i64 0] 90
 rw [show (w.alloc (.cells (erC ⟨u,vv,st,hh,bo,ti⟩).toArray 90)).heap.size=w.heap.size+1 by simp] at R0
 have hB0:Below w.heap.size w ((w.alloc (.cells (erC ⟨u,vv,st,hh,bo,ti⟩).toArray 90)).alloc (.cells [.string ⟨#[]⟩,.slice none 0 0,.int .i64 0,.slice none 0 0,.string ⟨#[]⟩,.int .i64 0].toArray 90)):=((Below.refl _ w).alloc lr _).alloc (by simp) _
 have hva0:=hva.below hB0 lr
 have hhd0:=hhd.below hB0 lr
 obtain ⟨ta,tc,rfl,_⟩:=hva.shape
 obtain ⟨ua,uc,rfl,_⟩:=hhd.shape
 have HHD:=Lib.hid hhd
 clear hva hhd hr
 go_enter Tryz.func120,Tryz.ntmps120
 go_wp2_with fail
 obtain ⟨W0,hW0⟩:∃ W0:World,(w.alloc (.cells (erC ⟨u,.slice ta xe.va.length tc,st,.slice ua xe.hd.length uc,bo,ti⟩).toArray 90)).alloc (.cells [.string ⟨#[]⟩,.slice none 0 0,.int .i64 0,.slice none 0 0,.string ⟨#[]⟩,.int .i64 0].toArray 90)=W0:=⟨_,rfl⟩
 obtain ⟨E,hE⟩:∃ E,w.heap.size=E:=⟨_,rfl⟩
 obtain ⟨R,hR⟩:∃ R,w.heap.size+1=R:=⟨_,rfl⟩
 have hER:E<R:=by omega
 rw [hW0] at E0 R0 hB0 hva0 hhd0
 rw [hE] at E0 hB0
 rw [hR] at R0
 rw [hW0,hR,hE]
 have HE:=Lib.hid hE
 have hne:E≠R:=by omega
 clear hW0 hE hR
 have el0:=E0.lt
 have z0:=E0.c 0 rfl;have z1:=E0.c 1 rfl;have z2:=E0.c 2 rfl;have z3:=E0.c 3 rfl;have z4:=E0.c 4 rfl;have z5:=E0.c 5 rfl
 go_wp2_with (first
  | (go_at_call 69;refine (C1.out _ hva0).mono ?_;rintro e w1 hq;obtain ⟨a1,k1,rfl,hs1,hb1,hn1⟩:=cloq_open hq;clear hq z0 z1 z2 z3 z4 z5;have E1:=E0.next hb1;have z1:=E1.c 1 rfl;have f1:=E1.f 1 rfl;have el1:=E1.lt;have E1s:=E1.set 1 (.slice a1 xe.va.length k1);have y_:=E1s.o6;have hB1:=hB0.trans (hb1.mono (Nat.le_of_lt el0)))
  | (go_at_call 69;refine (C2.out _ (HHD.out.below (hB1.setCell (p:=⟨E,1,none⟩) lr _) (Nat.le_of_eq HE.out))).mono ?_;rintro e w2 hq;obtain ⟨a2,k2,rfl,hs2,hb2,hn2⟩:=cloq_open hq;clear hq y_;have hB2:=(hB1.setCell (p:=⟨E,1,none⟩) lr (.slice a1 xe.va.length k1)).trans (hb2.mono (by simp;have:=hB1.size;have:=HE.out;omega));have E2:=E1s.next hb2;have e3:=E2.c 3 rfl;have f3:=E2.f 3 rfl;have el2:=E2.lt;have E2s:=E2.set 3 (.slice a2 xe.hd.length k2);have x_:=E2s.o6;have R1:=((R0.next hb1).far ⟨E,1,none⟩ (.slice a1 xe.va.length k1) hne).next hb2;have R2:=R1.far ⟨E,3,none⟩ (.slice a2 xe.hd.length k2) hne;have r_:=R2.o6;have g_:=R2.of6;have rl:=R2.lt))
 have RF:=(((((R2.set 0 (.string u)).set 1 (.slice a1 xe.va.length k1)).set 2 (.int .i64 st)).set 3 (.slice a2 xe.hd.length k2)).set 4 (.string bo)).set 5 (.int .i64 ti)
 have hBF:=((((((hB2.setCell (p:=⟨E,3,none⟩) lr (.slice a2 xe.hd.length k2)).setCell (p:=⟨R,0,none⟩) (Nat.le_of_lt hER) (.string u)).setCell (p:=⟨R,1,none⟩) (Nat.le_of_lt hER) (.slice a1 xe.va.length k1)).setCell (p:=⟨R,2,none⟩) (Nat.le_of_lt hER) (.int .i64 st)).setCell (p:=⟨R,3,none⟩) (Nat.le_of_lt hER) (.slice a2 xe.hd.length k2)).setCell (p:=⟨R,4,none⟩) (Nat.le_of_lt hER) (.string bo)).setCell (p:=⟨R,5,none⟩) (Nat.le_of_lt hER) (.int .i64 ti)
 have hE1:E<W0.heap.size:=el0
 have hR1:R<W0.heap.size:=R0.lt
 have hw01:=hb1.size
 have n1E:∀ p:Addr,p.block=E->∀ b off n k,Value.slice a1 xe.va.length k1 = .slice (some ⟨b,off,none⟩) n k->b≠p.block:=fun p hp b off n k e=>by have:=hn1 b off n k e;omega
 have n1R:∀ p:Addr,p.block=R->∀ b off n k,Value.slice a1 xe.va.length k1 = .slice (some ⟨b,off,none⟩) n k->b≠p.block:=fun p hp b off n k e=>by have:=hn1 b off n k e;omega
 have hws:(w1.setCell ⟨E,1,none⟩ (.slice a1 xe.va.length k1)).heap.size=w1.heap.size:=World.size_setCell _ _ _
 have n2R:∀ p:Addr,p.block=R->∀ b off n k,Value.slice a2 xe.hd.length k2 = .slice (some ⟨b,off,none⟩) n k->b≠p.block:=fun p hp b off n k e=>by have:=hn2 b off n k e;omega
 have n2E:∀ p:Addr,p.block=E->∀ b off n k,Value.slice a2 xe.hd.length k2 = .slice (some ⟨b,off,none⟩) n k->b≠p.block:=fun p hp b off n k e=>by have:=hn2 b off n k e;omega
 have s1:=(slk_cell hs1 ⟨E,1,none⟩ (.slice a1 xe.va.length k1) (n1E _ rfl)).below hb2 lr
 have s1F:=slk_cell (slk_cell (slk_cell (slk_cell (slk_cell (slk_cell (slk_cell s1 ⟨E,3,none⟩ (.slice a2 xe.hd.length k2) (n1E _ rfl)) ⟨R,0,none⟩ (.string u) (n1R _ rfl)) ⟨R,1,none⟩ (.slice a1 xe.va.length k1) (n1R _ rfl)) ⟨R,2,none⟩ (.int .i64 st) (n1R _ rfl)) ⟨R,3,none⟩ (.slice a2 xe.hd.length k2) (n1R _ rfl)) ⟨R,4,none⟩ (.string bo) (n1R _ rfl)) ⟨R,5,none⟩ (.int .i64 ti) (n1R _ rfl)
 have s2F:=slk_cell (slk_cell (slk_cell (slk_cell (slk_cell (slk_cell (slk_cell hs2 ⟨E,3,none⟩ (.slice a2 xe.hd.length k2) (n2E _ rfl)) ⟨R,0,none⟩ (.string u) (n2R _ rfl)) ⟨R,1,none⟩ (.slice a1 xe.va.length k1) (n2R _ rfl)) ⟨R,2,none⟩ (.int .i64 st) (n2R _ rfl)) ⟨R,3,none⟩ (.slice a2 xe.hd.length k2) (n2R _ rfl)) ⟨R,4,none⟩ (.string bo) (n2R _ rfl)) ⟨R,5,none⟩ (.int .i64 ti) (n2R _ rfl)
 refine bodyPost_ret (ret6_run Tryz.results120 Tryz.sizeOf90 Tryz.isAgg90 _ _ R _ _ _ _ _ _ rfl RF) rfl ?_
 refine ⟨(⟨u,.slice a1 xe.va.length k1,st,.slice a2 xe.hd.length k2,bo,ti⟩,xe),rfl,rfl,⟨HU.out,HS.out,HBO.out,HTI.out,s1F,s2F⟩,?_,?_,?_⟩
 ·rw [HE.out];exact hBF
 ·intro b off n k e
  have:=hn1 b off n k e
  have:=HE.out
  omega
 ·intro b off n k e
  have:=hn2 b off n k e
  have:=HE.out
  omega
end Go.Proofs.YtjdhaacmlpegoaaGreatDoor
namespace Go.Proofs.YtjdhaacmlpegoaaGreatDoor
set_option linter.unusedVariables false
set_option linter.unusedSimpArgs false
open Go.RowKit
def en0:En:=⟨⟨#[]⟩,[],0,[],⟨#[]⟩,0⟩
def useB (D:Dir)(e:En)(now:Int):Bool:=freshE e now && (!D.nc && (decide (D.ma<0) || decide (ageE e.ti now<=1000 * D.ma)))
abbrev set8 (W:World)(k:Nat)(a b c d e f g h:Value):World:=(((((((W.setCell ⟨k,0,none⟩ a).setCell ⟨k,1,none⟩ b).setCell ⟨k,2,none⟩ c).setCell ⟨k,3,none⟩ d).setCell ⟨k,4,none⟩ e).setCell ⟨k,5,none⟩ f).setCell ⟨k,6,none⟩ g).setCell ⟨k,7,none⟩ h
theorem AtL.set8 {W:World}{k:Nat}{vs:List Value}(hv:AtL W k vs)(hl:vs.length=8)(a b c d e f g h:Value):AtL (set8 W k a b c d e f g h) k [a,b,c,d,e,f,g,h]:=by
 match vs,hl with
 | [_,_,_,_,_,_,_,_],_=>exact (((((((hv.set 0 a).set 1 b).set 2 c).set 3 d).set 4 e).set 5 f).set 6 g).set 7 h
theorem ret8_run {P:Program}{fn:Func}{q T:Nat}(hr:fn.results = #[.cell q T])(hz:∀ w,(Go.sizeOf T).run P w = .ok 8 w)(ha:∀ w,(isAgg T).run P w = .ok true w)(tmps:Array Value)(W:World)(k:Nat)(a b c d e f g h:Value)(h2:tmps.getD q undef = .pointer (some ⟨k,0,none⟩))(hA:AtL W k [a,b,c,d,e,f,g,h]):
 (results fn tmps).run P W = .ok (.agg #[a,b,c,d,e,f,g,h]) W:=by
 have c0:=hA.c 0 rfl
 have c1:=hA.c 1 rfl
 have c2:=hA.c 2 rfl
 have c3:=hA.c 3 rfl
 have c4:=hA.c 4 rfl
 have c5:=hA.c 5 rfl
 have c6:=hA.c 6 rfl
 have c7:=hA.c 7 rfl
 rw [Array.getD_eq_getD_getElem?] at h2
 simp [results,hr,h2,go_sem,hz,ha,c0,c1,c2,c3,c4,c5,c6,c7]
def NewE (x:Ee)(N:Nat):Prop:=(∀ b off n k,x.1.vv = .slice (some ⟨b,off,none⟩) n k->N<=b)/\(∀ b off n k,x.1.hv = .slice (some ⟨b,off,none⟩) n k->N<=b)
theorem NewE.mono {x:Ee}{N M:Nat}(h:NewE x N)(hm:M<=N):NewE x M:=⟨fun b off n k e=>Nat.le_trans hm (h.1 b off n k e),fun b off n k e=>Nat.le_trans hm (h.2 b off n k e)⟩
def AskQ (w:World)(jb B:Nat)(v:Value)(k:Int)(en:En)(hs:List Hd)(l':List Ee)(e:Ending)(w':World):Prop:=
 ∃ (r:Er) (u:Value),e = .returned (.agg #[.int .i64 k,.string r.u,r.vv,.int .i64 r.st,r.hv,.string r.bo,.int .i64 r.ti,u])/\Rd w' r en/\SlK hdC 2 w' u hs/\CaTo w jb B v l' w'/\NewE (r,en) w.heap.size/\∀ b off n k,u = .slice (some ⟨b,off,none⟩) n k->w.heap.size<=b
theorem rd0 (w:World):Rd w ⟨⟨#[]⟩,.slice none 0 0,0,.slice none 0 0,⟨#[]⟩,0⟩ en0:=⟨rfl,rfl,rfl,rfl,.inl ⟨rfl,none,0,rfl,Nat.zero_le _⟩,.inl ⟨rfl,none,0,rfl,Nat.zero_le _⟩⟩
theorem slk0 (w:World):SlK hdC 2 w (.slice none 0 0) ([]:List Hd):=.inl ⟨rfl,none,0,rfl,Nat.zero_le _⟩
theorem slk_new {hs:List Hd}{u:Value}{w:World}{q:Nat}(h:SlK hdC 2 w u hs)(hq:w.heap.size<=q):FarV hs u q none:=by
 intro h0 b off n c e
 rcases h with ⟨h1,_⟩ | ⟨_,b2,off2,cap,hv,_,_,h4,_⟩
 ·exact absurd h1 h0
 ·rw [hv] at e
  injection e with e1 _ _
  injection e1 with e1
  injection e1 with e1
  exact ⟨by omega,by simp⟩
theorem FarE.new {x:Ee}{w:World}{q:Nat}(h:Rd w x.1 x.2)(hq:w.heap.size<=q):FarE x q none:=⟨slk_new h.va hq,slk_new h.hd hq⟩
theorem NewE.far {x:Ee}{N q:Nat}{o:Option Nat}(h:NewE x N)(hq:q<N)(ho:∀ b,o=some b->b<N):FarE x q o:=
 ⟨fun _ b off n c e=>⟨by have:=h.1 b off n c e;omega,fun e2=>by have:=h.1 b off n c e;have:=ho b e2;omega⟩,fun _ b off n c e=>⟨by have:=h.2 b off n c e;omega,fun e2=>by have:=h.2 b off n c e;have:=ho b e2;omega⟩⟩
theorem rd_set {x:Ee}{w:World}(h:Rd w x.1 x.2)(p:Addr)(u:Value)(hf:FarE x p.block none):Rd (w.setCell p u) x.1 x.2:=
 h.row ((RowBut.refl w.heap.size p.block none w).setCell p (Or.inl rfl) u) lr hf
theorem ca_set {w:World}{jb B:Nat}{v:Value}{l:List Ee}(h:CaIn w jb B v l)(p:Addr)(x:Value)(h1:p.block≠jb)(h2:v.ownBlock≠some p.block)(h3:∀ y∈l,FarE y p.block none):CaIn (w.setCell p x) jb B v l:=
 ⟨h.at_.far p x h1,ownsRow_setCell_other (a:=p) h.own h2 x,h.ne,by rw [World.size_setCell];exact h.le,fun y hy=>rd_set (h.rd y hy) p x (h3 y hy),h.far⟩
theorem hown_lt {w:World}{b e s n:Nat}{v:Value}{xs:List Value}(h:w.ownsRow b e s v n xs):∀ g,v.ownBlock=some g->g<w.heap.size:=by
 intro g hg
 rcases h.2 with ⟨rfl,_⟩ | ⟨g',cap,cur,rfl,hb,hh,_⟩
 ·simp [Value.ownBlock] at hg
 ·simp only [Value.ownBlock,Option.some.injEq] at hg
  subst hg
  exact (Array.getElem?_eq_some_iff.1 hh).1
theorem cato_set {w W6 W7:World}{jb B Rb:Nat}{v:Value}{l l':List Ee}(hJ:CaIn w jb B v l)(hsub:∀ y∈l',y∈l)(hR:w.heap.size<=Rb)(hR6:Rb<W6.heap.size)
 (h:(∃ v',CaIn W7 jb B v' l'/\RowTo v v' W6.heap.size)/\RowBut w.heap.size jb v.ownBlock w W7) (o:Nat) (x:Value):(∃ v',CaIn (W7.setCell ⟨Rb,o,none⟩ x) jb B v' l'/\RowTo v v' W6.heap.size)/\RowBut w.heap.size jb v.ownBlock w (W7.setCell ⟨Rb,o,none⟩ x):=by
 obtain ⟨⟨v',h1,h2⟩,h3⟩:=h
 have hjl:=hJ.at_.lt
 refine ⟨⟨v',ca_set h1 ⟨Rb,o,none⟩ x (by show Rb≠jb;omega) (fun e=>?_) (fun y hy=>FarE.new (hJ.rd y (hsub y hy)) hR),h2⟩,h3.setCell ⟨Rb,o,none⟩ (Or.inr (Or.inr hR)) x⟩
 rcases h2 Rb e with h4 | h4
 ·have:=hown_lt hJ.own Rb h4;omega
 ·omega
theorem cato_fin {w W6 W7:World}{jb B Rb:Nat}{v:Value}{l l':List Ee}(hJ:CaIn w jb B v l)(hb:Below w.heap.size w W6)(h:CaTo W6 jb B v l' W7)(hsub:∀ y∈l',y∈l)(hR:w.heap.size<=Rb)(hR6:Rb<W6.heap.size)(x0 x1 x2 x3 x4 x5 x6 x7:Value):CaTo w jb B v l' (set8 W7 Rb x0 x1 x2 x3 x4 x5 x6 x7):=by
 have h0:(∃ v',CaIn W7 jb B v' l'/\RowTo v v' W6.heap.size)/\RowBut w.heap.size jb v.ownBlock w W7:=⟨h.1,((RowBut.refl w.heap.size jb v.ownBlock w).below hb lr).trans (h.2.mono hb.size)⟩
 have c:=fun (W:World) h (o:Nat) (x:Value)=>cato_set (W7:=W) (W6:=W6) hJ hsub hR hR6 h o x
 obtain ⟨⟨v',h1,h2⟩,h3⟩:=c _ (c _ (c _ (c _ (c _ (c _ (c _ (c _ h0 0 x0) 1 x1) 2 x2) 3 x3) 4 x4) 5 x5) 6 x6) 7 x7
 exact ⟨⟨v',h1,fun g e=>(h2 g e).imp id (fun h=>Nat.le_trans hb.size h)⟩,h3⟩
theorem rd_set8 {x:Ee}{w:World}{k:Nat}(h:Rd w x.1 x.2)(hf:FarE x k none)(x0 x1 x2 x3 x4 x5 x6 x7:Value):Rd (set8 w k x0 x1 x2 x3 x4 x5 x6 x7) x.1 x.2:=by
 have c:=fun (w:World) (h:Rd w x.1 x.2) (o:Nat) (u:Value)=>rd_set h ⟨k,o,none⟩ u hf
 exact c _ (c _ (c _ (c _ (c _ (c _ (c _ (c _ h 0 x0) 1 x1) 2 x2) 3 x3) 4 x4) 5 x5) 6 x6) 7 x7
theorem slk_set8 {hs:List Hd}{u:Value}{w:World}{k:Nat}(h:SlK hdC 2 w u hs)(hf:∀ b off n c,u = .slice (some ⟨b,off,none⟩) n c->b≠k)(x0 x1 x2 x3 x4 x5 x6 x7:Value):SlK hdC 2 (set8 w k x0 x1 x2 x3 x4 x5 x6 x7) u hs:=by
 have c:=fun (w:World) (h:SlK hdC 2 w u hs) (o:Nat) (x:Value)=>slk_cell h ⟨k,o,none⟩ x hf
 exact c _ (c _ (c _ (c _ (c _ (c _ (c _ (c _ h 0 x0) 1 x1) 2 x2) 3 x3) 4 x4) 5 x5) 6 x6) 7 x7
abbrev pl0:List Value:=[.int .i64 0,.string ⟨#[]⟩,.slice none 0 0,.int .i64 0,.slice none 0 0,.string ⟨#[]⟩,.int .i64 0,.slice none 0 0]
theorem ask_send {w W6:World}{jb B Rb:Nat}{v:Value}{l:List Ee}{tmps:Array Value}(hJ:CaIn w jb B v l)(hb:Below w.heap.size w W6)(hR:w.heap.size<=Rb)(A6:AtL W6 Rb pl0)(h2:tmps.getD 8 undef = .pointer (some ⟨Rb,0,none⟩)):
 bodyPost Tryz.prog Tryz.f169 (AskQ w jb B v 1 en0 [] l) .ret { tmps:=tmps,defers:=[] } (set8 W6 Rb (.int .i64 1) (.string ⟨#[]⟩) (.slice none 0 0) (.int .i64 0) (.slice none 0 0) (.string ⟨#[]⟩) (.int .i64 0) (.slice none 0 0)):=
 bodyPost_ret (ret8_run Tryz.results169 Tryz.sizeOf178 Tryz.isAgg178 _ _ Rb _ _ _ _ _ _ _ _ h2 (A6.set8 rfl _ _ _ _ _ _ _ _)) rfl
  ⟨⟨⟨#[]⟩,.slice none 0 0,0,.slice none 0 0,⟨#[]⟩,0⟩,.slice none 0 0,rfl,rd0 _,slk0 _,cato_fin hJ hb (CaTo.refl (hJ.below hb lr)) (fun _ h=>h) hR A6.lt _ _ _ _ _ _ _ _,⟨fun b off n k e=>(by cases e),fun b off n k e=>(by cases e)⟩,fun b off n k e=>(by cases e)⟩
theorem ask_no (jb B:Nat)(v:Value)(l:List Ee)(w:World)(hM:MaxAt w)(hJ:CaIn w jb B v l)(hz:∀ x∈l,HdSz x.2.va/\HdSz x.2.hd)(hl:l.length<=1000)(url:ByteArray)(rq:List Hd)(vr:Value)(hq:SlK hdC 2 w vr rq)(hzq:HdSz rq)(now R:Int)(hR:LastAt (fun x=>ansB x.2 url rq) l R)(D:Dir)(hD:dirL rq=D)(hno:R = -1\/D.ns=true):
 Calls Tryz.prog 169 #[.pointer (some ⟨jb,0,none⟩),.string url,vr,.int .i64 now] w (AskQ w jb B v 1 en0 [] l):=by
 obtain ⟨d1,d2,d3,d4⟩:=D
 have hjl:=hJ.at_.lt
 have R0:=AtL.new w pl0 178
 have hB0:Below w.heap.size w (w.alloc (.cells pl0.toArray 178)):=(Below.refl _ w).alloc lr _
 have J0:=hJ.below hB0 lr
 have q0:=hq.below hB0 lr
 have CF:=Lib.hid (find_is jb v l _ J0.at_ J0.reads (fun x hx=>⟨J0.rd x hx,(hz x hx).1⟩) hl url rq vr q0 hzq _ hR)
 have CD:=Lib.hid (fun (w:World) hM hv=>(dir_is rq vr w hM hv hzq ⟨d1,d2,d3,d4⟩ hD).mono fun e w' (h:e=Ending.returned (dirA ⟨d1,d2,d3,d4⟩)/\Below w.heap.size w w')=>(show e=Ending.returned (.agg #[.bool d1,.bool d2,.bool d3,.int .i64 d4])/\Below w.heap.size w w' from h))
 have HM:=Lib.hid hM
 have HQ:=Lib.hid hq
 have HJ:=Lib.hid hJ
 obtain ⟨sa,sc,rfl,_⟩:=hq.shape
 obtain ⟨ta,tc,hve,_⟩:=hJ.reads.shape
 have hRb:=hR.bd
 by_cases hR1:R = -1
 ·subst hR1
  clear hD hR hq hJ hno hz hM hRb
  go_enter Tryz.func169,Tryz.ntmps169
  go_wp2_with (first
   |
   (go_at_call 119;with_reducible refine CF.out.mono ?_;rintro e w1 ⟨rfl,hb1⟩;have hB1:=hB0.trans (hb1.mono hB0.size))
   | (go_at_call 230;with_reducible refine (CD.out _ (HM.out.below hB1 lr) (HQ.out.below hB1 lr)).mono ?_;rintro e w2 ⟨rfl,hb2⟩;have hB2:=hB1.trans (hb2.mono hB1.size);have hB3:=hB2.alloc hB2.size (.cells #[.bool d1,.bool d2,.bool d3,.int .i64 d4] 228);have R3:=((R0.next hb1).next hb2).alloc (.cells #[.bool d1,.bool d2,.bool d3,.int .i64 d4] 228);have rl3:=R3.lt;have r_:=R3.o8;have g_:=R3.of8)
   )
  exact ask_send HJ.out hB3 lr R3 rfl
 ·have hd1:d1=true:=hno.resolve_left hR1
  subst hd1
  obtain ⟨m,rfl⟩:∃ m:Nat,R=(m:Int):=⟨R.toNat,by omega⟩
  clear hD hR hq hJ hno hz hM hRb hR1
  go_enter Tryz.func169,Tryz.ntmps169
  go_wp2_with (first
   |
   (go_at_call 119;with_reducible refine CF.out.mono ?_;rintro e w1 ⟨rfl,hb1⟩;have hB1:=hB0.trans (hb1.mono hB0.size))
   | (go_at_call 230;with_reducible refine (CD.out _ (HM.out.below hB1 lr) (HQ.out.below hB1 lr)).mono ?_;rintro e w2 ⟨rfl,hb2⟩;have hB2:=hB1.trans (hb2.mono hB1.size);have hB3:=hB2.alloc hB2.size (.cells #[.bool true,.bool d2,.bool d3,.int .i64 d4] 228);have R3:=((R0.next hb1).next hb2).alloc (.cells #[.bool true,.bool d2,.bool d3,.int .i64 d4] 228);have rl3:=R3.lt;have r_:=R3.o8;have g_:=R3.of8)
   )
  exact ask_send HJ.out hB3 lr R3 rfl
end Go.Proofs.YtjdhaacmlpegoaaGreatDoor
