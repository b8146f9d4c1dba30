/- Part 26 of what the proof needs: JN JO. -/
import Derived.Test.YtjdhaacmlpegoaaGreatDoorP12
import Derived.Test.YtjdhaacmlpegoaaGreatDoorP25
import Derived.Test.YtjdhaacmlpegoaaGreatDoorP01
set_option maxRecDepth 20000
set_option maxHeartbeats 16000000
namespace Go.Proofs.YtjdhaacmlpegoaaGreatDoor
open Go.RowKit
set_option linter.unusedSimpArgs false
set_option linter.unusedVariables false
theorem keepg_snoc {α:Type}(l:List α)(p:α->Bool)(k:Nat)(h:k<l.length)(x:α)(hx:l[k]=x):(l.take (k+1)).filter p=(l.take k).filter p ++ if p x then [x] else []:=by
 subst hx
 rw [List.take_succ_eq_append_getElem h,List.filter_append]
 cases hq:p l[k] <;> simp [hq]
theorem run_append_none {P:Program}{w:World}(base:Nat)(t ty e:TypeId)(i:TypeInfo)(size:Nat)(ht:P.underlying t=some (.slice e))(hi:P.info? e=some i)
 (v:Value) (n:Nat) (xs:List Value) (hown:w.ownsRow base e size v n xs) (c:Nat):(Builtin.append_ #[t,t] ty #[v,.slice none 0 c]).run P w = .ok v w:=by
 rcases hown.2 with ⟨rfl,rfl⟩ | ⟨g,cap,cur,rfl,_,_,hnc,_⟩
 ·simp [Builtin.append_,run_underlying ht,sizeOf,typeInfo,hi,Builtin.lenOf,Builtin.firstCells]
 ·simp [Builtin.append_,run_underlying ht,sizeOf,typeInfo,hi,Builtin.lenOf,Builtin.firstCells,hnc,storeCells]
theorem hd_cells {w:World}{l:List Hd}{sa:Option Addr}{n c:Nat}(hv:SlK hdC 2 w (.slice sa n c) l)(hn:l.length=n):
 0<n->∃ b0 off:Nat,sa=some ⟨b0,off,none⟩/\b0<w.heap.size/\∀ kk (h:kk<l.length) j u,(hdC l[kk])[j]? = some u->w.cell? ⟨b0,off+kk * 2+j,none⟩=some u:=by
 intro h0
 rcases hv with ⟨rfl,_⟩ | ⟨_,b0,off,cap,he,hc1,hc2,hc3,hcell⟩
 ·simp at hn;omega
 ·injection he with e1 _ _
  exact ⟨b0,off,e1,hc3,hcell⟩
theorem hd_src {w:World}{l:List Hd}{sa:Option Addr}{c:Nat}(hv:SlK hdC 2 w (.slice sa l.length c) l):(sa=none/\l.length=0)\/∃ ad,sa=some ad/\∀ j u,(cellsK hdC l)[j]? = some u->w.cell? (ad.add j)=some u:=by
 by_cases h0:l.length=0
 ·cases sa with
  | none=>exact .inl ⟨rfl,h0⟩
  | some ad=>
    have:l=[]:=List.eq_nil_of_length_eq_zero h0
    subst this
    exact .inr ⟨ad,rfl,fun j u hu=>by simp [cellsK] at hu⟩
 ·obtain ⟨b0,off,rfl,_,hc⟩:=hd_cells hv rfl (by omega)
  refine .inr ⟨_,rfl,fun j u hu=>?_⟩
  obtain ⟨i,hi,q,rfl,hq⟩:=cellsK_inv hdC_len l j u hu
  rw [add_none,<-Nat.add_assoc]
  exact hc i hi q u hq
def hasH (hs:List Hd)(d:Hd):Bool:=(hdrL hs d.1.data.toList).isSome
def mergeL (old hs:List Hd):List Hd:=old.filter (fun d=>!hasH hs d) ++ hs
def sameH (h d:Hd):Bool:=lowL d.1.data.toList == lowL h.1.data.toList
theorem hasH_any (hs:List Hd)(d:Hd):hasH hs d=hs.any (fun h=>lowL h.1.data.toList == lowL d.1.data.toList):=by
 unfold hasH hdrL
 rw [Option.isSome_map,Bool.eq_iff_iff,List.find?_isSome,List.any_eq_true]
 rfl
theorem merge_again (old hs:List Hd)(h:Hd)(hh:hasH hs h=true):mergeL old (hs ++ [h])=mergeL old hs ++ [h]:=by
 unfold mergeL
 rw [<-List.append_assoc]
 congr 2
 refine List.filter_congr fun d _=>?_
 rw [hasH_any,hasH_any,List.any_append]
 cases hd:(lowL h.1.data.toList == lowL d.1.data.toList)
 ·simp [hd]
 ·have e:lowL h.1.data.toList=lowL d.1.data.toList:=by simpa using hd
  rw [hasH_any,e] at hh
  rw [hh];rfl
theorem merge_new (old hs:List Hd)(h:Hd)(hh:hasH hs h=false):mergeL old (hs ++ [h])=(mergeL old hs).filter (fun d=>!sameH h d) ++ [h]:=by
 unfold mergeL
 rw [List.filter_append,List.filter_filter,<-List.append_assoc]
 congr 1
 have h2:hs.filter (fun d=>!sameH h d)=hs:=by
  rw [List.filter_eq_self]
  intro d hd
  rw [hasH_any,List.any_eq_false] at hh
  have:=hh d hd
  unfold sameH
  simpa using this
 rw [h2]
 congr 1
 refine List.filter_congr fun d _=>?_
 rw [hasH_any,hasH_any,List.any_append]
 unfold sameH
 have e:(lowL h.1.data.toList == lowL d.1.data.toList)=(lowL d.1.data.toList == lowL h.1.data.toList):=BEq.comm
 simp only [List.any_cons,List.any_nil,Bool.or_false,Bool.not_or,e]
 exact Bool.and_comm _ _
theorem merge_step (old hs:List Hd)(k:Nat)(hk:k<hs.length)(h:Hd)(hh:hs[k]=h):mergeL old (hs.take (k+1))=(if hasH (hs.take k) h then mergeL old (hs.take k) else (mergeL old (hs.take k)).filter (fun d=>!sameH h d)) ++ [h]:=by
 rw [List.take_succ_eq_append_getElem hk,hh]
 cases hq:hasH (hs.take k) h with
 | true=>rw [merge_again _ _ _ hq];rfl
 | false=>rw [merge_new _ _ _ hq];rfl
theorem merge_mem (old hs:List Hd):∀ d∈mergeL old hs,d∈old\/d∈hs:=fun d hd=>by
 rcases List.mem_append.1 hd with h | h
 ·exact .inl (List.mem_filter.1 h).1
 ·exact .inr h
theorem merge_len (old hs:List Hd):(mergeL old hs).length<=old.length+hs.length:=by
 unfold mergeL
 rw [List.length_append]
 have:=List.length_filter_le (fun d=>!hasH hs d) old
 omega
theorem merge_nil (old:List Hd):mergeL old []=old:=by
 unfold mergeL
 rw [List.append_nil,List.filter_eq_self]
 intro d _
 rw [hasH_any];rfl
theorem two_mk {W w':World}{A B:Nat}{a b c d:Value}(h:AtL W A [a,b])(h2:AtL W B [c,d])(hb:Below W.heap.size W w'):w'.cell? ⟨A,0,none⟩=some a/\w'.cell? ⟨B,0,none⟩=some c:=
 ⟨(brl hb _ _ h.lt).trans (h.c 0 rfl),(brl hb _ _ h2.lt).trans (h2.c 0 rfl)⟩
theorem conf_clos (h d:Hd)(B:Nat)(W:World)(hA:AtL W B (hdC h))(hd:d.1.size<=100000)(hh:h.1.size<=100000)(R:Bool)(hR:sameH h d=R):
 Calls Tryz.prog 122 #[hdA d,.pointer (some ⟨B,0,none⟩)] W fun e W'=>e = .returned (.bool R)/\Below W.heap.size W W':=by
 obtain ⟨dn,dv⟩:=d
 obtain ⟨hn,hv⟩:=h
 have hd:dn.size<=100000:=hd
 have hh:hn.size<=100000:=hh
 have hR:(lowL dn.data.toList == lowL hn.data.toList)=R:=hR
 obtain ⟨X,hX⟩:∃ X,bs (lowL dn.data.toList)=X:=⟨_,rfl⟩
 obtain ⟨Y,hY⟩:∃ Y,bs (lowL hn.data.toList)=Y:=⟨_,rfl⟩
 have C1:=Lib.hid (fun w=>lowh_is dn X (by rw [<-hX];rfl) w (by omega))
 have C2:=Lib.hid (fun w=>lowh_is hn Y (by rw [<-hY];rfl) w (by omega))
 have hRR:(X.toList == Y.toList)=R:=by rw [<-hR,ByteArray.toList_eq,ByteArray.toList_eq,<-hX,<-hY];rfl
 have HR:=Lib.hid hRR
 have hb:=(Below.refl _ W).alloc lr (.cells (hdC (dn,dv)).toArray 70)
 have K0:=AtL.new W (hdC (dn,dv)) 70
 have A0:=hA.alloc (.cells (hdC (dn,dv)).toArray 70)
 clear hA hR hRR hX hY
 go_enter Tryz.func122,Tryz.ntmps122
 go_wp2_with fail
 obtain ⟨W1,hW1⟩:∃ W1:World,W.alloc (.cells (hdC (dn,dv)).toArray 70)=W1:=⟨_,rfl⟩
 obtain ⟨C,hC⟩:∃ C,W.heap.size=C:=⟨_,rfl⟩
 rw [hW1] at hb A0 K0
 rw [hC] at K0
 rw [hW1,hC]
 have HC:=Lib.hid hC
 clear hW1 hC
 have z0:=K0.c 0 rfl;have z1:=K0.c 1 rfl
 have y0:=A0.c 0 rfl;have y1:=A0.c 1 rfl
 have al:=A0.lt
 have kl:=K0.lt
 go_region_held3 (fun w'=>w'.cell? ⟨C,0,none⟩=some (.string dn)/\w'.cell? ⟨B,0,none⟩=some (.string hn)) (first | exact two_mk K0 A0 (Below.refl _ W1).drew | exact two_mk K0 A0 hb4 | exact two_mk K0 A0 hb5 | go_keep)
  (first
    | (go_at_call 40;(with_reducible refine (C1.out _).mono ?_);rintro e w4 ⟨rfl,hbb4⟩;have hb4:=(Below.refl _ W1).drew.trans hbb4)
    | (go_at_call 40;(with_reducible refine (C2.out _).mono ?_);rintro e w5 ⟨rfl,hbb5⟩;have hb5:=hb4.trans (hbb5.mono hb4.size)))
 go_wp2_with fail
 go_ret
 exact ⟨ret_bool HR.out,hb.trans (hb5.mono hb.size)⟩
def CopO (w:World)(x:Ee)(e:Ending)(w':World):Prop:=∃ (a b:Option Addr) (c d:Nat),e = .returned (.agg #[.string x.1.u,.slice a x.2.va.length c,.int .i64 x.1.st,.slice b x.2.hd.length d,.string x.1.bo,.int .i64 x.1.ti])/\w'.ownsRow w.heap.size 70 2 (.slice a x.2.va.length c) x.2.va.length (cellsK hdC x.2.va)/\w'.ownsRow w.heap.size 70 2 (.slice b x.2.hd.length d) x.2.hd.length (cellsK hdC x.2.hd)/\(∀ g,(Value.slice a x.2.va.length c).ownBlock=some g->(Value.slice b x.2.hd.length d).ownBlock≠some g)/\Below w.heap.size w w'
theorem own_cell {w:World}{b e s n k o:Nat}{v:Value}{xs:List Value}(h:w.ownsRow b e s v n xs)(hk:v.ownBlock≠some k)(x:Value):(w.setCell ⟨k,o,none⟩ x).ownsRow b e s v n xs:=ownsRow_setCell_other (a:=⟨k,o,none⟩) h hk x
theorem own_setE6 {w:World}{b e s n k:Nat}{v:Value}{xs:List Value}(h:w.ownsRow b e s v n xs)(hk:v.ownBlock≠some k)(x0 x1 x2 x3 x4 x5:Value):(setE6 w k x0 x1 x2 x3 x4 x5).ownsRow b e s v n xs:=
 own_cell (own_cell (own_cell (own_cell (own_cell (own_cell h hk x0) hk x1) hk x2) hk x3) hk x4) hk x5
theorem cop_own (x:Ee)(w:World)(hr:Rd w x.1 x.2)(h1:x.2.va.length<=1000000)(h2:x.2.hd.length<=1000000):Calls Tryz.prog 120 #[eeA x] w (CopO w x):=by
 obtain ⟨⟨u,vv,st,hh,bo,ti⟩,xe⟩:=x
 have hva:SlK hdC 2 w vv xe.va:=hr.va
 have hhd:SlK hdC 2 w hh xe.hd:=hr.hd
 have h1:xe.va.length<=1000000:=h1
 have h2:xe.hd.length<=1000000:=h2
 have C1:=Lib.hid (fun w hv=>clo_is xe.va vv w hv h1)
 have C2:=Lib.hid (fun w hv=>clo_is xe.hd hh w hv h2)
 have E0:=(AtL.new w (erC ⟨u,vv,st,hh,bo,ti⟩) 90).alloc (.cells [.string ⟨#[]⟩,.slice none 0 0,.int .i64 0,.slice none 0 0,.string ⟨#[]⟩,.int .i64 0].toArray 90)
 have R0:=AtL.new (w.alloc (.cells (erC ⟨u,vv,st,hh,bo,ti⟩).toArray 90)) [.string ⟨#[]⟩,.slice none 0 0,.int .i64 0,.slice none 0 0,.string ⟨#[]⟩,.int .i64 0] 90
 rw [show (w.alloc (.cells (erC ⟨u,vv,st,hh,bo,ti⟩).toArray 90)).heap.size=w.heap.size+1 by simp] at R0
 have hB0:Below w.heap.size w ((w.alloc (.cells (erC ⟨u,vv,st,hh,bo,ti⟩).toArray 90)).alloc (.cells [.string ⟨#[]⟩,.slice none 0 0,.int .i64 0,.slice none 0 0,.string ⟨#[]⟩,.int .i64 0].toArray 90)):=((Below.refl _ w).alloc lr _).alloc (by simp) _
 have hva0:=hva.below hB0 lr
 obtain ⟨ta,tc,rfl,_⟩:=hva.shape
 obtain ⟨ua,uc,rfl,_⟩:=hhd.shape
 have HHD:=Lib.hid hhd
 clear hva hhd hr
 go_enter Tryz.func120,Tryz.ntmps120
 go_wp2_with fail
 obtain ⟨W0,hW0⟩:∃ W0:World,(w.alloc (.cells (erC ⟨u,.slice ta xe.va.length tc,st,.slice ua xe.hd.length uc,bo,ti⟩).toArray 90)).alloc (.cells [.string ⟨#[]⟩,.slice none 0 0,.int .i64 0,.slice none 0 0,.string ⟨#[]⟩,.int .i64 0].toArray 90)=W0:=⟨_,rfl⟩
 obtain ⟨E,hE⟩:∃ E,w.heap.size=E:=⟨_,rfl⟩
 obtain ⟨R,hR⟩:∃ R,w.heap.size+1=R:=⟨_,rfl⟩
 have hER:E<R:=by omega
 rw [hW0] at E0 R0 hB0 hva0
 rw [hE] at E0 hB0
 rw [hR] at R0
 rw [hW0,hR,hE]
 have HE:=Lib.hid hE
 have hne:E≠R:=by omega
 clear hW0 hE hR
 have el0:=E0.lt
 have z0:=E0.c 0 rfl;have z1:=E0.c 1 rfl;have z2:=E0.c 2 rfl;have z3:=E0.c 3 rfl;have z4:=E0.c 4 rfl;have z5:=E0.c 5 rfl
 go_wp2_with (first
  | (go_at_call 69;refine (C1.out _ hva0).mono ?_;rintro e w1 hq;obtain ⟨v1,rfl,ho1,hb1⟩:=hq;obtain ⟨a1,k1,rfl,_,_,_⟩:=own_reads ho1;clear z0 z1 z2 z3 z4 z5;have E1:=E0.next hb1;have z1:=E1.c 1 rfl;have f1:=E1.f 1 rfl;have el1:=E1.lt;have E1s:=E1.set 1 (.slice a1 xe.va.length k1);have y_:=E1s.o6;have hB1:=hB0.trans (hb1.mono (Nat.le_of_lt el0)))
  | (go_at_call 69;refine (C2.out _ (HHD.out.below (hB1.setCell (p:=⟨E,1,none⟩) lr _) (Nat.le_of_eq HE.out))).mono ?_;rintro e w2 hq;obtain ⟨v2,rfl,ho2,hb2⟩:=hq;obtain ⟨a2,k2,rfl,_,_,_⟩:=own_reads ho2;clear y_;have hB2:=(hB1.setCell (p:=⟨E,1,none⟩) lr (.slice a1 xe.va.length k1)).trans (hb2.mono (by simp;have:=hB1.size;have:=HE.out;omega));have E2:=E1s.next hb2;have e3:=E2.c 3 rfl;have f3:=E2.f 3 rfl;have el2:=E2.lt;have E2s:=E2.set 3 (.slice a2 xe.hd.length k2);have x_:=E2s.o6;have R1:=((R0.next hb1).far ⟨E,1,none⟩ (.slice a1 xe.va.length k1) hne).next hb2;have R2:=R1.far ⟨E,3,none⟩ (.slice a2 xe.hd.length k2) hne;have r_:=R2.o6;have g_:=R2.of6;have rl:=R2.lt))
 have RF:=R2.setE6 rfl (.string u) (.slice a1 xe.va.length k1) (.int .i64 st) (.slice a2 xe.hd.length k2) (.string bo) (.int .i64 ti)
 have hBF:=below_setE6 (hB2.setCell (p:=⟨E,3,none⟩) lr (.slice a2 xe.hd.length k2)) (Nat.le_of_lt hER) (.string u) (.slice a1 xe.va.length k1) (.int .i64 st) (.slice a2 xe.hd.length k2) (.string bo) (.int .i64 ti)
 have hE1:E<W0.heap.size:=el0
 have hR1:R<W0.heap.size:=R0.lt
 have hw01:=hb1.size
 have hws:(w1.setCell ⟨E,1,none⟩ (.slice a1 xe.va.length k1)).heap.size=w1.heap.size:=World.size_setCell _ _ _
 have n1:∀ g,(Value.slice a1 xe.va.length k1).ownBlock=some g->W0.heap.size<=g/\g<w1.heap.size:=fun g e=>⟨own_base ho1 e,hown_lt ho1 g e⟩
 have n2:∀ g,(Value.slice a2 xe.hd.length k2).ownBlock=some g->w1.heap.size<=g:=fun g e=>by have:=own_base ho2 e;omega
 have n1E:(Value.slice a1 xe.va.length k1).ownBlock≠some E:=fun e=>by have:=n1 _ e;omega
 have n1R:(Value.slice a1 xe.va.length k1).ownBlock≠some R:=fun e=>by have:=n1 _ e;omega
 have n2E:(Value.slice a2 xe.hd.length k2).ownBlock≠some E:=fun e=>by have:=n2 _ e;omega
 have n2R:(Value.slice a2 xe.hd.length k2).ownBlock≠some R:=fun e=>by have:=n2 _ e;omega
 have s1:=own_below (own_cell (o:=1) ho1 n1E (.slice a1 xe.va.length k1)) hb2 lr
 have s1F:=own_setE6 (own_cell (o:=3) s1 n1E (.slice a2 xe.hd.length k2)) n1R (.string u) (.slice a1 xe.va.length k1) (.int .i64 st) (.slice a2 xe.hd.length k2) (.string bo) (.int .i64 ti)
 have s2F:=own_setE6 (own_cell (o:=3) ho2 n2E (.slice a2 xe.hd.length k2)) n2R (.string u) (.slice a1 xe.va.length k1) (.int .i64 st) (.slice a2 xe.hd.length k2) (.string bo) (.int .i64 ti)
 refine bodyPost_ret (ret6_run Tryz.results120 Tryz.sizeOf90 Tryz.isAgg90 _ _ R _ _ _ _ _ _ rfl RF) rfl ?_
 have hEE:=HE.out
 refine ⟨a1,a2,k1,k2,rfl,own_mono s1F (by omega),own_mono s2F (by rw [hws];omega),fun g e e2=>?_,by rw [hEE];exact hBF⟩
 have:=n1 _ e
 have:=n2 _ e2
 omega
theorem ret6t_run {P:Program}{fn:Func}{q T r:Nat}(hr:fn.results = #[.cell q T,.tmp r])(hz:∀ w,(Go.sizeOf T).run P w = .ok 6 w)(ha:∀ w,(isAgg T).run P w = .ok true w)(tmps:Array Value)(W:World)(k:Nat)(a b c d e f x:Value)(h2:tmps.getD q undef = .pointer (some ⟨k,0,none⟩))(h3:tmps.getD r undef=x)(hA:AtL W k [a,b,c,d,e,f]):
 (results fn tmps).run P W = .ok (.tuple #[.agg #[a,b,c,d,e,f],x]) W:=by
 have c0:=hA.c 0 rfl
 have c1:=hA.c 1 rfl
 have c2:=hA.c 2 rfl
 have c3:=hA.c 3 rfl
 have c4:=hA.c 4 rfl
 have c5:=hA.c 5 rfl
 rw [Array.getD_eq_getD_getElem?] at h2 h3
 simp [results,hr,h2,h3,go_sem,hz,ha,c0,c1,c2,c3,c4,c5]
theorem CaIn.put {w:World}{jb B g n cap:Nat}{l:List Ee}(h:CaIn w jb B (.slice (some ⟨g,0,none⟩) n cap) l)(hl:l.length=n)(i:Nat)(hi:i<n)(y:Ee)(hy:Rd w y.1 y.2)(hf:FarE y jb (some g)):
 CaIn (eeput w g (i * 6) y) jb B (.slice (some ⟨g,0,none⟩) n cap) (l.set i y)/\RowBut w.heap.size jb (some g) w (eeput w g (i * 6) y):=by
 have hgj:g≠jb:=fun e=>h.ne (by rw [e];rfl)
 have hb:BelowBut w.heap.size g w (eeput w g (i * 6) y):=by rw [eeput_eq];exact BelowBut.setCells _ _ _ (BelowBut.refl _ _ _)
 have hr:RowBut w.heap.size jb (some g) w (eeput w g (i * 6) y):=hb.toRow jb
 have ho:=eeown_put hl (own_eq h.own hl rfl) i hi y
 refine ⟨⟨h.at_.but hb h.at_.lt (fun e=>hgj e.symm),own_eq ho (by rw [List.length_set,hl]) rfl,h.ne,Nat.le_trans h.le hb.size,fun x hx=>?_,fun x hx=>?_⟩,hr⟩
 ·rcases List.mem_or_eq_of_mem_set hx with h1 | h1
  ·exact (h.rd x h1).row hr lr (h.far x h1)
  ·rw [h1];exact hy.row hr lr hf
 ·rcases List.mem_or_eq_of_mem_set hx with h1 | h1
  ·exact h.far x h1
  ·rw [h1];exact hf
theorem cato_fin6 {w W6 W7:World}{jb B Rb:Nat}{v:Value}{l l':List Ee}(hJ:CaIn w jb B v l)(hb:Below w.heap.size w W6)(h:CaTo W6 jb B v l' W7)(hfar:∀ y∈l',FarE y Rb none)(hR:w.heap.size<=Rb)(hR6:Rb<W6.heap.size)(x0 x1 x2 x3 x4 x5:Value):CaTo w jb B v l' (setE6 W7 Rb x0 x1 x2 x3 x4 x5):=by
 have hjl:=hJ.at_.lt
 obtain ⟨⟨v',h1,h2⟩,h3⟩:=h
 have h3':RowBut w.heap.size jb v.ownBlock w W7:=((RowBut.refl w.heap.size jb v.ownBlock w).below hb lr).trans (h3.mono hb.size)
 have hvo:v'.ownBlock≠some Rb:=fun e=>by
  rcases h2 Rb e with h4 | h4
  ·have:=hown_lt hJ.own Rb h4;omega
  ·omega
 have c:=fun (W:World) (h:CaIn W jb B v' l'/\RowBut w.heap.size jb v.ownBlock w W) (o:Nat) (x:Value)=>(show CaIn (W.setCell ⟨Rb,o,none⟩ x) jb B v' l'/\RowBut w.heap.size jb v.ownBlock w (W.setCell ⟨Rb,o,none⟩ x) from ⟨ca_set h.1 ⟨Rb,o,none⟩ x (by show Rb≠jb;omega) hvo hfar,h.2.setCell ⟨Rb,o,none⟩ (Or.inr (Or.inr hR)) x⟩)
 obtain ⟨h6,h7⟩:=c _ (c _ (c _ (c _ (c _ (c _ ⟨h1,h3'⟩ 0 x0) 1 x1) 2 x2) 3 x3) 4 x4) 5 x5
 exact ⟨⟨v',h6,fun g e=>(h2 g e).imp id (fun h=>Nat.le_trans hb.size h)⟩,h7⟩
end Go.Proofs.YtjdhaacmlpegoaaGreatDoor
