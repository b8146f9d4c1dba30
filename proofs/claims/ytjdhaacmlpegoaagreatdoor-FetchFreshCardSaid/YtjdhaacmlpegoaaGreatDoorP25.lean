/- Part 25 of what the proof needs: HT HU JE0. -/
import Derived.Test.YtjdhaacmlpegoaaGreatDoorP24
import Derived.Test.YtjdhaacmlpegoaaGreatDoorP23
import Derived.Test.YtjdhaacmlpegoaaGreatDoorP01
set_option maxRecDepth 20000
set_option maxHeartbeats 16000000
namespace Go.Proofs.YtjdhaacmlpegoaaGreatDoor
open Go.RowKit
set_option linter.unusedSimpArgs false
set_option linter.unusedVariables false
theorem RowBut.lowB {w w':World}{jb B E s n:Nat}{v:Value}{xs:List Value}(h:RowBut w.heap.size jb v.ownBlock w w')(hown:w.ownsRow B E s v n xs)(hjB:B<=jb)(hBw:B<=w.heap.size):Below B w w':=
 ⟨h.os,h.tape,h.output,h.size,fun k hk=>h.block k (by omega) (by omega) (fun e=>by have:=own_base hown e;omega)⟩
theorem MaxAt.low {w w':World}{B:Nat}(h:MaxAt w)(hb:Below B w w')(hG:0<B):MaxAt w':=by
 obtain ⟨m,hm⟩:=h
 exact ⟨m,(hb.cell (p:=⟨0,0,none⟩) hG).trans hm⟩
theorem put1_is (x:Ee)(url:ByteArray)(rq:List Hd)(vr:Value)(C D:Nat)(W:World)(hU:AtL W C [.string url])(hQ:AtL W D [vr])(hr:Rd W x.1 x.2)(hv:SlK hdC 2 W vr rq)(hz:HdSz rq)(hy:HdSz x.2.va):
 Calls Tryz.prog 191 #[eeA x,.pointer (some ⟨C,0,none⟩),.pointer (some ⟨D,0,none⟩)] W fun e W'=>e = .returned (.bool (ansB x.2 url rq))/\Below W.heap.size W W':=by
 obtain ⟨R,hR⟩:∃ R,ansB x.2 url rq=R:=⟨_,rfl⟩
 rw [hR]
 have hal:=(Below.refl _ W).alloc lr (.cells (eeC x).toArray 90)
 have A0:=AtL.new W (eeC x) 90
 have CA:=Lib.hid (ans_is x url rq vr _ (hr.below hal lr) (hv.below hal lr) hz hy R hR)
 have U1:=hU.next hal
 have Q1:=hQ.next hal
 obtain ⟨sa,sc,rfl,_⟩:=hv.shape
 obtain ⟨⟨a1,n1,k1,e1⟩,a2,n2,k2,e2⟩:=hr.shp
 obtain ⟨⟨u,vv,st,hh,bo,ti⟩,xe⟩:=x
 have e1:vv = .slice a1 n1 k1:=e1
 have e2:hh = .slice a2 n2 k2:=e2
 subst e1 e2
 have c0:=U1.c 0 rfl
 have q0:=Q1.c 0 rfl
 have cl:=U1.lt
 have ql:=Q1.lt
 have hcl:=hU.lt
 have hql:=hQ.lt
 have u0:=hU.c 0 rfl
 have v0:=hQ.c 0 rfl
 clear hR hv hr hz hy hU hQ U1 Q1
 go_enter Tryz.func191,Tryz.ntmps191
 go_wp2_with (go_at_call 183;with_reducible refine CA.out.mono ?_;rintro e w1 ⟨rfl,hb1⟩)
 go_ret
 exact ⟨rfl,hal.trans (hb1.mono hal.size)⟩
abbrev keepL (l:List Ee)(url:ByteArray)(rq:List Hd):List Ee:=l.filter (fun x=>!ansB x.2 url rq)
theorem put_no (jb B:Nat)(v:Value)(l:List Ee)(w:World)(hM:MaxAt w)(hG:0<B)(hjB:B<=jb)(hJ:CaIn w jb B v l)(hz:∀ x∈l,HdSz x.2.va)(hl:l.length<=1000)(url:ByteArray)(rq hs:List Hd)(vr vh:Value)(hq:SlK hdC 2 w vr rq)(hh:SlK hdC 2 w vh hs)(hzq:HdSz rq)(hzh:HdSz hs)(hfq:FarV rq vr jb v.ownBlock)(hfh:FarV hs vh jb v.ownBlock)(st:Int)(body:ByteArray)(now:Int)(hS:storL st rq hs=false):
 Calls Tryz.prog 130 #[.pointer (some ⟨jb,0,none⟩),.string url,vr,.int .i64 st,vh,.string body,.int .i64 now] w fun e w'=>e = .returned (.bool false)/\CaTo w jb B v (keepL l url rq) w':=by
 have hjl:=hJ.at_.lt
 have hB0:Below w.heap.size w ((w.alloc (.cells [.string url].toArray 9)).alloc (.cells [vr].toArray 28)):=((Below.refl _ w).alloc lr _).alloc (by simp) _
 have U0:=(AtL.new w [.string url] 9).alloc (.cells [vr].toArray 28)
 have Q0:=AtL.new (w.alloc (.cells [.string url].toArray 9)) [vr] 28
 rw [show (w.alloc (.cells [.string url].toArray 9)).heap.size=w.heap.size+1 by simp] at Q0
 have J0:=hJ.below hB0 lr
 have q0:=hq.below hB0 lr
 have ho:=hown_lt hJ.own
 have CDel:=Lib.hid (eedel (fun x=>ansB x.2 url rq) 191 #[.pointer (some ⟨w.heap.size,0,none⟩),.pointer (some ⟨w.heap.size+1,0,none⟩)] (enters_of Tryz.func191 (by kernel_rfl) rfl) l v _ B (fun x hx=>(J0.rd x hx).shp) J0.own
  (fun W d hd hr=>put1_is d url rq vr _ _ W (U0.row (hr jb) U0.lt (by omega) (fun e=>by have:=ho _ e;omega)) (Q0.row (hr jb) Q0.lt (by omega) (fun e=>by have:=ho _ e;omega)) ((J0.rd d hd).row (hr jb) lr (J0.far d hd)) (slk_row q0 (hr jb) lr hfq) hzq (hz d hd)) (by omega))
 have h0:=hh.below hB0 lr
 have M0:=hM.below hB0 lr
 have j0:=J0.at_.c 0 rfl
 have CS:=Lib.hid (fun w hM hv hw=>stor_is st rq hs vr vh w hM hv hw hzq hzh _ hS)
 have HJ:=Lib.hid hJ
 have HJ0:=Lib.hid J0
 have HQ0:=Lib.hid q0
 have HH0:=Lib.hid h0
 have HM0:=Lib.hid M0
 have HFQ:=Lib.hid hfq
 have HFH:=Lib.hid hfh
 obtain ⟨sa,sc,rfl,_⟩:=hq.shape
 obtain ⟨sb,sd,rfl,_⟩:=hh.shape
 obtain ⟨ta,tc,hve,_⟩:=hJ.reads.shape
 subst hve
 have hjne:jb≠jb+1:=by omega
 clear hq hh hM hJ hS J0 q0 h0 M0 hz hzq hfq hfh
 go_enter Tryz.func130,Tryz.ntmps130
 go_wp2_with (first
  | (go_at_call 190; refine CDel.out.mono ?_; rintro e w1 hq1; obtain ⟨a1, c1, rfl, hown1, hob1, hr1⟩ := delq_open hq1; clear hq1; have hrj := hr1 jb; have RI := HJ0.out.row.less hown1 (fun y hy => (List.mem_filter.1 hy).1) hrj hob1; have J1 := HJ0.out.at_.row (hr1 (jb + 1)) HJ0.out.at_.lt (by omega) HJ0.out.ne; have j1 := J1.c 0 rfl; have f1 := J1.f 0 rfl; have jl1 := J1.lt; have RS := RI.store J1; have hb3 := (hrj.lowB HJ0.out.own hjB HJ0.out.le).setCell (p := ⟨jb, 0, none⟩) hjB (.slice a1 (keepL l url rq).length c1); have M3 := HM0.out.low hb3 hG; have q3 := slk_far (x := .slice a1 (keepL l url rq).length c1) (slk_row HQ0.out hrj lr HFQ.out) HFQ.out; have h3 := slk_far (x := .slice a1 (keepL l url rq).length c1) (slk_row HH0.out hrj lr HFH.out) HFH.out; have U3 := (U0.row hrj U0.lt (by omega) (fun e => by have := ho _ e; omega)).far ⟨jb, 0, none⟩ (.slice a1 (keepL l url rq).length c1) (by show jb ≠ w.heap.size; omega); have Q3 := (Q0.row hrj Q0.lt (by omega) (fun e => by have := ho _ e; omega)).far ⟨jb, 0, none⟩ (.slice a1 (keepL l url rq).length c1) (by show jb ≠ w.heap.size + 1; omega); have qc3 := Q3.c 0 rfl; have ql3 := Q3.lt; have hR3 : RowBut w.heap.size jb (Value.slice ta l.length tc).ownBlock w (w1.setCell ⟨jb, 0, none⟩ (.slice a1 (keepL l url rq).length c1)) := (((RowBut.refl w.heap.size jb (Value.slice ta l.length tc).ownBlock w).below hB0 lr).trans (hrj.mono hB0.size)).setCell ⟨jb, 0, none⟩ (Or.inl rfl) _; have hT3 : RowTo (.slice ta l.length tc) (.slice a1 (keepL l url rq).length c1) w.heap.size := fun g e => .inl (by rw [← hob1]; exact e); clear j0)
    | (go_at_call 192;with_reducible refine (CS.out _ M3 q3 h3).mono ?_;rintro e w4 ⟨rfl,hb4⟩)
  )
 go_ret
 exact ⟨rfl,CaTo.below ⟨⟨_,RS,hT3⟩,hR3⟩ hb4⟩
def vstep (rq:List Hd)(va:List Hd)(w:List UInt8):List Hd:=if va.any (fun d=>d.1.data.toList == lowL w) then va else va ++ [(bs (lowL w),valL rq (lowL w))]
def varyE (rq hs:List Hd):List Hd:=(varyL hs).foldl (vstep rq) []
theorem put2_is (T:ByteArray)(d:Hd)(N:Nat)(W:World)(hA:AtL W N [.string T]):
 Calls Tryz.prog 195 #[hdA d,.pointer (some ⟨N,0,none⟩)] W fun e W'=>e = .returned (.bool (d.1.toList == T.toList))/\Below W.heap.size W W':=by
 obtain ⟨yn,yv⟩:=d
 have a0:=hA.c 0 rfl
 have al:=hA.lt
 go_enter Tryz.func195,Tryz.ntmps195
 go_wp2
 go_ret
 exact ⟨rfl,(Below.refl _ W).alloc lr _⟩
abbrev setE6 (W:World)(k:Nat)(a b c d e f:Value):World:=(((((W.setCell ⟨k,0,none⟩ a).setCell ⟨k,1,none⟩ b).setCell ⟨k,2,none⟩ c).setCell ⟨k,3,none⟩ d).setCell ⟨k,4,none⟩ e).setCell ⟨k,5,none⟩ f
theorem AtL.setE6 {W:World}{k:Nat}{vs:List Value}(hv:AtL W k vs)(hl:vs.length=6)(a b c d e f:Value):AtL (setE6 W k a b c d e f) k [a,b,c,d,e,f]:=by
 match vs,hl with
 | [_,_,_,_,_,_],_=>exact (((((hv.set 0 a).set 1 b).set 2 c).set 3 d).set 4 e).set 5 f
theorem below_setE6 {B k:Nat}{w W:World}(h:Below B w W)(hk:B<=k)(a b c d e f:Value):Below B w (setE6 W k a b c d e f):=
 (((((h.setCell (p:=⟨k,0,none⟩) hk a).setCell (p:=⟨k,1,none⟩) hk b).setCell (p:=⟨k,2,none⟩) hk c).setCell (p:=⟨k,3,none⟩) hk d).setCell (p:=⟨k,4,none⟩) hk e).setCell (p:=⟨k,5,none⟩) hk f
theorem slk_setE6 {hs:List Hd}{u:Value}{w:World}{k:Nat}(h:SlK hdC 2 w u hs)(hf:FarV hs u k none)(x0 x1 x2 x3 x4 x5:Value):SlK hdC 2 (setE6 w k x0 x1 x2 x3 x4 x5) u hs:=
 slk_row h ((((((( RowBut.refl w.heap.size k none w).setCell ⟨k,0,none⟩ (Or.inl rfl) x0).setCell ⟨k,1,none⟩ (Or.inl rfl) x1).setCell ⟨k,2,none⟩ (Or.inl rfl) x2).setCell ⟨k,3,none⟩ (Or.inl rfl) x3).setCell ⟨k,4,none⟩ (Or.inl rfl) x4).setCell ⟨k,5,none⟩ (Or.inl rfl) x5) lr hf
theorem c_setE6 {w:World}{k b o:Nat}{u:Value}(h:w.cell? ⟨b,o,none⟩=some u)(hk:k≠b)(x0 x1 x2 x3 x4 x5:Value):(setE6 w k x0 x1 x2 x3 x4 x5).cell? ⟨b,o,none⟩=some u:=by
 have c:=fun (w:World) (h:w.cell? ⟨b,o,none⟩=some u) (i:Nat) (x:Value)=>(World.cell?_setCell_far w ⟨k,i,none⟩ ⟨b,o,none⟩ x hk).trans h
 exact c _ (c _ (c _ (c _ (c _ (c _ h 0 x0) 1 x1) 2 x2) 3 x3) 4 x4) 5 x5
theorem RowTo.grown {v v':Value}{jb:Nat}{w w4 w':World}(h:RowTo v v' w.heap.size)(hr:RowBut w.heap.size jb v.ownBlock w w4)(hg:w4.grownBy w' v'.ownBlock)(hn:w.heap.size<=w4.heap.size):RowBut w.heap.size jb v.ownBlock w w':=
 ⟨hg.os.trans hr.os,hg.tape.trans hr.tape,hg.output.trans hr.output,Nat.le_trans hr.size hg.size,fun k hk h1 h2=>(hg.block k (by omega) (fun e=>by
  rcases h k e.symm with h3 | h3
  ·exact h2 h3
  ·omega)).trans (hr.block k hk h1 h2)⟩
def NewAt (w4:World)(url:ByteArray)(st:Int)(body:ByteArray)(now:Int)(hs:List Hd)(c:Value)(w5:World):Prop:=
 ∃ (E:Nat) (ha:Option Addr) (hc:Nat),.pointer (some ⟨E,0,none⟩)=c/\AtL w5 E [.string url,.slice none 0 0,.int .i64 st,.slice ha hs.length hc,.string body,.int .i64 now]/\SlK hdC 2 w5 (.slice ha hs.length hc) hs/\(∀ b off n k,Value.slice ha hs.length hc = .slice (some ⟨b,off,none⟩) n k->w4.heap.size<=b)/\FarV hs (.slice ha hs.length hc) E none/\w4.heap.size<=E/\Below w4.heap.size w4 w5
abbrev zE:List Value:=[.string ⟨#[]⟩,.slice none 0 0,.int .i64 0,.slice none 0 0,.string ⟨#[]⟩,.int .i64 0]
theorem newat_a {w4 w5:World}{url:ByteArray}{st:Int}{body:ByteArray}{now:Int}{hs:List Hd}{ha:Option Addr}{hc:Nat}(hs5:SlK hdC 2 w5 (.slice ha hs.length hc) hs)(hb5:Below (w4.alloc (.cells zE.toArray 90)).drew.heap.size (w4.alloc (.cells zE.toArray 90)).drew w5)(hn5:∀ b off n k,Value.slice ha hs.length hc = .slice (some ⟨b,off,none⟩) n k->(w4.alloc (.cells zE.toArray 90)).drew.heap.size<=b):
 NewAt w4 url st body now hs (.pointer (some ⟨w4.heap.size,0,none⟩)) (setE6 w5 w4.heap.size (.string url) (.slice none 0 0) (.int .i64 st) (.slice ha hs.length hc) (.string body) (.int .i64 now)):=by
 have hsz:(w4.alloc (.cells zE.toArray 90)).drew.heap.size=w4.heap.size+1:=by simp
 have hA:=(AtL.new w4 zE 90).drew.next hb5
 have hb:Below w4.heap.size w4 w5:=((Below.refl _ w4).alloc lr _).drew.trans (hb5.mono (by rw [hsz];omega))
 have hf:FarV hs (.slice ha hs.length hc) w4.heap.size none:=fun _ b off n k e=>⟨by have:=hn5 b off n k e;omega,by simp⟩
 exact ⟨_,ha,hc,rfl,hA.setE6 rfl _ _ _ _ _ _,slk_setE6 hs5 hf _ _ _ _ _ _,fun b off n k e=>by have:=hn5 b off n k e;omega,hf,lr,below_setE6 hb lr _ _ _ _ _ _⟩
theorem newat_b {w4 w5:World}{url:ByteArray}{st:Int}{body:ByteArray}{now:Int}{hs:List Hd}{ha:Option Addr}{hc:Nat}(hs5:SlK hdC 2 w5 (.slice ha hs.length hc) hs)(hb5:Below w4.drew.heap.size w4.drew w5)(hn5:∀ b off n k,Value.slice ha hs.length hc = .slice (some ⟨b,off,none⟩) n k->w4.drew.heap.size<=b):
 NewAt w4 url st body now hs (.pointer (some ⟨w5.heap.size,0,none⟩)) (w5.alloc (.cells #[.string url,.slice none 0 0,.int .i64 st,.slice ha hs.length hc,.string body,.int .i64 now] 90)):=by
 have hA:=AtL.new w5 [.string url,.slice none 0 0,.int .i64 st,.slice ha hs.length hc,.string body,.int .i64 now] 90
 have hb:Below w4.heap.size w4 w5:=(Below.refl _ w4).drew.trans hb5
 have hf:FarV hs (.slice ha hs.length hc) w5.heap.size none:=slk_new hs5 lr
 have hal:Below w5.heap.size w5 (w5.alloc (.cells #[.string url,.slice none 0 0,.int .i64 st,.slice ha hs.length hc,.string body,.int .i64 now] 90)):=(Below.refl _ w5).alloc lr _
 exact ⟨_,ha,hc,rfl,hA,hs5.below hal lr,hn5,hf,hb.size,hb.trans (hal.mono hb.size)⟩
theorem put_yes (jb B:Nat)(v:Value)(l:List Ee)(w:World)(hM:MaxAt w)(hG:0<B)(hjB:B<=jb)(hJ:CaIn w jb B v l)(hz:∀ x∈l,HdSz x.2.va)(hl:l.length<=1000)(url:ByteArray)(rq hs:List Hd)(vr vh:Value)(hq:SlK hdC 2 w vr rq)(hh:SlK hdC 2 w vh hs)(hzq:HdSz rq)(hzh:HdSz hs)(hfq:FarV rq vr jb v.ownBlock)(hfh:FarV hs vh jb v.ownBlock)(st:Int)(body:ByteArray)(now:Int)(hS:storL st rq hs=true):
 Calls Tryz.prog 130 #[.pointer (some ⟨jb,0,none⟩),.string url,vr,.int .i64 st,vh,.string body,.int .i64 now] w fun e w'=>e = .returned (.bool true)/\∃ r:Er,CaTo w jb B v (keepL l url rq ++ [(r,⟨url,varyE rq hs,st,hs,body,now⟩)]) w'/\NewE (r,⟨url,varyE rq hs,st,hs,body,now⟩) w.heap.size:=by
 have CCl:=Lib.hid (fun (w:World) hv=>clo_is hs vh w hv hzh.1)
 obtain ⟨L,hL⟩:∃ L,varyL hs=L:=⟨_,rfl⟩
 have CV:=Lib.hid (fun w hM hv=>vary_is hs vh w hM hv hzh L hL)
 have CH:=Lib.hid (fun (w:World) (T:ByteArray) (hT:T.size<=100000) (hv:SlK hdC 2 w vr rq)=>hdr_at rq vr T w hv hzq hT (valL rq T.data.toList) _ rfl rfl)
 have HL:=Lib.hid hL
 clear hL
 have hjl:=hJ.at_.lt
 have hB0:Below w.heap.size w ((w.alloc (.cells [.string url].toArray 9)).alloc (.cells [vr].toArray 28)):=((Below.refl _ w).alloc lr _).alloc (by simp) _
 have U0:=(AtL.new w [.string url] 9).alloc (.cells [vr].toArray 28)
 have Q0:=AtL.new (w.alloc (.cells [.string url].toArray 9)) [vr] 28
 rw [show (w.alloc (.cells [.string url].toArray 9)).heap.size=w.heap.size+1 by simp] at Q0
 have J0:=hJ.below hB0 lr
 have q0:=hq.below hB0 lr
 have ho:=hown_lt hJ.own
 have CDel:=Lib.hid (eedel (fun x=>ansB x.2 url rq) 191 #[.pointer (some ⟨w.heap.size,0,none⟩),.pointer (some ⟨w.heap.size+1,0,none⟩)] (enters_of Tryz.func191 (by kernel_rfl) rfl) l v _ B (fun x hx=>(J0.rd x hx).shp) J0.own
  (fun W d hd hr=>put1_is d url rq vr _ _ W (U0.row (hr jb) U0.lt (by omega) (fun e=>by have:=ho _ e;omega)) (Q0.row (hr jb) Q0.lt (by omega) (fun e=>by have:=ho _ e;omega)) ((J0.rd d hd).row (hr jb) lr (J0.far d hd)) (slk_row q0 (hr jb) lr hfq) hzq (hz d hd)) (by omega))
 have h0:=hh.below hB0 lr
 have M0:=hM.below hB0 lr
 have j0:=J0.at_.c 0 rfl
 have CS:=Lib.hid (fun w hM hv hw=>stor_is st rq hs vr vh w hM hv hw hzq hzh _ hS)
 have HJ:=Lib.hid hJ
 have HJ0:=Lib.hid J0
 have HQ0:=Lib.hid q0
 have HH0:=Lib.hid h0
 have HM0:=Lib.hid M0
 have HFQ:=Lib.hid hfq
 have HFH:=Lib.hid hfh
 obtain ⟨sa,sc,rfl,_⟩:=hq.shape
 obtain ⟨sb,sd,rfl,_⟩:=hh.shape
 obtain ⟨ta,tc,hve,_⟩:=hJ.reads.shape
 subst hve
 have hjne:jb≠jb+1:=by omega
 clear hq hh hM hJ hS J0 q0 h0 M0 hz hzq hfq hfh
 go_enter Tryz.func130,Tryz.ntmps130
 go_upto_region 4 with (first
  | (go_at_call 190; refine CDel.out.mono ?_; rintro e w1 hq1; obtain ⟨a1, c1, rfl, hown1, hob1, hr1⟩ := delq_open hq1; clear hq1; have hrj := hr1 jb; have RI := HJ0.out.row.less hown1 (fun y hy => (List.mem_filter.1 hy).1) hrj hob1; have J1 := HJ0.out.at_.row (hr1 (jb + 1)) HJ0.out.at_.lt (by omega) HJ0.out.ne; have j1 := J1.c 0 rfl; have f1 := J1.f 0 rfl; have jl1 := J1.lt; have RS := RI.store J1; have hb3 := (hrj.lowB HJ0.out.own hjB HJ0.out.le).setCell (p := ⟨jb, 0, none⟩) hjB (.slice a1 (keepL l url rq).length c1); have M3 := HM0.out.low hb3 hG; have q3 := slk_far (x := .slice a1 (keepL l url rq).length c1) (slk_row HQ0.out hrj lr HFQ.out) HFQ.out; have h3 := slk_far (x := .slice a1 (keepL l url rq).length c1) (slk_row HH0.out hrj lr HFH.out) HFH.out; have U3 := (U0.row hrj U0.lt (by omega) (fun e => by have := ho _ e; omega)).far ⟨jb, 0, none⟩ (.slice a1 (keepL l url rq).length c1) (by show jb ≠ w.heap.size; omega); have Q3 := (Q0.row hrj Q0.lt (by omega) (fun e => by have := ho _ e; omega)).far ⟨jb, 0, none⟩ (.slice a1 (keepL l url rq).length c1) (by show jb ≠ w.heap.size + 1; omega); have qc3 := Q3.c 0 rfl; have ql3 := Q3.lt; have hR3 : RowBut w.heap.size jb (Value.slice ta l.length tc).ownBlock w (w1.setCell ⟨jb, 0, none⟩ (.slice a1 (keepL l url rq).length c1)) := (((RowBut.refl w.heap.size jb (Value.slice ta l.length tc).ownBlock w).below hB0 lr).trans (hrj.mono hB0.size)).setCell ⟨jb, 0, none⟩ (Or.inl rfl) _; have hT3 : RowTo (.slice ta l.length tc) (.slice a1 (keepL l url rq).length c1) w.heap.size := fun g e => .inl (by rw [← hob1]; exact e); clear j0)
    | (go_at_call 192;with_reducible refine (CS.out _ M3 q3 h3).mono ?_;rintro e w4 ⟨rfl,hb4⟩)
  )
 obtain ⟨w3,hw3⟩:∃ w3:World,w1.setCell ⟨jb,0,none⟩ (.slice a1 (keepL l url rq).length c1)=w3:=⟨_,rfl⟩
 rw [hw3] at hb4 RS M3 q3 h3 U3 Q3 hR3
 have M4:=M3.below hb4 lr
 have q4:=q3.below hb4 lr
 have h4:=h3.below hb4 lr
 have U4:=U3.next hb4
 have Q4:=Q3.next hb4
 have RS4:=RS.below hb4 lr
 have hR4:=hR3.below hb4 (by have:=hR3.size;omega)
 obtain ⟨C,hC⟩:∃ C,w.heap.size=C:=⟨_,rfl⟩
 obtain ⟨D,hD⟩:∃ D,w.heap.size+1=D:=⟨_,rfl⟩
 have hgC:w.heap.size=C:=hC
 rw [hC] at U4
 rw [hD] at Q4
 rw [hD,hC]
 have HCC:=Lib.hid hC
 have HDD:=Lib.hid hD
 have uc:=U4.c 0 rfl
 have ul:=U4.lt
 have h4d:=h4.below (Below.refl _ w4).drew lr
 have h4a:=(h4.below ((Below.refl _ w4).alloc lr (.cells zE.toArray 90)) lr).below (Below.refl _ (w4.alloc (.cells zE.toArray 90))).drew lr
 clear hC hD hgC hw3
 go_cut [15] from 35 to 41 (fun c15 w5=>NewAt w4 url st body now hs c15 w5)
 case first=>
  have hC4:w4.heap.size≠C:=by omega
  go_region_held3 (fun w'=>w'.cell? ⟨C,0,none⟩=some (.string url)) (first | with_reducible exact U4.drew.c 0 rfl | with_reducible exact (U4.alloc _).drew.c 0 rfl | with_reducible exact uc5 | with_reducible exact (U5.alloc _).c 0 rfl | exact c_setE6 uc5 hC4 _ _ _ _ _ _ | exact c_setE6 ((U5.alloc _).c 0 rfl) hC5 _ _ _ _ _ _)
   (first
     | (go_at_call 69;(with_reducible refine (CCl.out w4.drew h4d).mono ?_);rintro e w5 hq5;obtain ⟨ha,hc,rfl,hs5,hb5,hn5⟩:=cloq_open hq5;have U5:=U4.drew.next hb5;have uc5:=U5.c 0 rfl;have hC5:w5.heap.size≠C:=(by have:=U5.lt;omega);have HN:=Lib.hid (newat_b (url:=url) (st:=st) (body:=body) (now:=now) hs5 hb5 hn5))
     | (go_at_call 69;(with_reducible refine (CCl.out (w4.alloc (.cells zE.toArray 90)).drew h4a).mono ?_);rintro e w5 hq5;obtain ⟨ha,hc,rfl,hs5,hb5,hn5⟩:=cloq_open hq5;have U5:=(U4.alloc _).drew.next hb5;have uc5:=U5.c 0 rfl;have hC5:w5.heap.size≠C:=(by have:=U5.lt;omega);have HN:=Lib.hid (newat_a (url:=url) (st:=st) (body:=body) (now:=now) hs5 hb5 hn5);have EA:=(AtL.new w4 zE 90).drew.next hb5;have z0:=EA.c 0 rfl;have z1:=EA.c 1 rfl;have z2:=EA.c 2 rfl;have z3:=EA.c 3 rfl;have z4:=EA.c 4 rfl;have z5:=EA.c 5 rfl;have f0:=EA.f 0 rfl;have f1:=EA.f 1 rfl;have f2:=EA.f 2 rfl;have f3:=EA.f 3 rfl;have f4:=EA.f 4 rfl;have f5:=EA.f 5 rfl;have eal:=EA.lt))
  all_goals
   go_wp2_with fail
   go_meet
   case rel=>exact HN.out
 case rest=>
  obtain ⟨E,ha,hc,rfl,AE,hsE,hnE,hfE,hE4,hb5⟩:=hcut
  have hvz:=hdr_size hs [118,97,114,121] hzh
  obtain ⟨VV,hVV⟩:∃ VV,(hdrL hs [118,97,114,121]).getD ⟨#[]⟩=VV:=⟨_,rfl⟩
  rw [hVV] at hvz
  have hLV:wordsL VV.data.toList=L:=by rw [<-hVV];exact HL.out
  go_wp2_with (go_at_call 193;with_reducible refine (CV.out _ (M4.below hb5 lr) (h4.below hb5 lr)).mono ?_;rintro e w6 hq6;obtain ⟨ps,pa,pc,rfl,hownw,hps,hb6⟩:=wordsq_open hq6;clear hq6)
  have hpz:∀ p∈ps,p.size<=100000:=fun p hp=>by
   have:=words_size VV.data.toList p.data.toList (by rw [hLV,<-hps];exact List.mem_map_of_mem hp)
   rw [size_len,size_len] at this
   omega
  have hpl:ps.length<=100001:=by
   have h1:(wordsL VV.data.toList).length<=VV.size+1:=by
    unfold wordsL
    refine Nat.le_trans (List.length_filter_le _ _) ?_
    rw [List.length_map]
    have:=segs_count 44 VV.data.toList
    rwa [size_len] at this
   rw [hLV,<-hps] at h1
   simp [lists] at h1
   omega
  have HPS:=Lib.hid hps
  have HPZ:=Lib.hid hpz
  have A6:=AE.next hb6
  have hEl:=A6.lt
  have hE5:=AE.lt
  have hb46:=hb5.trans (hb6.mono hb5.size)
  have q6:=q4.below hb46 lr
  have Q6:=Q4.next hb46
  have RS6:=RS4.below hb46 lr
  have sE6:=hsE.below hb6 lr
  obtain ⟨_,_,hve,hlc,hlm,hra⟩:=own_reads hownw
  injection hve with e1 _ e3
  subst e1 e3
  have HRA:=Lib.hid hra
  have hDE:D≠E:=by have:=Q4.lt;omega
  have hDl:=Q6.lt
  have HBK:=Lib.hid hb46
  have HQ4:=Lib.hid q4
  have HRS4:=Lib.hid RS4
  clear hps hpz hra hVV hLV hb46 q4 h4 U4 Q4 RS4 hsE AE
  go_loopw [45] (fun iv wr=>∃ (k:Nat) (va:List Hd) (u:Value),k<=ps.length/\iv = .int .i64 k/\va.length<=k/\Hid (va=((lists ps).take k).foldl (vstep rq) [])/\AtL wr E [.string url,u,.int .i64 st,.slice ha hs.length hc,.string body,.int .i64 now]/\wr.ownsRow w6.heap.size 70 2 u va.length (cellsK hdC va)/\BelowBut w6.heap.size E w6 wr) (fun iv _=>ps.length - (intOf iv).toNat)
  case atStart=>exact ⟨0,[],_,Nat.zero_le _,rfl,lr,Lib.hid rfl,A6,World.ownsRow_nil _ _ _ _,BelowBut.refl _ _ _⟩
  case round=>
   obtain ⟨k,va,u,hk,rfl,hvk,HV,AW,hown,hbb⟩:=hrel
   have hwz:=hbb.size
   by_cases hlt:k<ps.length
   ·have hki:(k:Int)<(ps.length:Int):=by omega
    have hk0:(0:Int)<=(k:Int):=by omega
    rcases HRA.out with ⟨_,h0⟩ | ⟨gw,rfl,hgB,hgw,hcg⟩
    ·omega
    have c0:=(hbb.cell (p:=⟨gw,k,none⟩) hgw (by show gw≠E;omega)).trans (hcg k (.string ps[k]) (by simp [strsV,hlt]))
    have hx:=HPZ.out _ (List.getElem_mem hlt)
    have hfs:=fold_step (vstep rq) [] (lists ps) k (by simpa [lists] using hlt) ps[k].data.toList (by simp [lists]) va HV.out.symm
    obtain ⟨x,hxe⟩:∃ x,ps[k]=x:=⟨_,rfl⟩
    rw [hxe] at c0 hx hfs
    obtain ⟨T,hT⟩:∃ T,bs (lowL x.data.toList)=T:=⟨_,rfl⟩
    have hTl:T.data.toList=lowL x.data.toList:=by rw [<-hT];rfl
    have hTz:T.size<=100000:=by rw [<-hT,low_size];exact hx
    have CLo:=Lib.hid (fun w=>lowh_is x T hTl w (by omega))
    obtain ⟨ua,uc,rfl,_,_,_⟩:=own_reads hown
    have hst:vstep rq va x.data.toList=if va.any (fun d=>d.1.toList == T.toList) then va else va ++ [(T,valL rq T.data.toList)]:=by
     unfold vstep
     have e:(fun d:Hd=>d.1.data.toList == lowL x.data.toList)=(fun d:Hd=>d.1.toList == T.toList):=by
      funext d
      rw [ByteArray.toList_eq,ByteArray.toList_eq,hTl]
     rw [e,hT,hTl]
    rw [hst] at hfs
    obtain ⟨R,hR⟩:∃ R,va.any (fun d=>d.1.toList == T.toList)=R:=⟨_,rfl⟩
    have CCo:=Lib.hid (fun (W:World) (N:Nat) (hA:AtL W N [.string T]) (hv:SlK hdC 2 W (.slice ua va.length uc) va)=>hdcont (fun d=>d.1.toList == T.toList) 195 #[.pointer (some ⟨N,0,none⟩)] (enters_of Tryz.func195 (by kernel_rfl) rfl) va _ W hv (fun W' d hd hb=>put2_is T d N W' (hA.next hb)) (by omega) R hR)
    rw [hR] at hfs
    have hgl:gw<wr.heap.size:=Nat.lt_of_lt_of_le hgw hwz
    have hElr:E<wr.heap.size:=AW.lt
    obtain ⟨V,hV⟩:∃ V,valL rq T.data.toList=V:=⟨_,rfl⟩
    rw [hV] at hfs
    have CHe:=Lib.hid (fun (w:World) (hv:SlK hdC 2 w (.slice sa rq.length sc) rq)=>by have:=CH.out w T hTz hv;rw [hV] at this;exact this)
    have HQ6:=Lib.hid Q6
    cases R with
    | true=>
      rw [if_pos rfl] at hfs
      have HFS:=Lib.hid hfs
      clear hfs hst hR hT hTl hxe hcg hV
      go_wp2_with (first
       | (go_at_call 40;with_reducible refine (CLo.out _).mono ?_;rintro e w7 ⟨rfl,hb7⟩;have A8:=(AW.next hb7).alloc (.cells #[.string T] 9);have N8:=AtL.new w7 [.string T] 9;have o8:=(own_below hown hb7 lr).alloc (.cells #[.string T] 9);have hb8:=(but_below hbb hb7 hwz).alloc (Nat.le_trans hwz hb7.size) (.cells #[.string T] 9);have z1:=A8.c 1 rfl;have al8:=A8.lt)
       | (go_at_call 194;refine (CCo.out _ _ N8 (SlK.of_own hdC_len o8)).mono ?_;rintro e w9 ⟨rfl,hb9⟩))
      go_roundw
      case rel=>exact ⟨k+1,va,_,by omega,by go_num,by omega,Lib.hid HFS.out.symm,A8.next hb9,own_below o8 hb9 lr,but_below hb8 hb9 hb8.size⟩
      case measure=>simp [intOf];omega
    | false=>
      rw [if_neg (by simp)] at hfs
      have HFS:=Lib.hid hfs
      clear hfs hst hR hT hTl hxe hcg hV
      go_wp2_with (first
       | (go_at_call 40;with_reducible refine (CLo.out _).mono ?_;rintro e w7 ⟨rfl,hb7⟩;have A8:=(AW.next hb7).alloc (.cells #[.string T] 9);have N8:=AtL.new w7 [.string T] 9;have o8:=(own_below hown hb7 lr).alloc (.cells #[.string T] 9);have hb8:=(but_below hbb hb7 hwz).alloc (Nat.le_trans hwz hb7.size) (.cells #[.string T] 9);have z1:=A8.c 1 rfl;have al8:=A8.lt)
       | (go_at_call 194;refine (CCo.out _ _ N8 (SlK.of_own hdC_len o8)).mono ?_;rintro e w9 ⟨rfl,hb9⟩;have A9:=A8.next hb9;have N9:=N8.next hb9;have o9:=own_below o8 hb9 lr;have hb99:=but_below hb8 hb9 hb8.size;have q9:=SlK.below HQ4.out (BelowBut.to_below hb99 HBK.out HBK.out.size hE4) lr;have D9:=HQ6.out.but hb99 hDl hDE;have dc9:=D9.c 0 rfl;have dl9:=D9.lt;have nc9:=N9.c 0 rfl;have nl9:=N9.lt;clear z1)
       | (go_at_call 15;with_reducible refine (CHe.out _ q9).mono ?_;rintro e w10 ⟨rfl,hb10⟩;have A10:=A9.next hb10;have o10:=own_below o9 hb10 lr;have hb101:=but_below hb99 hb10 hb99.size;have z1:=A10.c 1 rfl;have al10:=A10.lt;have N10:=N9.next hb10;have nc10:=N10.c 0 rfl;have nl10:=N10.lt;have hz10:=hb101.size)
       | (refine app2 slH _ (by rfl) (.tmp 63) (.tmp 67) (by rfl) w6.heap.size _ _ _ (by rfl) o10 [_,_] 1 _ (by rfl) rfl (by rfl) (by intro u hu;simp at hu;rcases hu with rfl | rfl <;> rfl) (by decide) (by omega) (by omega) hz10 ?_;intro v11 w11 o11 g11 f11;obtain ⟨ub,uk,rfl,_,_,_⟩:=own_reads o11;have A11:=A10.grown g11 (fun e=>by have:=own_base o10 e;omega);have z1:=A11.c 1 rfl;have y1:=A11.f 1 rfl;have al11:=A11.lt))
      go_roundw
      case rel=>exact ⟨k+1,va ++ [(T,V)],_,by omega,by go_num,by simp;omega,Lib.hid HFS.out.symm,A11.set 1 _,own_eq (ownsRow_setCell_other (a:=⟨E,1,none⟩) o11 (by intro e;have h1:w6.heap.size<=E:=own_base o11 e;omega) _) (by simp) (by rw [cellsK_app];rfl),(hb101.grown o10 g11 hz10).setCell ⟨E,1,none⟩ (Or.inl rfl) _⟩
      case measure=>simp [intOf];omega
   ·obtain rfl:k=ps.length:=by omega
    have hVV:va=varyE rq hs:=by
     rw [HV.out];unfold varyE;rw [HL.out,<-HPS.out,List.take_of_length_le (by simp [lists])]
    have HVV:=Lib.hid hVV
    have hb4r:=BelowBut.to_below hbb HBK.out HBK.out.size hE4
    have RSr:=HRS4.out.below hb4r lr
    have hRr:=hR4.below hb4r hR4.size
    have sEr:SlK hdC 2 wr (.slice ha hs.length hc) hs:=slk_row (jb:=E) (o:=none) sE6 ⟨hbb.os,hbb.tape,hbb.output,hbb.size,fun k hk h1 _=>hbb.block k hk h1⟩ lr hfE
    obtain ⟨ua,uc,rfl,_,_,hub⟩:=own_reads hown
    have hKl:(keepL l url rq).length<=1000:=Nat.le_trans (List.length_filter_le _ _) hl
    have hjr:=RSr.at_.lt
    have hj4:=HRS4.out.at_.lt
    have ha4:=hown_lt HRS4.out.own
    have hfx:FarE (⟨url,.slice ua va.length uc,st,.slice ha hs.length hc,body,now⟩,⟨url,va,st,hs,body,now⟩) jb (Value.slice a1 (keepL l url rq).length c1).ownBlock:=by
     refine ⟨fun _ b off n c e=>?_,fun _ b off n c e=>?_⟩
     ·rcases hub with ⟨h1,_⟩ | ⟨gu,h1,h2,_⟩
      ·have e:Value.slice ua va.length uc = .slice (some ⟨b,off,none⟩) n c:=e
       rw [h1] at e;cases e
      ·have e:Value.slice ua va.length uc = .slice (some ⟨b,off,none⟩) n c:=e
       rw [h1] at e
       injection e with e1 _ _
       injection e1 with e1
       injection e1 with e1
       subst e1
       have:=HBK.out.size
       exact ⟨by omega,fun e2=>by have:=ha4 _ e2;omega⟩
     ·have:=hnE b off n c e
      exact ⟨by omega,fun e2=>by have:=ha4 _ e2;omega⟩
    have hnx:NewE (⟨url,.slice ua va.length uc,st,.slice ha hs.length hc,body,now⟩,⟨url,va,st,hs,body,now⟩) w.heap.size:=by
     have hws4:=hR4.size
     have:=HBK.out.size
     refine ⟨fun b off n c e=>?_,fun b off n c e=>by have:=hnE b off n c e;omega⟩
     have e:Value.slice ua va.length uc = .slice (some ⟨b,off,none⟩) n c:=e
     rcases hub with ⟨h1,_⟩ | ⟨gu,h1,h2,_⟩
     ·rw [h1] at e;cases e
     ·rw [h1] at e
      injection e with e1 _ _
      injection e1 with e1
      injection e1 with e1
      omega
    have HNX:=Lib.hid hnx
    have hrx:Rd wr (⟨url,.slice ua va.length uc,st,.slice ha hs.length hc,body,now⟩:Er) ⟨url,va,st,hs,body,now⟩:=⟨rfl,rfl,rfl,rfl,SlK.of_own hdC_len hown,sEr⟩
    have HFX:=Lib.hid hfx
    have HRX:=Lib.hid hrx
    have HONE:=Lib.hid (one6 (⟨url,.slice ua va.length uc,st,.slice ha hs.length hc,body,now⟩,⟨url,va,st,hs,body,now⟩) ⟨⟨_,_,_,rfl⟩,⟨_,_,_,rfl⟩⟩)
    have HRS:=Lib.hid RSr
    have HRR:=Lib.hid hRr
    have hjE:jb≠E:=by omega
    have j0:=RSr.at_.c 0 rfl
    have f0:=RSr.at_.f 0 rfl
    have hBr:=RSr.le
    have hgj:=RSr.ne
    have hwr:=HRR.out.size
    have z0:=AW.c 0 rfl;have z1:=AW.c 1 rfl;have z2:=AW.c 2 rfl;have z3:=AW.c 3 rfl;have z4:=AW.c 4 rfl;have z5:=AW.c 5 rfl
    have awl:=AW.lt
    have hal1:=(Below.refl _ wr).alloc lr (.cells (eeC (⟨url,.slice ua va.length uc,st,.slice ha hs.length hc,body,now⟩,⟨url,va,st,hs,body,now⟩)).toArray 90)
    have R9:=(RSr.row.al (.cells (eeC (⟨url,.slice ua va.length uc,st,.slice ha hs.length hc,body,now⟩,⟨url,va,st,hs,body,now⟩)).toArray 90)).dr
    have X9:Rd (wr.alloc (.cells (eeC (⟨url,.slice ua va.length uc,st,.slice ha hs.length hc,body,now⟩,⟨url,va,st,hs,body,now⟩)).toArray 90)).drew (⟨url,.slice ua va.length uc,st,.slice ha hs.length hc,body,now⟩:Er) ⟨url,va,st,hs,body,now⟩:=hrx.below hal1.drew lr
    have J9:=(RSr.at_.alloc (.cells (eeC (⟨url,.slice ua va.length uc,st,.slice ha hs.length hc,body,now⟩,⟨url,va,st,hs,body,now⟩)).toArray 90)).drew
    have B9:RowBut w.heap.size jb (Value.slice ta l.length tc).ownBlock w (wr.alloc (.cells (eeC (⟨url,.slice ua va.length uc,st,.slice ha hs.length hc,body,now⟩,⟨url,va,st,hs,body,now⟩)).toArray 90)).drew:=hRr.below hal1.drew hwr
    have hs9:B<=(wr.alloc (.cells (eeC (⟨url,.slice ua va.length uc,st,.slice ha hs.length hc,body,now⟩,⟨url,va,st,hs,body,now⟩)).toArray 90)).drew.heap.size:=by simp;omega
    have hk9:jb<(wr.alloc (.cells (eeC (⟨url,.slice ua va.length uc,st,.slice ha hs.length hc,body,now⟩,⟨url,va,st,hs,body,now⟩)).toArray 90)).drew.heap.size:=by simp;omega
    have hw9:w.heap.size<=(wr.alloc (.cells (eeC (⟨url,.slice ua va.length uc,st,.slice ha hs.length hc,body,now⟩,⟨url,va,st,hs,body,now⟩)).toArray 90)).drew.heap.size:=by simp;omega
    have HR9:=Lib.hid R9
    have HX9:=Lib.hid X9
    have HJ9:=Lib.hid J9
    have HB9:=Lib.hid B9
    have HS9:=Lib.hid hs9
    have HK9:=Lib.hid hk9
    have HW9:=Lib.hid hw9
    have HT3:=Lib.hid hT3
    clear hVV RSr hRr sEr hub hfx hrx hnx ha4 hgj HV R9 X9 J9 B9 hal1 hs9 hk9 hw9 hT3
    go_wp2_with fail
    go_region_law (first
     | (refine step_appG slE (wr.alloc (.cells (eeC (⟨url,.slice ua va.length uc,st,.slice ha hs.length hc,body,now⟩,⟨url,va,st,hs,body,now⟩)).toArray 90)).drew (by rfl) (.tmp 75) (.tmp 77) (by rfl) B _ (keepL l url rq).length (cellsK eeC (keepL l url rq)) (by rfl) HR9.out.own (eeC (⟨url,.slice ua va.length uc,st,.slice ha hs.length hc,body,now⟩,⟨url,va,st,hs,body,now⟩)) 1 wr.heap.size (by rfl) (AtL.new wr (eeC (⟨url,.slice ua va.length uc,st,.slice ha hs.length hc,body,now⟩,⟨url,va,st,hs,body,now⟩)) 90).drew rfl HONE.out (by decide) (by omega) (by omega) HS9.out ?_;intro g5 cap5 w8 hown8 hgrow hat hlt8;have F8:=RowIn.app HR9.out HX9.out HFX.out HK9.out rfl hown8 hgrow hat;have J8:=HJ9.out.grown hgrow HR9.out.ne;have t8:=J8.c 0 rfl;have s8:=J8.f 0 rfl;have jl8:=J8.lt;have B8:=HT3.out.grown HB9.out hgrow HW9.out))
    all_goals
     go_wp2_with fail
     go_ret
     refine ⟨rfl,⟨url,.slice ua va.length uc,st,.slice ha hs.length hc,body,now⟩,?_⟩
     rw [<-HVV.out]
     refine ⟨⟨⟨_,F8.1.store J8,fun g' e=>?_⟩,B8.setCell ⟨jb,0,none⟩ (Or.inl rfl) _⟩,HNX.out⟩
     rcases F8.2 g' e with h1 | h1
     ·exact HT3.out g' h1
     ·exact .inr (Nat.le_trans HW9.out h1)
abbrev keepE (es:List En)(url:ByteArray)(rq:List Hd):List En:=es.filter (fun x=>!ansB x url rq)
theorem map_filter_en (l:List Ee)(es:List En)(h:l.map (·.2)=es)(p:En->Bool):(l.filter (fun x=>p x.2)).map (·.2)=es.filter p:=by
 subst h
 rw [List.filter_map]
 rfl
abbrev putEs (es:List En)(url:ByteArray)(rq:List Hd)(st:Int)(hs:List Hd)(body:ByteArray)(now:Int)(S:Bool):List En:=keepE es url rq ++ (if S then [⟨url,varyE rq hs,st,hs,body,now⟩] else [])
theorem varyE_len (rq hs:List Hd)(hz:HdSz hs):(varyE rq hs).length<=1000000:=by
 have h1:∀ (L:List (List UInt8)) (va:List Hd),(L.foldl (vstep rq) va).length<=va.length+L.length:=by
  intro L
  induction L with
  | nil=>intro va;simp
  | cons x L ih=>
    intro va
    have h:=ih (vstep rq va x)
    have h2:(vstep rq va x).length<=va.length+1:=by unfold vstep;split <;> simp
    simp only [List.foldl_cons,List.length_cons]
    omega
 have h2:(varyL hs).length<=100001:=by
  unfold varyL wordsL
  refine Nat.le_trans (List.length_filter_le _ _) ?_
  rw [List.length_map]
  have h3:=segs_count 44 ((hdrL hs [118,97,114,121]).getD ⟨#[]⟩).data.toList
  rw [size_len] at h3
  have h4:=hdr_size hs [118,97,114,121] hz
  omega
 have:=h1 (varyL hs) []
 unfold varyE
 simp at this
 omega
theorem HdSz.vary {rq hs:List Hd}(hq:HdSz rq)(hh:HdSz hs):HdSz (varyE rq hs):=by
 refine ⟨varyE_len rq hs hh,?_⟩
 have h0:∀ p∈varyL hs,p.length<=100000:=fun p hp=>by
  have h1:=words_size ((hdrL hs [118,97,114,121]).getD ⟨#[]⟩).data.toList p hp
  rw [size_len] at h1
  have:=hdr_size hs [118,97,114,121] hh
  omega
 have:∀ (L:List (List UInt8)) (va:List Hd),(∀ p∈L,p.length<=100000)->(∀ d∈va,d.1.size<=100000/\d.2.size<=100000)->∀ d∈L.foldl (vstep rq) va,d.1.size<=100000/\d.2.size<=100000:=by
  intro L
  induction L with
  | nil=>intro va _ h;exact h
  | cons x L ih=>
    intro va hL hva
    refine ih _ (fun p hp=>hL p (List.mem_cons_of_mem _ hp)) (fun d hd=>?_)
    unfold vstep at hd
    split at hd
    ·exact hva d hd
    ·rcases List.mem_append.1 hd with h1 | h1
     ·exact hva d h1
     ·obtain rfl:=List.mem_singleton.1 h1
      refine ⟨?_,hdr_size rq _ hq⟩
      have h2:=hL x List.mem_cons_self
      have h3:(bs (lowL x)).size=x.length:=by
       rw [<-size_len]
       show (lowL x).length=_
       simp [lowL]
      show (bs (lowL x)).size<=100000
      omega
 exact this _ [] h0 (fun d hd=>by cases hd)
end Go.Proofs.YtjdhaacmlpegoaaGreatDoor
