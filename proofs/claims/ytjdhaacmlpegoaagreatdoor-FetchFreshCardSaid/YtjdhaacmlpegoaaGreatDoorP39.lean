/- Part 39 of what the proof needs: YK. -/
import Derived.Test.YtjdhaacmlpegoaaGreatDoorP16
import Derived.Test.YtjdhaacmlpegoaaGreatDoorP38
import Derived.Test.YtjdhaacmlpegoaaGreatDoorP01
set_option maxRecDepth 20000
set_option maxHeartbeats 16000000
namespace Go.Proofs.YtjdhaacmlpegoaaGreatDoor
open Go.RowKit
set_option linter.unusedSimpArgs false
set_option linter.unusedVariables false
abbrev opC (r:Value × Op4):List Value:=[.int .u8 r.2.k,.int .i64 r.2.st,r.1,.string r.2.bo]
theorem opC_len (r:Value × Op4):(opC r).length=4:=rfl
def ckB4 (c:Ck):Bool:=decide (c.n.size+c.v.size+c.d.size+c.p.size<=300)
def enB4 (e:En):Bool:=attrB44 e.hd && (attrB44 e.va && (decide (e.bo.size<=500) && decide (e.u.size<=300)))
def opB4 (o:Op4):Bool:=attrB44 o.hs && decide (o.bo.size<=500)
def few4 (J:List Ck)(nx:Int)(es:List En)(qh:List Hd)(ur og qb:ByteArray)(ops:List Op4):Bool:=
 decide (J.length<=8/\es.length<=8/\0<=nx/\nx<=1125899906842624/\ops.length<=20) && (attrB44 qh && (decide (ur.size+og.size+qb.size<=400) && (J.all ckB4 && (es.all enB4 && ops.all opB4))))
theorem slk_at {α:Type}{enc:α->List Value}{k:Nat}{w:World}{v:Value}{l:List α}(h:SlK enc k w v l):0<l.length->∃ b0 off cap:Nat,v = .slice (some ⟨b0,off,none⟩) l.length cap/\b0<w.heap.size/\∀ kk (h:kk<l.length) j u,(enc l[kk])[j]? = some u->w.cell? ⟨b0,off+kk * k+j,none⟩=some u:=by
 intro h0
 rcases h with ⟨rfl,_⟩ | ⟨_,b0,off,cap,he,hc1,hc2,hc3,hcell⟩
 ·simp at h0
 ·exact ⟨b0,off,cap,he,hc3,hcell⟩
theorem slk_len {α:Type}{enc:α->List Value}{k:Nat}{w:World}{v:Value}{l:List α}(h:SlK enc k w v l):l.length<=9223372036854775807:=by
 rcases h with ⟨rfl,_⟩ | ⟨_,b0,off,cap,he,hc1,hc2,hc3,hcell⟩
 ·exact Nat.zero_le _
 ·unfold maxLen at hc2;omega
abbrev mx47:Nat:=140737488355328
theorem slk_nil4 {α:Type}{enc:α->List Value}{k:Nat}(w:World):SlK enc k w (.slice none 0 0) []:=.inl ⟨rfl,none,0,rfl,Nat.zero_le _⟩
structure WIn (w:World)(vj:Value)(J:List Ck)(vc:Value)(lx:List Ee):Prop where
 j:SlK ckL 9 w vj J
 c:SlK eeC 6 w vc lx
 r:∀ x∈lx,Rd w x.1 x.2
 zj:∀ c∈J,c.n.size<=mx47/\c.v.size<=mx47/\c.d.size<=mx47/\c.p.size<=mx47
 zc:∀ x∈lx,WtH x.2.va/\WtH x.2.hd
structure QIn (w:World)(ur og:ByteArray)(vq:Value)(qh:List Hd)(qb:ByteArray):Prop where
 q:SlK hdC 2 w vq qh
 z:WtH qh
 z1:ur.size<=mx47
 z2:og.size<=mx47
 z3:qb.size<=mx47
structure OIn (w:World)(vo:Value)(lo:List (Value × Op4)):Prop where
 o:SlK opC 4 w vo lo
 h:∀ x∈lo,SlK hdC 2 w x.1 x.2.hs
 z:∀ x∈lo,WtH x.2.hs
theorem OIn.nil (w:World):OIn w (.slice none 0 0) []:=⟨slk_nil4 w,fun x hx=>(by cases hx),fun x hx=>(by cases hx)⟩
structure FewOk (J:List Ck)(nx:Int)(es:List En)(qh:List Hd)(ur og qb:ByteArray)(ops:List Op4):Prop where
 j:JOk J
 n1:0<=nx
 n2:nx<=1125899906842624
 c:COk 20 100 es
 q:∀ (tk:Int) (me:ByteArray) (mo:Int) (ck:Bool),SOk (newS tk me ur og mo qh qb ck)
 o:∀ o∈ops,OpOk o
 l:ops.length<=20
theorem attr_hok {l:List Hd}(h:attrB44 l=true):HOk 8 l/\∀ x∈l,x.1.size+x.2.size<=300:=by
 unfold attrB44 at h
 rw [Bool.and_eq_true,List.all_eq_true,decide_eq_true_eq] at h
 have h1:∀ x∈l,x.1.size+x.2.size<=300:=fun x hx=>of_decide_eq_true (h.1 x hx)
 exact ⟨⟨h.2,fun x hx=>by have:=h1 x hx;exact ⟨by omega,by omega,fun _=>by omega⟩⟩,h1⟩
theorem few4_ok {J:List Ck}{nx:Int}{es:List En}{qh:List Hd}{ur og qb:ByteArray}{ops:List Op4}(h:few4 J nx es qh ur og qb ops=true):FewOk J nx es qh ur og qb ops:=by
 unfold few4 at h
 simp only [Bool.and_eq_true,decide_eq_true_eq,List.all_eq_true] at h
 obtain ⟨⟨h1,h2,h3,h4,h5⟩,h6,h7,h8,h9,h10⟩:=h
 have ha:=attr_hok h6
 refine ⟨⟨by omega,fun c hc=>?_⟩,h3,h4,⟨by omega,fun e he=>?_⟩,fun tk me mo ck=>newS_ok (by have:=ha.1.len;omega) (fun x hx=>by have:=ha.2 x hx;omega) (by omega) (by omega),fun o ho=>?_,h5⟩
 ·have:=h8 c hc
  unfold ckB4 at this
  rw [decide_eq_true_eq] at this
  omega
 ·have:=h9 e he
  unfold enB4 at this
  simp only [Bool.and_eq_true,decide_eq_true_eq] at this
  obtain ⟨a1,a2,a3,a4⟩:=this
  exact ⟨(attr_hok a1).1.mono (by omega),(attrB44_sz a2).1,by omega⟩
 ·have:=h10 o ho
  unfold opB4 at this
  simp only [Bool.and_eq_true,decide_eq_true_eq] at this
  exact ⟨(attr_hok this.1).1,by omega⟩
theorem ew3 {a b c:Nat}(h1:a<=140737488355328)(h2:b<=140737488355328)(h3:c<=140737488355328):wrap64 (wrap64 ((a:Int)+(b:Int))+(c:Int))=(a:Int)+(b:Int)+(c:Int):=by
 rw [IntWalk.wrap64_in ((a:Int)+(b:Int)) (by omega),IntWalk.wrap64_in ((a:Int)+(b:Int)+(c:Int)) (by omega)]
theorem ew4 {a b c d:Nat}(h1:a<=140737488355328)(h2:b<=140737488355328)(h3:c<=140737488355328)(h4:d<=140737488355328):wrap64 (wrap64 (wrap64 ((a:Int)+(b:Int))+(c:Int))+(d:Int))=(a:Int)+(b:Int)+(c:Int)+(d:Int):=by
 rw [ew3 h1 h2 h3,IntWalk.wrap64_in ((a:Int)+(b:Int)+(c:Int)+(d:Int)) (by omega)]
theorem few4_n1 (w:World)(vj:Value)(J:List Ck)(nx:Int)(vc:Value)(lx:List Ee)(now tk:Int)(me ur og:ByteArray)(mo:Int)(vq:Value)(qh:List Hd)(qb:ByteArray)(ck:Bool)(vo:Value)(lo:List (Value × Op4))
 (HW:WIn w vj J vc lx) (HQ:QIn w ur og vq qh qb) (HO:OIn w vo lo)
 (h1:8<J.length) :
 Calls Tryz.prog 12 #[.agg #[vj,.int .i64 nx,vc,.int .i64 now],.agg #[.int .i64 tk,.string me,.string ur,.string og,.int .i64 mo,vq,.string qb,.bool ck],vo] w fun e w'=>e = .returned (.bool false)/\Below w.heap.size w w':=by
 obtain ⟨hj,hc,hr,hzj,hzc⟩:=HW
 obtain ⟨hq,hzq,hz1a,hz1b,hz1c⟩:=HQ
 obtain ⟨ho,hoh,hzo⟩:=HO
 have hlj:=slk_len hj
 have hlc:=slk_len hc
 have hlo:=slk_len ho
 have HCJ:=Lib.hid (slk_at hj)
 have HCC:=Lib.hid (slk_at hc)
 have HCO:=Lib.hid (slk_at ho)
 obtain ⟨ja,jc,rfl,_⟩:=hj.shape
 obtain ⟨ca,cc,rfl,_⟩:=hc.shape
 obtain ⟨oa,oc,rfl,_⟩:=ho.shape
 obtain ⟨qa,qc,rfl,_⟩:=hq.shape
 have hb0:Below w.heap.size w ((w.alloc (.cells [.slice ja J.length jc,.int .i64 nx,.slice ca lx.length cc,.int .i64 now].toArray 27)).alloc (.cells [.int .i64 tk,.string me,.string ur,.string og,.int .i64 mo,.slice qa qh.length qc,.string qb,.bool ck].toArray 30)):=((Below.refl _ w).alloc lr _).alloc (by simp) _
 have W0:=(AtL.new w [.slice ja J.length jc,.int .i64 nx,.slice ca lx.length cc,.int .i64 now] 27).alloc (.cells [.int .i64 tk,.string me,.string ur,.string og,.int .i64 mo,.slice qa qh.length qc,.string qb,.bool ck].toArray 30)
 have Q0:=AtL.new (w.alloc (.cells [.slice ja J.length jc,.int .i64 nx,.slice ca lx.length cc,.int .i64 now].toArray 27)) [.int .i64 tk,.string me,.string ur,.string og,.int .i64 mo,.slice qa qh.length qc,.string qb,.bool ck] 30
 rw [show (w.alloc (.cells [.slice ja J.length jc,.int .i64 nx,.slice ca lx.length cc,.int .i64 now].toArray 27)).heap.size=w.heap.size+1 by simp] at Q0
 have CQ:=Lib.hid (fun (w':World) (hb:Below w.heap.size w w')=>attrs44_is qh (.slice qa qh.length qc) w' (hq.below hb lr) hzq (attrB44 qh) rfl)
 have HRD:=Lib.hid hr
 have HOH:=Lib.hid hoh
 have HZJ:=Lib.hid hzj
 have HZC:=Lib.hid hzc
 have HZO:=Lib.hid hzo
 clear hj hc hr hq ho hoh hzj hzc hzq hzo
 obtain ⟨w0,hw0⟩:∃ w0:World,((w.alloc (.cells [.slice ja J.length jc,.int .i64 nx,.slice ca lx.length cc,.int .i64 now].toArray 27)).alloc (.cells [.int .i64 tk,.string me,.string ur,.string og,.int .i64 mo,.slice qa qh.length qc,.string qb,.bool ck].toArray 30))=w0:=⟨_,rfl⟩
 obtain ⟨W,hW⟩:∃ W,w.heap.size=W:=⟨_,rfl⟩
 obtain ⟨Q,hQ⟩:∃ Q,W+1=Q:=⟨_,rfl⟩
 have HWW:=Lib.hid hW
 rw [hw0] at hb0 W0 Q0
 rw [hW] at W0 Q0
 rw [hQ] at Q0
 have a_:=W0.o4
 have q_:=Q0.o8
 have al:=W0.lt
 have ql:=Q0.lt
 have g1:(8:Int)<(J.length:Int):=by omega
 go_enter Tryz.func12,Tryz.ntmps12
 go_wp2_with (first
  | (go_at_call 22;(with_reducible refine (CQ.out _ hb0).mono ?_);rintro e1 w1 ⟨rfl,hb1⟩;have hB0:=hb0.trans (hb1.mono hb0.size);have Q1:=Q0.next hb1;clear q_;have q_:=Q1.o8;have ql1:=Q1.lt)
  | fail)
 go_ret
 first
  | exact ⟨ret_bool rfl,hB0⟩
  | exact ⟨ret_bool rfl,hb0⟩
  | exact ⟨ret_bool rfl,by rw [<-HWW.out];exact hB0⟩
  | exact ⟨ret_bool rfl,by rw [<-HWW.out];exact hb0⟩
  | fail
theorem few4_n2 (w:World)(vj:Value)(J:List Ck)(nx:Int)(vc:Value)(lx:List Ee)(now tk:Int)(me ur og:ByteArray)(mo:Int)(vq:Value)(qh:List Hd)(qb:ByteArray)(ck:Bool)(vo:Value)(lo:List (Value × Op4))
 (HW:WIn w vj J vc lx) (HQ:QIn w ur og vq qh qb) (HO:OIn w vo lo)
 (h1:J.length<=8) (h2:8<lx.length) :
 Calls Tryz.prog 12 #[.agg #[vj,.int .i64 nx,vc,.int .i64 now],.agg #[.int .i64 tk,.string me,.string ur,.string og,.int .i64 mo,vq,.string qb,.bool ck],vo] w fun e w'=>e = .returned (.bool false)/\Below w.heap.size w w':=by
 obtain ⟨hj,hc,hr,hzj,hzc⟩:=HW
 obtain ⟨hq,hzq,hz1a,hz1b,hz1c⟩:=HQ
 obtain ⟨ho,hoh,hzo⟩:=HO
 have hlj:=slk_len hj
 have hlc:=slk_len hc
 have hlo:=slk_len ho
 have HCJ:=Lib.hid (slk_at hj)
 have HCC:=Lib.hid (slk_at hc)
 have HCO:=Lib.hid (slk_at ho)
 obtain ⟨ja,jc,rfl,_⟩:=hj.shape
 obtain ⟨ca,cc,rfl,_⟩:=hc.shape
 obtain ⟨oa,oc,rfl,_⟩:=ho.shape
 obtain ⟨qa,qc,rfl,_⟩:=hq.shape
 have hb0:Below w.heap.size w ((w.alloc (.cells [.slice ja J.length jc,.int .i64 nx,.slice ca lx.length cc,.int .i64 now].toArray 27)).alloc (.cells [.int .i64 tk,.string me,.string ur,.string og,.int .i64 mo,.slice qa qh.length qc,.string qb,.bool ck].toArray 30)):=((Below.refl _ w).alloc lr _).alloc (by simp) _
 have W0:=(AtL.new w [.slice ja J.length jc,.int .i64 nx,.slice ca lx.length cc,.int .i64 now] 27).alloc (.cells [.int .i64 tk,.string me,.string ur,.string og,.int .i64 mo,.slice qa qh.length qc,.string qb,.bool ck].toArray 30)
 have Q0:=AtL.new (w.alloc (.cells [.slice ja J.length jc,.int .i64 nx,.slice ca lx.length cc,.int .i64 now].toArray 27)) [.int .i64 tk,.string me,.string ur,.string og,.int .i64 mo,.slice qa qh.length qc,.string qb,.bool ck] 30
 rw [show (w.alloc (.cells [.slice ja J.length jc,.int .i64 nx,.slice ca lx.length cc,.int .i64 now].toArray 27)).heap.size=w.heap.size+1 by simp] at Q0
 have CQ:=Lib.hid (fun (w':World) (hb:Below w.heap.size w w')=>attrs44_is qh (.slice qa qh.length qc) w' (hq.below hb lr) hzq (attrB44 qh) rfl)
 have HRD:=Lib.hid hr
 have HOH:=Lib.hid hoh
 have HZJ:=Lib.hid hzj
 have HZC:=Lib.hid hzc
 have HZO:=Lib.hid hzo
 clear hj hc hr hq ho hoh hzj hzc hzq hzo
 obtain ⟨w0,hw0⟩:∃ w0:World,((w.alloc (.cells [.slice ja J.length jc,.int .i64 nx,.slice ca lx.length cc,.int .i64 now].toArray 27)).alloc (.cells [.int .i64 tk,.string me,.string ur,.string og,.int .i64 mo,.slice qa qh.length qc,.string qb,.bool ck].toArray 30))=w0:=⟨_,rfl⟩
 obtain ⟨W,hW⟩:∃ W,w.heap.size=W:=⟨_,rfl⟩
 obtain ⟨Q,hQ⟩:∃ Q,W+1=Q:=⟨_,rfl⟩
 have HWW:=Lib.hid hW
 rw [hw0] at hb0 W0 Q0
 rw [hW] at W0 Q0
 rw [hQ] at Q0
 have a_:=W0.o4
 have q_:=Q0.o8
 have al:=W0.lt
 have ql:=Q0.lt
 have g1:¬ (8:Int)<(J.length:Int):=by omega
 have g2:(8:Int)<(lx.length:Int):=by omega
 go_enter Tryz.func12,Tryz.ntmps12
 go_wp2_with (first
  | (go_at_call 22;(with_reducible refine (CQ.out _ hb0).mono ?_);rintro e1 w1 ⟨rfl,hb1⟩;have hB0:=hb0.trans (hb1.mono hb0.size);have Q1:=Q0.next hb1;clear q_;have q_:=Q1.o8;have ql1:=Q1.lt)
  | fail)
 go_ret
 first
  | exact ⟨ret_bool rfl,hB0⟩
  | exact ⟨ret_bool rfl,hb0⟩
  | exact ⟨ret_bool rfl,by rw [<-HWW.out];exact hB0⟩
  | exact ⟨ret_bool rfl,by rw [<-HWW.out];exact hb0⟩
  | fail
theorem few4_n3 (w:World)(vj:Value)(J:List Ck)(nx:Int)(vc:Value)(lx:List Ee)(now tk:Int)(me ur og:ByteArray)(mo:Int)(vq:Value)(qh:List Hd)(qb:ByteArray)(ck:Bool)(vo:Value)(lo:List (Value × Op4))
 (HW:WIn w vj J vc lx) (HQ:QIn w ur og vq qh qb) (HO:OIn w vo lo)
 (h1:J.length<=8) (h2:lx.length<=8) (h3:nx<0) :
 Calls Tryz.prog 12 #[.agg #[vj,.int .i64 nx,vc,.int .i64 now],.agg #[.int .i64 tk,.string me,.string ur,.string og,.int .i64 mo,vq,.string qb,.bool ck],vo] w fun e w'=>e = .returned (.bool false)/\Below w.heap.size w w':=by
 obtain ⟨hj,hc,hr,hzj,hzc⟩:=HW
 obtain ⟨hq,hzq,hz1a,hz1b,hz1c⟩:=HQ
 obtain ⟨ho,hoh,hzo⟩:=HO
 have hlj:=slk_len hj
 have hlc:=slk_len hc
 have hlo:=slk_len ho
 have HCJ:=Lib.hid (slk_at hj)
 have HCC:=Lib.hid (slk_at hc)
 have HCO:=Lib.hid (slk_at ho)
 obtain ⟨ja,jc,rfl,_⟩:=hj.shape
 obtain ⟨ca,cc,rfl,_⟩:=hc.shape
 obtain ⟨oa,oc,rfl,_⟩:=ho.shape
 obtain ⟨qa,qc,rfl,_⟩:=hq.shape
 have hb0:Below w.heap.size w ((w.alloc (.cells [.slice ja J.length jc,.int .i64 nx,.slice ca lx.length cc,.int .i64 now].toArray 27)).alloc (.cells [.int .i64 tk,.string me,.string ur,.string og,.int .i64 mo,.slice qa qh.length qc,.string qb,.bool ck].toArray 30)):=((Below.refl _ w).alloc lr _).alloc (by simp) _
 have W0:=(AtL.new w [.slice ja J.length jc,.int .i64 nx,.slice ca lx.length cc,.int .i64 now] 27).alloc (.cells [.int .i64 tk,.string me,.string ur,.string og,.int .i64 mo,.slice qa qh.length qc,.string qb,.bool ck].toArray 30)
 have Q0:=AtL.new (w.alloc (.cells [.slice ja J.length jc,.int .i64 nx,.slice ca lx.length cc,.int .i64 now].toArray 27)) [.int .i64 tk,.string me,.string ur,.string og,.int .i64 mo,.slice qa qh.length qc,.string qb,.bool ck] 30
 rw [show (w.alloc (.cells [.slice ja J.length jc,.int .i64 nx,.slice ca lx.length cc,.int .i64 now].toArray 27)).heap.size=w.heap.size+1 by simp] at Q0
 have CQ:=Lib.hid (fun (w':World) (hb:Below w.heap.size w w')=>attrs44_is qh (.slice qa qh.length qc) w' (hq.below hb lr) hzq (attrB44 qh) rfl)
 have HRD:=Lib.hid hr
 have HOH:=Lib.hid hoh
 have HZJ:=Lib.hid hzj
 have HZC:=Lib.hid hzc
 have HZO:=Lib.hid hzo
 clear hj hc hr hq ho hoh hzj hzc hzq hzo
 obtain ⟨w0,hw0⟩:∃ w0:World,((w.alloc (.cells [.slice ja J.length jc,.int .i64 nx,.slice ca lx.length cc,.int .i64 now].toArray 27)).alloc (.cells [.int .i64 tk,.string me,.string ur,.string og,.int .i64 mo,.slice qa qh.length qc,.string qb,.bool ck].toArray 30))=w0:=⟨_,rfl⟩
 obtain ⟨W,hW⟩:∃ W,w.heap.size=W:=⟨_,rfl⟩
 obtain ⟨Q,hQ⟩:∃ Q,W+1=Q:=⟨_,rfl⟩
 have HWW:=Lib.hid hW
 rw [hw0] at hb0 W0 Q0
 rw [hW] at W0 Q0
 rw [hQ] at Q0
 have a_:=W0.o4
 have q_:=Q0.o8
 have al:=W0.lt
 have ql:=Q0.lt
 have g1:¬ (8:Int)<(J.length:Int):=by omega
 have g2:¬ (8:Int)<(lx.length:Int):=by omega
 go_enter Tryz.func12,Tryz.ntmps12
 go_wp2_with (first
  | (go_at_call 22;(with_reducible refine (CQ.out _ hb0).mono ?_);rintro e1 w1 ⟨rfl,hb1⟩;have hB0:=hb0.trans (hb1.mono hb0.size);have Q1:=Q0.next hb1;clear q_;have q_:=Q1.o8;have ql1:=Q1.lt)
  | fail)
 go_ret
 first
  | exact ⟨ret_bool rfl,hB0⟩
  | exact ⟨ret_bool rfl,hb0⟩
  | exact ⟨ret_bool rfl,by rw [<-HWW.out];exact hB0⟩
  | exact ⟨ret_bool rfl,by rw [<-HWW.out];exact hb0⟩
  | fail
theorem few4_n4 (w:World)(vj:Value)(J:List Ck)(nx:Int)(vc:Value)(lx:List Ee)(now tk:Int)(me ur og:ByteArray)(mo:Int)(vq:Value)(qh:List Hd)(qb:ByteArray)(ck:Bool)(vo:Value)(lo:List (Value × Op4))
 (HW:WIn w vj J vc lx) (HQ:QIn w ur og vq qh qb) (HO:OIn w vo lo)
 (h1:J.length<=8) (h2:lx.length<=8) (h3:¬ nx<0) (h4:1125899906842624<nx) :
 Calls Tryz.prog 12 #[.agg #[vj,.int .i64 nx,vc,.int .i64 now],.agg #[.int .i64 tk,.string me,.string ur,.string og,.int .i64 mo,vq,.string qb,.bool ck],vo] w fun e w'=>e = .returned (.bool false)/\Below w.heap.size w w':=by
 obtain ⟨hj,hc,hr,hzj,hzc⟩:=HW
 obtain ⟨hq,hzq,hz1a,hz1b,hz1c⟩:=HQ
 obtain ⟨ho,hoh,hzo⟩:=HO
 have hlj:=slk_len hj
 have hlc:=slk_len hc
 have hlo:=slk_len ho
 have HCJ:=Lib.hid (slk_at hj)
 have HCC:=Lib.hid (slk_at hc)
 have HCO:=Lib.hid (slk_at ho)
 obtain ⟨ja,jc,rfl,_⟩:=hj.shape
 obtain ⟨ca,cc,rfl,_⟩:=hc.shape
 obtain ⟨oa,oc,rfl,_⟩:=ho.shape
 obtain ⟨qa,qc,rfl,_⟩:=hq.shape
 have hb0:Below w.heap.size w ((w.alloc (.cells [.slice ja J.length jc,.int .i64 nx,.slice ca lx.length cc,.int .i64 now].toArray 27)).alloc (.cells [.int .i64 tk,.string me,.string ur,.string og,.int .i64 mo,.slice qa qh.length qc,.string qb,.bool ck].toArray 30)):=((Below.refl _ w).alloc lr _).alloc (by simp) _
 have W0:=(AtL.new w [.slice ja J.length jc,.int .i64 nx,.slice ca lx.length cc,.int .i64 now] 27).alloc (.cells [.int .i64 tk,.string me,.string ur,.string og,.int .i64 mo,.slice qa qh.length qc,.string qb,.bool ck].toArray 30)
 have Q0:=AtL.new (w.alloc (.cells [.slice ja J.length jc,.int .i64 nx,.slice ca lx.length cc,.int .i64 now].toArray 27)) [.int .i64 tk,.string me,.string ur,.string og,.int .i64 mo,.slice qa qh.length qc,.string qb,.bool ck] 30
 rw [show (w.alloc (.cells [.slice ja J.length jc,.int .i64 nx,.slice ca lx.length cc,.int .i64 now].toArray 27)).heap.size=w.heap.size+1 by simp] at Q0
 have CQ:=Lib.hid (fun (w':World) (hb:Below w.heap.size w w')=>attrs44_is qh (.slice qa qh.length qc) w' (hq.below hb lr) hzq (attrB44 qh) rfl)
 have HRD:=Lib.hid hr
 have HOH:=Lib.hid hoh
 have HZJ:=Lib.hid hzj
 have HZC:=Lib.hid hzc
 have HZO:=Lib.hid hzo
 clear hj hc hr hq ho hoh hzj hzc hzq hzo
 obtain ⟨w0,hw0⟩:∃ w0:World,((w.alloc (.cells [.slice ja J.length jc,.int .i64 nx,.slice ca lx.length cc,.int .i64 now].toArray 27)).alloc (.cells [.int .i64 tk,.string me,.string ur,.string og,.int .i64 mo,.slice qa qh.length qc,.string qb,.bool ck].toArray 30))=w0:=⟨_,rfl⟩
 obtain ⟨W,hW⟩:∃ W,w.heap.size=W:=⟨_,rfl⟩
 obtain ⟨Q,hQ⟩:∃ Q,W+1=Q:=⟨_,rfl⟩
 have HWW:=Lib.hid hW
 rw [hw0] at hb0 W0 Q0
 rw [hW] at W0 Q0
 rw [hQ] at Q0
 have a_:=W0.o4
 have q_:=Q0.o8
 have al:=W0.lt
 have ql:=Q0.lt
 have g1:¬ (8:Int)<(J.length:Int):=by omega
 have g2:¬ (8:Int)<(lx.length:Int):=by omega
 go_enter Tryz.func12,Tryz.ntmps12
 go_wp2_with (first
  | (go_at_call 22;(with_reducible refine (CQ.out _ hb0).mono ?_);rintro e1 w1 ⟨rfl,hb1⟩;have hB0:=hb0.trans (hb1.mono hb0.size);have Q1:=Q0.next hb1;clear q_;have q_:=Q1.o8;have ql1:=Q1.lt)
  | fail)
 go_ret
 first
  | exact ⟨ret_bool rfl,hB0⟩
  | exact ⟨ret_bool rfl,hb0⟩
  | exact ⟨ret_bool rfl,by rw [<-HWW.out];exact hB0⟩
  | exact ⟨ret_bool rfl,by rw [<-HWW.out];exact hb0⟩
  | fail
theorem few4_n5 (w:World)(vj:Value)(J:List Ck)(nx:Int)(vc:Value)(lx:List Ee)(now tk:Int)(me ur og:ByteArray)(mo:Int)(vq:Value)(qh:List Hd)(qb:ByteArray)(ck:Bool)(vo:Value)(lo:List (Value × Op4))
 (HW:WIn w vj J vc lx) (HQ:QIn w ur og vq qh qb) (HO:OIn w vo lo)
 (h1:J.length<=8) (h2:lx.length<=8) (h3:¬ nx<0) (h4:¬ 1125899906842624<nx) (h5:20<lo.length) :
 Calls Tryz.prog 12 #[.agg #[vj,.int .i64 nx,vc,.int .i64 now],.agg #[.int .i64 tk,.string me,.string ur,.string og,.int .i64 mo,vq,.string qb,.bool ck],vo] w fun e w'=>e = .returned (.bool false)/\Below w.heap.size w w':=by
 obtain ⟨hj,hc,hr,hzj,hzc⟩:=HW
 obtain ⟨hq,hzq,hz1a,hz1b,hz1c⟩:=HQ
 obtain ⟨ho,hoh,hzo⟩:=HO
 have hlj:=slk_len hj
 have hlc:=slk_len hc
 have hlo:=slk_len ho
 have HCJ:=Lib.hid (slk_at hj)
 have HCC:=Lib.hid (slk_at hc)
 have HCO:=Lib.hid (slk_at ho)
 obtain ⟨ja,jc,rfl,_⟩:=hj.shape
 obtain ⟨ca,cc,rfl,_⟩:=hc.shape
 obtain ⟨oa,oc,rfl,_⟩:=ho.shape
 obtain ⟨qa,qc,rfl,_⟩:=hq.shape
 have hb0:Below w.heap.size w ((w.alloc (.cells [.slice ja J.length jc,.int .i64 nx,.slice ca lx.length cc,.int .i64 now].toArray 27)).alloc (.cells [.int .i64 tk,.string me,.string ur,.string og,.int .i64 mo,.slice qa qh.length qc,.string qb,.bool ck].toArray 30)):=((Below.refl _ w).alloc lr _).alloc (by simp) _
 have W0:=(AtL.new w [.slice ja J.length jc,.int .i64 nx,.slice ca lx.length cc,.int .i64 now] 27).alloc (.cells [.int .i64 tk,.string me,.string ur,.string og,.int .i64 mo,.slice qa qh.length qc,.string qb,.bool ck].toArray 30)
 have Q0:=AtL.new (w.alloc (.cells [.slice ja J.length jc,.int .i64 nx,.slice ca lx.length cc,.int .i64 now].toArray 27)) [.int .i64 tk,.string me,.string ur,.string og,.int .i64 mo,.slice qa qh.length qc,.string qb,.bool ck] 30
 rw [show (w.alloc (.cells [.slice ja J.length jc,.int .i64 nx,.slice ca lx.length cc,.int .i64 now].toArray 27)).heap.size=w.heap.size+1 by simp] at Q0
 have CQ:=Lib.hid (fun (w':World) (hb:Below w.heap.size w w')=>attrs44_is qh (.slice qa qh.length qc) w' (hq.below hb lr) hzq (attrB44 qh) rfl)
 have HRD:=Lib.hid hr
 have HOH:=Lib.hid hoh
 have HZJ:=Lib.hid hzj
 have HZC:=Lib.hid hzc
 have HZO:=Lib.hid hzo
 clear hj hc hr hq ho hoh hzj hzc hzq hzo
 obtain ⟨w0,hw0⟩:∃ w0:World,((w.alloc (.cells [.slice ja J.length jc,.int .i64 nx,.slice ca lx.length cc,.int .i64 now].toArray 27)).alloc (.cells [.int .i64 tk,.string me,.string ur,.string og,.int .i64 mo,.slice qa qh.length qc,.string qb,.bool ck].toArray 30))=w0:=⟨_,rfl⟩
 obtain ⟨W,hW⟩:∃ W,w.heap.size=W:=⟨_,rfl⟩
 obtain ⟨Q,hQ⟩:∃ Q,W+1=Q:=⟨_,rfl⟩
 have HWW:=Lib.hid hW
 rw [hw0] at hb0 W0 Q0
 rw [hW] at W0 Q0
 rw [hQ] at Q0
 have a_:=W0.o4
 have q_:=Q0.o8
 have al:=W0.lt
 have ql:=Q0.lt
 have g1:¬ (8:Int)<(J.length:Int):=by omega
 have g2:¬ (8:Int)<(lx.length:Int):=by omega
 have g5:(20:Int)<(lo.length:Int):=by omega
 go_enter Tryz.func12,Tryz.ntmps12
 go_wp2_with (first
  | (go_at_call 22;(with_reducible refine (CQ.out _ hb0).mono ?_);rintro e1 w1 ⟨rfl,hb1⟩;have hB0:=hb0.trans (hb1.mono hb0.size);have Q1:=Q0.next hb1;clear q_;have q_:=Q1.o8;have ql1:=Q1.lt)
  | fail)
 go_ret
 first
  | exact ⟨ret_bool rfl,hB0⟩
  | exact ⟨ret_bool rfl,hb0⟩
  | exact ⟨ret_bool rfl,by rw [<-HWW.out];exact hB0⟩
  | exact ⟨ret_bool rfl,by rw [<-HWW.out];exact hb0⟩
  | fail
theorem few4_n6 (w:World)(vj:Value)(J:List Ck)(nx:Int)(vc:Value)(lx:List Ee)(now tk:Int)(me ur og:ByteArray)(mo:Int)(vq:Value)(qh:List Hd)(qb:ByteArray)(ck:Bool)(vo:Value)(lo:List (Value × Op4))
 (HW:WIn w vj J vc lx) (HQ:QIn w ur og vq qh qb) (HO:OIn w vo lo)
 (h1:J.length<=8) (h2:lx.length<=8) (h3:¬ nx<0) (h4:¬ 1125899906842624<nx) (h5:lo.length<=20) (h6:attrB44 qh=false) :
 Calls Tryz.prog 12 #[.agg #[vj,.int .i64 nx,vc,.int .i64 now],.agg #[.int .i64 tk,.string me,.string ur,.string og,.int .i64 mo,vq,.string qb,.bool ck],vo] w fun e w'=>e = .returned (.bool false)/\Below w.heap.size w w':=by
 obtain ⟨hj,hc,hr,hzj,hzc⟩:=HW
 obtain ⟨hq,hzq,hz1a,hz1b,hz1c⟩:=HQ
 obtain ⟨ho,hoh,hzo⟩:=HO
 have hlj:=slk_len hj
 have hlc:=slk_len hc
 have hlo:=slk_len ho
 have HCJ:=Lib.hid (slk_at hj)
 have HCC:=Lib.hid (slk_at hc)
 have HCO:=Lib.hid (slk_at ho)
 obtain ⟨ja,jc,rfl,_⟩:=hj.shape
 obtain ⟨ca,cc,rfl,_⟩:=hc.shape
 obtain ⟨oa,oc,rfl,_⟩:=ho.shape
 obtain ⟨qa,qc,rfl,_⟩:=hq.shape
 have hb0:Below w.heap.size w ((w.alloc (.cells [.slice ja J.length jc,.int .i64 nx,.slice ca lx.length cc,.int .i64 now].toArray 27)).alloc (.cells [.int .i64 tk,.string me,.string ur,.string og,.int .i64 mo,.slice qa qh.length qc,.string qb,.bool ck].toArray 30)):=((Below.refl _ w).alloc lr _).alloc (by simp) _
 have W0:=(AtL.new w [.slice ja J.length jc,.int .i64 nx,.slice ca lx.length cc,.int .i64 now] 27).alloc (.cells [.int .i64 tk,.string me,.string ur,.string og,.int .i64 mo,.slice qa qh.length qc,.string qb,.bool ck].toArray 30)
 have Q0:=AtL.new (w.alloc (.cells [.slice ja J.length jc,.int .i64 nx,.slice ca lx.length cc,.int .i64 now].toArray 27)) [.int .i64 tk,.string me,.string ur,.string og,.int .i64 mo,.slice qa qh.length qc,.string qb,.bool ck] 30
 rw [show (w.alloc (.cells [.slice ja J.length jc,.int .i64 nx,.slice ca lx.length cc,.int .i64 now].toArray 27)).heap.size=w.heap.size+1 by simp] at Q0
 have CQ:=Lib.hid (fun (w':World) (hb:Below w.heap.size w w')=>attrs44_is qh (.slice qa qh.length qc) w' (hq.below hb lr) hzq (attrB44 qh) rfl)
 have HRD:=Lib.hid hr
 have HOH:=Lib.hid hoh
 have HZJ:=Lib.hid hzj
 have HZC:=Lib.hid hzc
 have HZO:=Lib.hid hzo
 clear hj hc hr hq ho hoh hzj hzc hzq hzo
 obtain ⟨w0,hw0⟩:∃ w0:World,((w.alloc (.cells [.slice ja J.length jc,.int .i64 nx,.slice ca lx.length cc,.int .i64 now].toArray 27)).alloc (.cells [.int .i64 tk,.string me,.string ur,.string og,.int .i64 mo,.slice qa qh.length qc,.string qb,.bool ck].toArray 30))=w0:=⟨_,rfl⟩
 obtain ⟨W,hW⟩:∃ W,w.heap.size=W:=⟨_,rfl⟩
 obtain ⟨Q,hQ⟩:∃ Q,W+1=Q:=⟨_,rfl⟩
 have HWW:=Lib.hid hW
 rw [hw0] at hb0 W0 Q0
 rw [hW] at W0 Q0
 rw [hQ] at Q0
 have a_:=W0.o4
 have q_:=Q0.o8
 have al:=W0.lt
 have ql:=Q0.lt
 have g1:¬ (8:Int)<(J.length:Int):=by omega
 have g2:¬ (8:Int)<(lx.length:Int):=by omega
 have g5:¬ (20:Int)<(lo.length:Int):=by omega
 rw [h6] at CQ
 clear h6
 go_enter Tryz.func12,Tryz.ntmps12
 go_wp2_with (first
  | (go_at_call 22;(with_reducible refine (CQ.out _ hb0).mono ?_);rintro e1 w1 ⟨rfl,hb1⟩;have hB0:=hb0.trans (hb1.mono hb0.size);have Q1:=Q0.next hb1;clear q_;have q_:=Q1.o8;have ql1:=Q1.lt)
  | fail)
 go_ret
 first
  | exact ⟨ret_bool rfl,hB0⟩
  | exact ⟨ret_bool rfl,hb0⟩
  | exact ⟨ret_bool rfl,by rw [<-HWW.out];exact hB0⟩
  | exact ⟨ret_bool rfl,by rw [<-HWW.out];exact hb0⟩
  | fail
theorem few4_n7 (w:World)(vj:Value)(J:List Ck)(nx:Int)(vc:Value)(lx:List Ee)(now tk:Int)(me ur og:ByteArray)(mo:Int)(vq:Value)(qh:List Hd)(qb:ByteArray)(ck:Bool)(vo:Value)(lo:List (Value × Op4))
 (HW:WIn w vj J vc lx) (HQ:QIn w ur og vq qh qb) (HO:OIn w vo lo)
 (h1:J.length<=8) (h2:lx.length<=8) (h3:¬ nx<0) (h4:¬ 1125899906842624<nx) (h5:lo.length<=20) (h6:attrB44 qh=true) (h7:400<ur.size+og.size+qb.size) :
 Calls Tryz.prog 12 #[.agg #[vj,.int .i64 nx,vc,.int .i64 now],.agg #[.int .i64 tk,.string me,.string ur,.string og,.int .i64 mo,vq,.string qb,.bool ck],vo] w fun e w'=>e = .returned (.bool false)/\Below w.heap.size w w':=by
 obtain ⟨hj,hc,hr,hzj,hzc⟩:=HW
 obtain ⟨hq,hzq,hz1a,hz1b,hz1c⟩:=HQ
 obtain ⟨ho,hoh,hzo⟩:=HO
 have hlj:=slk_len hj
 have hlc:=slk_len hc
 have hlo:=slk_len ho
 have HCJ:=Lib.hid (slk_at hj)
 have HCC:=Lib.hid (slk_at hc)
 have HCO:=Lib.hid (slk_at ho)
 obtain ⟨ja,jc,rfl,_⟩:=hj.shape
 obtain ⟨ca,cc,rfl,_⟩:=hc.shape
 obtain ⟨oa,oc,rfl,_⟩:=ho.shape
 obtain ⟨qa,qc,rfl,_⟩:=hq.shape
 have hb0:Below w.heap.size w ((w.alloc (.cells [.slice ja J.length jc,.int .i64 nx,.slice ca lx.length cc,.int .i64 now].toArray 27)).alloc (.cells [.int .i64 tk,.string me,.string ur,.string og,.int .i64 mo,.slice qa qh.length qc,.string qb,.bool ck].toArray 30)):=((Below.refl _ w).alloc lr _).alloc (by simp) _
 have W0:=(AtL.new w [.slice ja J.length jc,.int .i64 nx,.slice ca lx.length cc,.int .i64 now] 27).alloc (.cells [.int .i64 tk,.string me,.string ur,.string og,.int .i64 mo,.slice qa qh.length qc,.string qb,.bool ck].toArray 30)
 have Q0:=AtL.new (w.alloc (.cells [.slice ja J.length jc,.int .i64 nx,.slice ca lx.length cc,.int .i64 now].toArray 27)) [.int .i64 tk,.string me,.string ur,.string og,.int .i64 mo,.slice qa qh.length qc,.string qb,.bool ck] 30
 rw [show (w.alloc (.cells [.slice ja J.length jc,.int .i64 nx,.slice ca lx.length cc,.int .i64 now].toArray 27)).heap.size=w.heap.size+1 by simp] at Q0
 have CQ:=Lib.hid (fun (w':World) (hb:Below w.heap.size w w')=>attrs44_is qh (.slice qa qh.length qc) w' (hq.below hb lr) hzq (attrB44 qh) rfl)
 have HRD:=Lib.hid hr
 have HOH:=Lib.hid hoh
 have HZJ:=Lib.hid hzj
 have HZC:=Lib.hid hzc
 have HZO:=Lib.hid hzo
 clear hj hc hr hq ho hoh hzj hzc hzq hzo
 obtain ⟨w0,hw0⟩:∃ w0:World,((w.alloc (.cells [.slice ja J.length jc,.int .i64 nx,.slice ca lx.length cc,.int .i64 now].toArray 27)).alloc (.cells [.int .i64 tk,.string me,.string ur,.string og,.int .i64 mo,.slice qa qh.length qc,.string qb,.bool ck].toArray 30))=w0:=⟨_,rfl⟩
 obtain ⟨W,hW⟩:∃ W,w.heap.size=W:=⟨_,rfl⟩
 obtain ⟨Q,hQ⟩:∃ Q,W+1=Q:=⟨_,rfl⟩
 have HWW:=Lib.hid hW
 rw [hw0] at hb0 W0 Q0
 rw [hW] at W0 Q0
 rw [hQ] at Q0
 have a_:=W0.o4
 have q_:=Q0.o8
 have al:=W0.lt
 have ql:=Q0.lt
 have g1:¬ (8:Int)<(J.length:Int):=by omega
 have g2:¬ (8:Int)<(lx.length:Int):=by omega
 have g5:¬ (20:Int)<(lo.length:Int):=by omega
 rw [h6] at CQ
 have g7:(400:Int)<(ur.size:Int)+(og.size:Int)+(qb.size:Int):=by omega
 have g6:(400:Int)<wrap64 (wrap64 ((ur.size:Int)+(og.size:Int))+(qb.size:Int)):=by rw [ew3 hz1a hz1b hz1c];exact g7
 clear h6 h7 g7
 go_enter Tryz.func12,Tryz.ntmps12
 go_wp2_with (first
  | (go_at_call 22;(with_reducible refine (CQ.out _ hb0).mono ?_);rintro e1 w1 ⟨rfl,hb1⟩;have hB0:=hb0.trans (hb1.mono hb0.size);have Q1:=Q0.next hb1;clear q_;have q_:=Q1.o8;have ql1:=Q1.lt)
  | fail)
 go_ret
 first
  | exact ⟨ret_bool rfl,hB0⟩
  | exact ⟨ret_bool rfl,hb0⟩
  | exact ⟨ret_bool rfl,by rw [<-HWW.out];exact hB0⟩
  | exact ⟨ret_bool rfl,by rw [<-HWW.out];exact hb0⟩
  | fail
end Go.Proofs.YtjdhaacmlpegoaaGreatDoor
