/- Part 26 of what the proof needs: YB YM. -/
import Derived.Test.YtjdhaacmlpegoaaGreatDoorU25
set_option maxRecDepth 20000
set_option maxHeartbeats 16000000
set_option linter.unusedSimpArgs false
set_option linter.unusedVariables false
namespace Go.Proofs.YtjdhaacmlpegoaaGreatDoor
open Go.RowKit
def ordS (b:Bool × Bool)(e:Ev):Option (Bool × Bool):=
 if e.k=1 then (if b.1=true\/b.2=true then none else some b)
 else if e.k=2 then (if b.1=true\/b.2=true then none else some (true,b.2))
 else if e.k=3 then (if b.1=false\/b.2=true\/e.bo.size=0 then none else some b)
 else if e.k=4 then (if b.1=false\/b.2=true then none else some (b.1,true))
 else if e.k=5 then (if b.2=true\/e.er=0 then none else some (b.1,true))
 else none
def ordL:Bool × Bool->List Ev->Option (Bool × Bool)
 | b,[]=>some b
 | b, e :: l => match ordS b e with
   | none=>none
   | some b'=>ordL b' l
theorem ordL_cons (b:Bool × Bool)(e:Ev)(l:List Ev):ordL b (e :: l)=match ordS b e with
 | none=>none
 | some b'=>ordL b' l:=rfl
theorem ordL_app:∀ (l1 l2:List Ev)(b b1:Bool × Bool) ,ordL b l1=some b1->ordL b (l1 ++ l2)=ordL b1 l2
 | [],l2,b,b1,h=>by injection h with h;rw [h];rfl
 | e :: l1, l2, b, b1, h => by
   rw [ordL_cons] at h
   rw [Jn,ordL_cons]
   cases hs:ordS b e with
   | none=>rw [hs] at h;cases h
   | some b'=>rw [hs] at h;exact ordL_app l1 l2 b' b1 h
def Fin4 (S:FSt)(b:Bool × Bool):Prop:=((S.ph=1/\b=(false,false))\/(S.ph=2/\b=(true,false))\/((S.ph=3\/S.ph=4)/\b.2=true))/\(S.ph=4 ↔ S.er≠0)
def OrdO (o:Out):Prop:=∃ b,ordL (false,false) o.ev=some b/\Fin4 o.s b
theorem failS_fin (S:FSt)(e:Int)(he:e≠0)(b:Bool):Fin4 (failS S e) (b,true):=⟨.inr (.inr ⟨.inr rfl,rfl⟩),fun _=>he,fun _=>rfl⟩
theorem ord_fail (b:Bool)(e:Int)(he:e≠0):ordL (b,false) [failV e]=some (b,true):=by simp [ordL,ordS,failV,he]
theorem failO_ord (S:FSt)(C:List En)(e:Int)(he:e≠0):OrdO (failO S C e):=⟨(false,true),ord_fail false e he,failS_fin S e he false⟩
theorem headO_ord (st:Int)(hs:List Hd)(S:FSt)(C:List En)(h0:S.er=0):OrdO (headO st hs S C):=by
 unfold headO;split
 ·exact failO_ord _ _ _ (by decide)
 ·refine ⟨(true,false),?_,.inr (.inl ⟨rfl,rfl⟩),⟨fun h=>absurd h (by show (2:Int)≠4;decide),fun h=>absurd h0 h⟩⟩;show ordL (false,false) [if _ then _ else _]=_;split <;> rfl
theorem redirF_ord {snd:FSt->List En->Out}{S:FSt}(h0:S.er=0)(hs:∀ S' C,S'.er=0->S'.ho=S.ho+1->S'.ho<=10->OrdO (snd S' C))(st:Int)(loc:ByteArray)(C:List En):OrdO (redirF snd st loc S C):=by
 unfold redirF;split
 ·exact failO_ord _ _ _ (by decide)
 ·next h10=>
  split
  ·exact failO_ord _ _ _ (by decide)
  ·split
   ·exact failO_ord _ _ _ (by decide)
   ·split
    ·exact failO_ord _ _ _ (by decide)
    ·exact hs _ _ h0 rfl (by show S.ho+1<=10;omega)
theorem takeF_ord {snd:FSt->List En->Out}{S:FSt}(h0:S.er=0)(hs:∀ S' C,S'.er=0->S'.ho=S.ho+1->S'.ho<=10->OrdO (snd S' C))(net:Bool)(now st:Int)(hd:List Hd)(C:List En):OrdO (takeF snd net now st hd S C):=by
 unfold takeF;split
 ·split
  ·exact failO_ord _ _ _ (by decide)
  ·exact redirF_ord h0 hs _ _ _
 ·exact headO_ord _ _ _ _ h0
theorem data_ord (p:ByteArray){S:FSt}{b:Bool × Bool}(h:Fin4 S b):∃ b',ordL b (dataF p S).2=some b'/\Fin4 (dataF p S).1 b':=by
 unfold dataF;split
 ·next h2=>
  obtain ⟨h1 | h1 | h1,he⟩:=h
  ·exact absurd h1.1 (by omega)
  ·obtain ⟨_,rfl⟩:=h1;split
   ·exact ⟨_,ord_fail true 5 (by decide),failS_fin S 5 (by decide) true⟩
   ·refine ⟨(true,false),?_,.inr (.inl ⟨h2,rfl⟩),he⟩;split
    ·rfl
    ·next hn=>
     have h3:ordS (true,false) ⟨3,eS,eS,[],p,0,0⟩=some (true,false):=by
      unfold ordS;rw [Ke (by show ¬ (3:Int)=1;decide),Ke (by show ¬ (3:Int)=2;decide),Kf rfl,Ke];rintro (h | h | h)
      ·cases h
      ·cases h
      ·exact hn (.inl h)
     rw [ordL_cons,h3];rfl
  ·exact absurd h1.1 (by omega)
 ·exact ⟨b,rfl,h⟩
theorem end_ord {S:FSt}{b:Bool × Bool}(h:Fin4 S b)(h2:S.ph=2):∃ b',ordL b [endV]=some b'/\Fin4 { S with ph:=3 } b':=by
 obtain ⟨h1 | h1 | h1,he⟩:=h
 ·exact absurd h1.1 (by omega)
 ·obtain ⟨_,rfl⟩:=h1;exact ⟨(true,true),rfl,.inr (.inr ⟨.inl rfl,rfl⟩),⟨fun e=>absurd e (by show (3:Int)≠4;decide),fun e=>absurd (he.2 e) (by omega)⟩⟩
 ·exact absurd h1.1 (by omega)
theorem restF_ord (p:ByteArray){o:Out}(h:OrdO o):OrdO (restF p o):=by
 obtain ⟨b,hb,hf⟩:=h;unfold restF;split
 ·obtain ⟨b1,hb1,hf1⟩:=data_ord p hf;split
  ·next h2=>
   obtain ⟨b2,hb2,hf2⟩:=end_ord hf1 h2;refine ⟨b2,?_,hf2⟩;show ordL (false,false) (o.ev ++ (dataF p o.s).2 ++ [endV])=_;rw [Jj,ordL_app _ _ _ _ hb,ordL_app _ _ _ _ hb1,hb2]
  ·exact ⟨b1,by show ordL (false,false) (o.ev ++ (dataF p o.s).2)=_;rw [ordL_app _ _ _ _ hb,hb1],hf1⟩
 ·exact ⟨b,hb,hf⟩
theorem askO_ord (J:List Ck)(now:Int)(S:FSt)(C:List En)(more:List Hd)(ch:Bool)(h0:S.er=0):OrdO (askO J now S C more ch):=
 ⟨(false,false),rfl,.inl ⟨rfl,rfl⟩,fun h=>absurd h (by show (1:Int)≠4;decide),fun h=>absurd h0 h⟩
theorem sendF_ord (J:List Ck)(now:Int):∀ (k:Nat) (S:FSt) (C:List En),S.er=0->S.ho<=10->10<k+S.ho->OrdO (sendF J now k S C)
 | 0,S,C,_,h1,h2=>by omega
 | k + 1, S, C, h0, h1, h2 => by
   unfold sendF
   split
   ·simp only
    split
    ·exact restF_ord _ (takeF_ord (S:={ S with ch:=false }) h0 (fun S' C he hh hl=>sendF_ord J now k S' C he hl (by rw [hh];show 10<k+(S.ho+1);omega)) false now _ _ _)
    ·split
     ·exact askO_ord _ _ _ _ _ _ h0
     ·exact askO_ord _ _ _ _ _ _ h0
   ·exact askO_ord _ _ _ _ _ _ h0
def OrdR (r:Rn):Prop:=∃ b,ordL (false,false) r.ev=some b/\Fin4 r.s b
theorem startF_ord (now:Int)(S:FSt)(j:List Ck × Int)(C:List En)(h0:S.er=0)(hh:S.ho=0):OrdR (startF now S j C):=by
 have h:OrdO (beginF j.1 now S C):=by
  unfold beginF;split
  ·exact failO_ord _ _ _ (by decide)
  ·split
   ·exact failO_ord _ _ _ (by decide)
   ·split
    ·exact failO_ord _ _ _ (by decide)
    ·split
     ·exact failO_ord _ _ _ (by decide)
     ·exact sendF_ord _ _ _ _ _ h0 (by show S.ho<=10;omega) (by show 10<11+S.ho;omega)
 exact h
theorem headF_ord (J:List Ck)(now st:Int)(hs:List Hd)(S:FSt)(C:List En)(h0:S.er=0):OrdO (headF J now st hs S C):=by
 have hsnd:∀ S' C,S'.er=0->S'.ho=S.ho+1->S'.ho<=10->OrdO (sendF J now 11 S' C):=fun S' C he _ hl=>sendF_ord J now 11 S' C he hl (by omega);unfold headF;split
 ·split
  ·exact failO_ord _ _ _ (by decide)
  ·exact restF_ord _ (takeF_ord (S:={ S with ch:=false }) h0 hsnd false now _ _ _)
 ·exact takeF_ord h0 hsnd true now st hs C
theorem opF_ord (now:Int)(o:Op4){r:Rn}(h:OrdR r):OrdR (opF now o r):=by
 obtain ⟨b,hb,hf⟩:=h;unfold opF;split
 ·unfold headA;split
  ·next h1=>
   obtain ⟨b1,hb1,hf1⟩:=headF_ord (jarH r.s now o.hs r.j).1 now o.st o.hs r.s r.c (by
    by_cases e:r.s.er=0
    ·exact e
    ·have:=hf.2.2 e;omega)
   have hbf:b=(false,false):=by
    rcases hf.1 with e | e | e
    ·exact e.2
    ·exact absurd e.1 (by omega)
    ·exact absurd e.1 (by omega)
   subst hbf;exact ⟨b1,(ordL_app _ _ _ _ hb).trans hb1,hf1⟩
  ·exact ⟨b,(ordL_app _ _ _ _ hb).trans rfl,hf⟩
 ·split
  ·obtain ⟨b1,hb1,hf1⟩:=data_ord o.bo hf;exact ⟨b1,(ordL_app _ _ _ _ hb).trans hb1,hf1⟩
  ·split
   ·unfold endF;split
    ·next h2=>
     obtain ⟨b1,hb1,hf1⟩:=end_ord hf h2;exact ⟨b1,(ordL_app _ _ _ _ hb).trans hb1,hf1⟩
    ·exact ⟨b,(ordL_app _ _ _ _ hb).trans rfl,hf⟩
   ·have hst:∀ e:Int,e≠0->OrdR ⟨(stopF e r.s).1,r.j,r.c,r.ev ++ (stopF e r.s).2⟩:=fun e he=>by
     unfold stopF;split
     ·next h12=>
      have hb2:b=(b.1,false):=by
       rcases hf.1 with e | e | e
       ·rw [e.2]
       ·rw [e.2]
       ·exact absurd e.1 (by omega)
      rw [hb2] at hb;exact ⟨(b.1,true),(ordL_app _ _ _ _ hb).trans (ord_fail b.1 e he),failS_fin r.s e he b.1⟩
     ·exact ⟨b,(ordL_app _ _ _ _ hb).trans rfl,hf⟩
    split
    ·exact hst 17 (by decide)
    ·exact hst 18 (by decide)
theorem runF_ord (now:Int):∀ (ops:List Op4) {r:Rn},OrdR r->OrdR (runF now ops r)
 | [],r,h=>h
 | o :: ops,r,h=>by rw [runF_cons];exact runF_ord now ops (opF_ord now o h)
theorem ordL_pre:∀ (l1 l2:List Ev)(b B:Bool × Bool) ,ordL b (l1 ++ l2)=some B->∃ b1,ordL b l1=some b1
 | [],l2,b,B,h=>⟨b,rfl⟩
 | e :: l1, l2, b, B, h => by
   rw [Jn,ordL_cons] at h
   rw [ordL_cons]
   cases hs:ordS b e with
   | none=>rw [hs] at h;cases h
   | some b'=>rw [hs] at h;exact ordL_pre l1 l2 b' B h
theorem ordL_snoc {l:List Ev}{e:Ev}{b b1 b2:Bool × Bool}(h1:ordL b l=some b1)(h2:ordL b (l ++ [e])=some b2):ordS b1 e=some b2:=by
 rw [ordL_app l [e] b b1 h1,ordL_cons] at h2
 cases hs:ordS b1 e with
 | none=>rw [hs] at h2;cases h2
 | some b'=>rw [hs] at h2;exact h2
theorem ordS_cases {b b':Bool × Bool}{e:Ev}(h:ordS b e=some b'):(e.k=1/\b=(false,false)/\b'=(false,false))\/(e.k=2/\b=(false,false)/\b'=(true,false))\/(e.k=3/\b=(true,false)/\e.bo.size≠0/\b'=(true,false))\/(e.k=4/\b=(true,false)/\b'=(true,true))\/(e.k=5/\b.2=false/\e.er≠0/\b'=(b.1,true)):=by
 obtain ⟨b1,b2⟩:=b;unfold ordS at h;simp only at h;split at h
 ·next hk=>
  split at h
  ·cases h
  ·next hn=>
   injection h with h;subst h;cases b1
   ·cases b2
    ·exact .inl ⟨hk,rfl,rfl⟩
    ·exact absurd (.inr rfl) hn
   ·exact absurd (.inl rfl) hn
 ·split at h
  ·next hk=>
   split at h
   ·cases h
   ·next hn=>
    injection h with h;subst h;cases b1
    ·cases b2
     ·exact .inr (.inl ⟨hk,rfl,rfl⟩)
     ·exact absurd (.inr rfl) hn
    ·exact absurd (.inl rfl) hn
  ·split at h
   ·next hk=>
    split at h
    ·cases h
    ·next hn=>
     injection h with h;subst h;cases b1
     ·exact absurd (.inl rfl) hn
     ·cases b2
      ·exact .inr (.inr (.inl ⟨hk,rfl,fun e=>hn (.inr (.inr e)),rfl⟩))
      ·exact absurd (.inr (.inl rfl)) hn
   ·split at h
    ·next hk=>
     split at h
     ·cases h
     ·next hn=>
      injection h with h;subst h;cases b1
      ·exact absurd (.inl rfl) hn
      ·cases b2
       ·exact .inr (.inr (.inr (.inl ⟨hk,rfl,rfl⟩)))
       ·exact absurd (.inr rfl) hn
    ·split at h
     ·next hk=>
      split at h
      ·cases h
      ·next hn=>
       injection h with h;subst h;cases b2
       ·exact .inr (.inr (.inr (.inr ⟨hk,rfl,fun e=>hn (.inr e),rfl⟩)))
       ·exact absurd (.inl rfl) hn
     ·cases h
theorem ordE {r:Rn}{l:List (Value × Ev)}(hle:l.map (·.2)=r.ev){kk:Nat}(hk:kk<l.length){b B:Bool × Bool}(h1:ordL (false,false) (r.ev.take kk)=some b)(hB:ordL (false,false) r.ev=some B):
 ∃ b',ordS b l[kk].2=some b'/\ordL (false,false) (r.ev.take (kk+1))=some b':=by
 have hk2:kk<r.ev.length:=by rw [<-hle,Za];exact hk
 have he:r.ev[kk]=l[kk].2:=by have:=Kq (fun l=>l[kk]?) hle;simp only [Zh,Jd hk,Jd hk2,Option.map_some] at this;exact (Zl this).symm
 have h2:r.ev.take (kk+1)=r.ev.take kk ++ [l[kk].2]:=by rw [Jf hk2,he]
 obtain ⟨b1,hb1⟩:=ordL_pre (r.ev.take (kk+1)) (r.ev.drop (kk+1)) (false,false) B (by rw [Jt];exact hB);refine ⟨b1,?_,hb1⟩;rw [h2] at hb1;exact ordL_snoc h1 hb1
theorem N62{p:Prop}(h:p:=by
 have he:r.s.er=0:=Classical.byContradiction fun e=>by have:=hf2.2 e;omega
 rw [h1] at c8
 rw [he] at c22
 clear hf2 h1 he hob hbw hPH hER
 go_wp2_with fail
 go_ret
 exact ⟨rfl,HBW.out⟩
 ):p:=h
theorem M23{p:Prop}(h:p:=by
 rw [hk1] at c0 hbn
 clear hk1 hst
 go_wp2_with fail
 go_roundw
 case rel=>exact ⟨kk+1,_,by omega,by go_num,rfl,rfl,Kb hb3,hbn⟩
 case measure=>simp [intOf];omega
 ):p:=h
theorem M29{p:Prop}(h:p:=by
 go_wp2_with fail
 go_roundw
 case rel=>exact ⟨kk+1,_,by omega,by go_num,rfl,rfl,Kb hb3,hbn⟩
 case measure=>simp [intOf];omega
 ):p:=h
theorem fetchorder_law (vj:Value)(J:List Ck)(nx:Int)(vc:Value)(lx:List Ee)(now tk:Int)(me ur og:ByteArray)(mo:Int)(vq:Value)(qh:List Hd)(qb:ByteArray)(ck:Bool)(vo:Value)(lo:List (Value × Op4))(w:World)(hM:MaxAt w)(hG:0<w.heap.size)(HW:WIn w vj J vc lx)(HQ:QIn w ur og vq qh qb)(HO:OIn w vo lo)(hk:∀ x∈lo,x.2.k<256):
 Calls Tryz.prog 6 #[.agg #[vj,.int .i64 nx,vc,.int .i64 now],.agg #[.int .i64 tk,.string me,.string ur,.string og,.int .i64 mo,vq,.string qb,.bool ck],vo] w fun e w'=>e = .returned (.bool true)/\Below w.heap.size w w':=by
 obtain ⟨ja,jc,rfl,_⟩:=HW.j.shape
 obtain ⟨ca,cc,rfl,_⟩:=HW.c.shape
 obtain ⟨oa,oc,rfl,_⟩:=HO.o.shape
 obtain ⟨qa,qc,rfl,_⟩:=HQ.q.shape
 have hb0:Below w.heap.size w ((w.alloc (.cells [.slice ja J.length jc,.int .i64 nx,.slice ca lx.length cc,.int .i64 now].toArray 27)).alloc (.cells [.int .i64 tk,.string me,.string ur,.string og,.int .i64 mo,.slice qa qh.length qc,.string qb,.bool ck].toArray 30)):=((Kc w).alloc lr _).alloc (by simp) _
 have W0:=(AtL.new w [.slice ja J.length jc,.int .i64 nx,.slice ca lx.length cc,.int .i64 now] 27).alloc (.cells [.int .i64 tk,.string me,.string ur,.string og,.int .i64 mo,.slice qa qh.length qc,.string qb,.bool ck].toArray 30)
 have Q0:=AtL.new (w.alloc (.cells [.slice ja J.length jc,.int .i64 nx,.slice ca lx.length cc,.int .i64 now].toArray 27)) [.int .i64 tk,.string me,.string ur,.string og,.int .i64 mo,.slice qa qh.length qc,.string qb,.bool ck] 30
 rw [show (w.alloc (.cells [.slice ja J.length jc,.int .i64 nx,.slice ca lx.length cc,.int .i64 now].toArray 27)).heap.size=w.heap.size+1 by simp] at Q0
 obtain ⟨w0,hw0⟩:∃ w0:World,((w.alloc (.cells [.slice ja J.length jc,.int .i64 nx,.slice ca lx.length cc,.int .i64 now].toArray 27)).alloc (.cells [.int .i64 tk,.string me,.string ur,.string og,.int .i64 mo,.slice qa qh.length qc,.string qb,.bool ck].toArray 30))=w0:=⟨_,rfl⟩
 obtain ⟨W,hW⟩:=Ka w.heap.size
 obtain ⟨Q,hQ⟩:=Ka (W+1)
 rw [hw0] at hb0 W0 Q0
 rw [hW] at W0 Q0
 rw [hQ] at Q0
 have CF:=Kb (fit_is45 w0 (hM.below hb0 lr))
 obtain ⟨R,hR⟩:=Ka (few4 J nx (lx.map (·.2)) qh ur og qb (lo.map (·.2)))
 have CW:=Kb (fun (w':World) (hb:Below w.heap.size w w')=>few4_is w' _ J nx _ lx now tk me ur og mo _ qh qb ck _ lo (HW.below hb) (HQ.below hb) (HO.below hb) R hR)
 have a_:=W0.o4
 have q_:=Q0.o8
 have al:=W0.lt
 have ql:=Q0.lt
 cases R with
 | false=>
   clear hR HW HQ HO hk hM
   go_enter Tryz.func6,Tryz.ntmps6
   go_wp2_with (first
    | ((with_reducible refine CF.out.mono ?_);rintro e1 w1 ⟨rfl,hb1⟩;have Q1:=Q0.next hb1;have W1:=W0.next hb1;have hB1:=Kd hb0 hb1;clear q_ a_;have q_:=Q1.o8;have a_:=W1.o4;have ql1:=Q1.lt;have al1:=W1.lt)
    | ((with_reducible refine (CW.out _ hB1).mono ?_);rintro e2 w2 ⟨rfl,hb2⟩;have Q2:=Q1.next hb2;have W2:=W1.next hb2;have hB2:=Kd hB1 hb2;clear q_ a_;have q_:=Q2.o8;have a_:=W2.o4;have ql2:=Q2.lt;have al2:=W2.lt)
    | fail)
   go_ret
   exact ⟨rfl,hB2⟩
 | true=>
   have hF:=few4_ok hR
   have hlo:lo.length<=20:=by have:=hF.l;rwa [Za] at this
   obtain ⟨r,hr⟩:=Ka (runF now (lo.map (·.2)) (startF now (newS tk me ur og mo qh qb ck) (J,nx) (lx.map (·.2))))
   have CR:=Kb (fun (w':World) (hb:Below w.heap.size w w')=>run_is w' _ J nx _ lx now tk me ur og mo _ qh qb ck _ lo (hM.below hb lr) (Ko hG hb.size) (HW.below hb) (HQ.below hb) (HO.below hb) (hF.q tk me mo ck) hF.j hF.n1 hF.n2 hF.c (fun x hx=>⟨hF.o x.2 (Zc hx),hk x hx⟩) (by omega) (fun _ _ _=>setC) r hr)
   obtain ⟨B,hB,hfin⟩:OrdR r:=by rw [<-hr];exact runF_ord now _ (startF_ord now _ _ _ rfl rfl)
   have HOB:=Kb hB
   have HFI:=Kb hfin
   clear hR HW HQ HO hk hM hF hr hB hfin hlo
   go_enter Tryz.func6,Tryz.ntmps6
   go_upto_region 6 with (first
    | ((with_reducible refine CF.out.mono ?_);rintro e1 w1 ⟨rfl,hb1⟩;have Q1:=Q0.next hb1;have W1:=W0.next hb1;have hB1:=Kd hb0 hb1;clear q_ a_;have q_:=Q1.o8;have a_:=W1.o4;have ql1:=Q1.lt;have al1:=W1.lt)
    | ((with_reducible refine (CW.out _ hB1).mono ?_);rintro e2 w2 ⟨rfl,hb2⟩;have Q2:=Q1.next hb2;have W2:=W1.next hb2;have hB2:=Kd hB1 hb2;clear q_ a_;have q_:=Q2.o8;have a_:=W2.o4;have ql2:=Q2.lt;have al2:=W2.lt)
    | ((with_reducible refine (CR.out _ hB2).mono ?_);rintro e3 w3 hq3;obtain ⟨L,V,ea,n,ek,l,vj3,vc3,lx3,rfl,hn3,hL,hV,hRL⟩:=RunQ.law hq3;have Z3:=lawW_at w3;have Z4:=lawW_at2 w3 L;have HL:=Kb hL;have HV:=Kb hV;have HRL:=Kb hRL;have HN:=Kb hn3;clear hq3 hL hV hRL hn3)
    | (refine wpList_store_at rfl 40 _ _ rfl w3.heap.size L rfl rfl Z3 HL.out.1 (by rw [HL.out.1];kernel_rfl) HL.out.2 ?_)
    | (refine wpList_store_at rfl 27 _ _ rfl (w3.heap.size+1) V rfl rfl Z4 HV.out.1 (by rw [HV.out.1];kernel_rfl) HV.out.2 ?_)
    | fail)
   obtain ⟨w8,hw8⟩:∃ w8:World,(((w3.alloc (.cells fz.toArray 40)).alloc (.cells wz.toArray 27)).setCells w3.heap.size 0 L).setCells (w3.heap.size+1) 0 V=w8:=⟨_,rfl⟩
   have R8:RunL w2 now r w3.heap.size L (.slice ea n ek) l vj3 vc3 lx3 w8:=by rw [<-hw8];exact HRL.out
   obtain ⟨s1,hs1⟩:=Ka w3.heap.size
   rw [hs1] at R8
   rw [hw8,hs1]
   obtain rfl:n=l.length:=HN.out
   have hEV:=R8.ev
   have hll:=slk_len hEV
   have hPH:=R8.ph
   have hER:=R8.er
   have hsl:=R8.st.lt
   have HEQ:=Kb R8.eq
   have HEV:=Kb (slk_at hEV)
   have HHS:=Kb R8.hs
   have hB8:=hB2.trans (R8.bl.mono hB2.size)
   clear hw8 hs1 HRL HL HV HN Z3 Z4 R8 hEV CF CW CR hb0 W0 Q0 W1 Q1 W2 Q2 a_ q_ al ql al1 ql1 al2 ql2
   go_wp2_with fail
   go_loopw [10,11,31] (fun vh vo iv wr=>∃ (kk:Nat) (b:Bool × Bool),kk<=l.length/\iv = .int .i64 kk/\vh = .bool b.1/\vo = .bool b.2/\Hid (ordL (false,false) (r.ev.take kk)=some b)/\Below w8.heap.size w8 wr) (fun _ _ iv _=>l.length - (intOf iv).toNat)
   case atStart=>exact ⟨0,(false,false),Kh _,rfl,rfl,rfl,Kb rfl,Kc _⟩
   case round=>
    obtain ⟨kk,b,hk,rfl,rfl,rfl,hob,hbw⟩:=hrel
    by_cases hlt:kk<l.length
    ·obtain ⟨b',hst,hb3⟩:=ordE HEQ.out hlt hob.out HOB.out
     obtain ⟨b0,off,cap,he,hb0',hcell⟩:=HEV.out (by omega)
     injection he with e1 e2 e3
     subst e1 e3
     clear e2
     have cc:∀ j u,(evC l[kk])[j]? = some u->wr.cell? ⟨b0,off+kk * 7+j,none⟩=some u:=fun j u hu=>(brl hbw _ _ hb0').trans (hcell kk hlt j u hu)
     have hx:=HHS.out _ (Ky hlt)
     obtain ⟨y,hy⟩:=Ka (l[kk])
     rw [hy] at cc hx hst
     obtain ⟨yv,ye⟩:=y
     obtain ⟨xa,xc,hxv,_⟩:=hx.shape
     have hxv:yv = .slice xa ye.hs.length xc:=hxv
     subst hxv
     have hst:ordS b ye=some b':=hst
     clear hcell hob hy hx
     have c0:=cc 0 _ rfl
     have c1:=cc 1 _ rfl
     have c2:=cc 2 _ rfl
     have c3:=cc 3 _ rfl
     have c4:=cc 4 _ rfl
     have c5:=cc 5 _ rfl
     have c6:=cc 6 _ rfl
     simp only [Ku] at c0
     simp only at c0 c1 c2 c3 c4 c5 c6
     clear cc
     have hki:(kk:Int)<(l.length:Int):=by omega
     have h0w:b0<wr.heap.size:=Ko hb0' hbw.size
     have hbn:Below w8.heap.size w8 (wr.alloc (.cells [.int .i64 ye.k,.string ye.me,.string ye.ur,.slice xa ye.hs.length xc,.string ye.bo,.int .i64 ye.st,.int .i64 ye.er].toArray 48)):=hbw.alloc hbw.size _
     rcases ordS_cases hst with ⟨hk1,rfl,rfl⟩ | ⟨hk1,rfl,rfl⟩ | ⟨hk1,rfl,hz,rfl⟩ | ⟨hk1,rfl,rfl⟩ | ⟨hk1,hb2,hz,rfl⟩
     ·exact M23
     ·exact M23
     ·rw [hk1] at c0 hbn
      have hpe:=empty_size ye.bo
      rw [Kj hz] at hpe
      clear hk1 hst hz
      exact M29
     ·exact M23
     ·obtain ⟨b1,b2⟩:=b
      obtain rfl:b2=false:=hb2
      rw [hk1] at c0 hbn
      have hpe:(ye.er == 0)=false:=Ki.2 hz
      clear hk1 hst hz hb2
      exact M29
    ·obtain rfl:kk=l.length:=by omega
     have hbB:b=B:=by
      have h1:=hob.out
      have h2:r.ev.length=l.length:=by rw [<-HEQ.out,Za]
      rw [<-h2,Jq,HOB.out] at h1
      exact (Zl h1).symm
     subst hbB
     obtain ⟨hf1,hf2⟩:=HFI.out
     have c8:=(brl hbw _ _ hsl).trans hPH
     have c22:=(brl hbw _ _ hsl).trans hER
     have hsw:s1<wr.heap.size:=Ko hsl hbw.size
     have HBW:=Kb (Kd hB8 hbw)
     rcases hf1 with ⟨h1,rfl⟩ | ⟨h1,rfl⟩ | ⟨h1,h2⟩
     ·exact N62
     ·exact N62
     ·obtain ⟨b1,b2⟩:=b
      obtain rfl:b2=true:=h2
      rcases h1 with h1 | h1
      ·exact N62
      ·have he:(r.s.er == 0)=false:=Ki.2 (hf2.1 h1)
       have HNE:=Kb (hf2.1 h1)
       rw [h1] at c8
       clear hf2 h1 hob hbw hPH hER
       go_wp2_with fail
       go_ret
       exact ⟨ret_bool (by simp [HNE.out,bne]),HBW.out⟩
end Go.Proofs.YtjdhaacmlpegoaaGreatDoor
