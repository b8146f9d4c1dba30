/- Part 23 of what the proof needs: YFI YC YD YK2 YI. -/
import Derived.Test.YtjdhaacmlpegoaaGreatDoorU22
set_option maxRecDepth 20000
set_option maxHeartbeats 16000000
set_option linter.unusedSimpArgs false
set_option linter.unusedVariables false
namespace Go.Proofs.YtjdhaacmlpegoaaGreatDoor
open Go.RowKit
abbrev exU:ByteArray:=⟨#[104,116,116,112,58,47,47,97,46,99,111,109,47,120]⟩
abbrev exG:ByteArray:=⟨#[104,116,116,112,58,47,47,97,46,99,111,109]⟩
abbrev exM:ByteArray:=⟨#[71,69,84]⟩
def exS:FSt:=newS 0 exM exU exG 2 [] ⟨#[]⟩ false
theorem ex_ph:(beginF [] 0 exS []).s.ph=1:=by decide +kernel
theorem ex_ck:(beginF [] 0 exS []).s.ck=false:=by decide +kernel
theorem ex_ev:(beginF [] 0 exS []).ev.map (fun e=>(e.k,e.ur.data.toList))=[(1,exU.data.toList)]:=by decide +kernel
theorem ex_hd:(headF [] 0 200 [] (beginF [] 0 exS []).s (beginF [] 0 exS []).c).ev.map (fun e=>(e.k,e.st))=[(2,200)]:=by decide +kernel
theorem one_of {α β:Type}{l:List α}{f:α->β}{y:β}(h:l.map f=[y]):∃ x,l=[x]/\f x=y:=by
 match l,h with
 | [x],h=>exact ⟨x,rfl,by simpa using h⟩
 | [],h=>simp at h
 | _ :: _ :: _,h=>simp at h
theorem evs_one [Prot]{M:Nat->Prop}{n:Nat}{w:World}{v:Value}{l:List (Value × Ev)}{e:Ev}(h:Evs M n w v l [e]):∃ (b o c:Nat) (u:Value),v = .slice (some ⟨b,o,none⟩) 1 c/\b<w.heap.size/\¬ M b/\∀ j x,(evC (u,e))[j]? = some x->w.cell? ⟨b,o+j,none⟩=some x:=by
 obtain ⟨⟨u,e'⟩,rfl,rfl⟩:=one_of h.eq;obtain ⟨ea,ek,hv,_⟩:=own_reads h.own;obtain ⟨b,o,c,he,hb,hc⟩:=slk_at (SlK.of_own evC_len h.own) (by show 0<1;decide);refine ⟨b,o,c,u,he,hb,h.far b ?_,fun j x hx=>by have:=hc 0 (by show 0<1;decide) j x hx;simpa using this⟩;rcases h.own.2 with ⟨h1,_⟩ | ⟨g,cap,cur,h1,_⟩
 ·rw [h1] at he;cases he
 ·rw [h1] at he;injection he with he _ _;injection he with he;injection he with he;rw [h1,<-he];rfl
theorem fitP {w:World}(hM:MaxAt w){w3:World}(hb:Below w.heap.size w w3)(hJ:AtL w3 w.heap.size [.slice none 0 0,.int .i64 0])(hC:AtL w3 (w.heap.size+1) [.slice none 0 0]): @EnvP ⟨fun _=>False⟩ w3 w.heap.size (w.heap.size+1) w.heap.size (.slice none 0 0) (.slice none 0 0) [] 0 []:=
 @EnvP.mk ⟨fun _=>False⟩ w3 w.heap.size (w.heap.size+1) w.heap.size (.slice none 0 0) (.slice none 0 0) [] 0 [] (hM.below hb lr) hM.lt lr (Jo _) (by omega)
  ⟨hJ,World.ownsRow_nil _ _ _ _,by simp [Value.ownBlock],hb.size⟩ ⟨hC,World.ownsRow_nil _ _ _ _,by simp [Value.ownBlock],hb.size,(fun x hx=>by cases hx),(fun x hx=>by cases hx)⟩ (by simp [Value.ownBlock]) (by simp [Value.ownBlock]) (fun g hg=>by simp [Value.ownBlock] at hg) (fun x hx=>by cases hx) (fun b h=>h.elim)
theorem ex_begin {w w3 w4:World}{x:Ending}(hM:MaxAt w)(hb:Below w.heap.size w w3)(q : @BeginR ⟨fun _=>False⟩ w3 w.heap.size (w.heap.size+1) w.heap.size (.slice none 0 0) [] 0 (.slice none 0 0) (beginF [] 0 exS []) x w4):
 ∃ (L : List Value) (b o c : Nat) (u : Value) (e : Ev) (vc : Value) (lx : List Ee), x = .returned (.tuple #[.agg L.toArray, .slice (some ⟨b, o, none⟩) 1 c]) ∧ (L.length = 23 ∧ L.all (·.oneCell') = true) ∧ (e.k = 1 ∧ e.ur = exU) ∧ (b < w4.heap.size ∧ ∀ j x, (evC (u, e))[j]? = some x → w4.cell? ⟨b, o + j, none⟩ = some x) ∧ Kp w3.heap.size (fun k => k = w.heap.size ∨ k = w.heap.size + 1) w3 w4 ∧
   ¬ MuP w.heap.size (w.heap.size+1) (.slice none 0 0) vc b/\(∀ k,k<w3.heap.size->MuP w.heap.size (w.heap.size+1) (.slice none 0 0) vc k->k=w.heap.size\/k=w.heap.size+1)/\∀ w5,Below w4.heap.size w4 w5->AtL w5 w4.heap.size L->@FIn ⟨fun _=>False⟩ w5 w4.heap.size w.heap.size (w.heap.size+1) w.heap.size (.slice none 0 0) [] 0 vc lx (beginF [] 0 exS []).s/\lx.map (·.2)=(beginF [] 0 exS []).c:=by
 obtain ⟨va,vk,wa,wk,v,l,vc,lx,rfl,E4,hc4,hq4,hh4,ev4,K4,M4,_⟩:=q;obtain ⟨e,he,hf⟩:=one_of ex_ev;rw [he] at ev4;obtain ⟨b,o,c,u,rfl,hb4,hm,hcell⟩:=@evs_one ⟨fun _=>False⟩ _ _ _ _ _ _ ev4;injection hf with hf1 hf2;have hMu:∀ k,MuP w.heap.size (w.heap.size+1) (.slice none 0 0) (.slice none 0 0) k->k=w.heap.size\/k=w.heap.size+1:=by
  rintro k (h | h | h | h)
  ·exact .inl h
  ·exact .inr h
  ·simp [Value.ownBlock] at h
  ·simp [Value.ownBlock] at h
 refine ⟨_,b,o,c,u,e,vc,lx,rfl,⟨rfl,rfl⟩,⟨hf1,ba_ext' hf2⟩,⟨hb4,hcell⟩,⟨K4.os,K4.tape,K4.output,K4.size,fun k hk hn=>K4.block k hk fun h=>hn (hMu k h)⟩,hm,fun k hk h=>hMu k (M4 k hk h),fun w5 h5 S5=>⟨@FIn.mk ⟨fun _=>False⟩ _ _ _ _ _ _ _ _ _ _ _ (@EnvP.mk' w4 w5 w4.heap.size w.heap.size (w.heap.size+1) w.heap.size _ vc [] 0 lx (fun _=>False) ⟨fun _=>False⟩ E4 h5 lr S5.lt (fun b h=>h.elim) (fun b h=>h.elim)) ⟨va,vk,wa,wk,S5,?_,?_⟩,hc4⟩⟩
 all_goals
  refine ⟨SlK.below (by first | exact hq4.1 | exact hh4.1) h5 lr,fun h0 b off n c e2 hm2=>?_⟩;rcases hm2 with (hm2 | hm2) | hm2
  ·have:=slk_lt (by first | exact hq4.1 | exact hh4.1) h0 e2;omega
  ·first | exact hq4.2 h0 b off n c e2 (.inl hm2) | exact hh4.2 h0 b off n c e2 (.inl hm2)
  ·exact hm2
theorem fit_is45 (w:World)(hM:MaxAt w):Calls Tryz.prog 11 #[] w fun e w'=>e = .returned (.bool true)/\Below w.heap.size w w':=by
 have hal1:=(Kc w).alloc lr (.cells [.slice none 0 0,.int .i64 0].toArray 24);have hal2:=hal1.alloc (by simp) (.cells [.slice none 0 0].toArray 79);have hal3:=hal2.alloc (by simp;omega) (.cells (envL w.heap.size (w.heap.size+1) 0).toArray 83);have J3:=((AtL.new w [.slice none 0 0,.int .i64 0] 24).alloc (.cells [.slice none 0 0].toArray 79)).alloc (.cells (envL w.heap.size (w.heap.size+1) 0).toArray 83);have C3:=(AtL.new (w.alloc (.cells [.slice none 0 0,.int .i64 0].toArray 24)) [.slice none 0 0] 79).alloc (.cells (envL w.heap.size (w.heap.size+1) 0).toArray 83);have E3:=AtL.new ((w.alloc (.cells [.slice none 0 0,.int .i64 0].toArray 24)).alloc (.cells [.slice none 0 0].toArray 79)) (envL w.heap.size (w.heap.size+1) 0) 83;rw [show (w.alloc (.cells [.slice none 0 0,.int .i64 0].toArray 24)).heap.size=w.heap.size+1 by simp] at C3;rw [show ((w.alloc (.cells [.slice none 0 0,.int .i64 0].toArray 24)).alloc (.cells [.slice none 0 0].toArray 79)).heap.size=w.heap.size+1+1 by simp] at E3;have EP:=fitP hM hal3 J3 C3;have CB:=Kb (@Begin_is ⟨fun _=>False⟩ _ _ _ _ _ _ _ _ _ 0 0 EP 0 exM exU exG 2 (.slice none 0 0) [] ⟨#[]⟩ false (slk0 _) (newS_ok (Kh _) (fun h hh=>by cases hh) (by decide) (by decide)) ⟨Kh _,fun c hc=>by cases hc⟩ ⟨Kh _,fun c hc=>by cases hc⟩ (by decide) (by decide) 0 (beginF [] 0 exS []) rfl);have HM:=Kb hM;have hok:=beginF_ok (n:=0) (m:=100) (by decide) [] 0 (S:=exS) (newS_ok (Kh _) (fun h hh=>by cases hh) (by decide) (by decide)) (C:=[]) ⟨Kh _,fun c hc=>by cases hc⟩;have HOK:=Kb hok;clear EP J3 C3 hal1 hal2 hok;go_enter Tryz.func11,Tryz.ntmps11;go_upto_region 4 with fail;obtain ⟨w3,hw3⟩:∃ w3:World,((w.alloc (.cells [.slice none 0 0,.int .i64 0].toArray 24)).alloc (.cells [.slice none 0 0].toArray 79)).alloc (.cells (envL w.heap.size (w.heap.size+1) 0).toArray 83)=w3:=⟨_,rfl⟩
 rw [hw3] at CB hal3 E3;rw [hw3];have hs3:w3.heap.size=w.heap.size+3:=by rw [<-hw3];simp
 have HEX:=Kb (fun (x:Ending) (w4:World)=>@ex_begin w w3 w4 x HM.out hal3);clear hw3 hM;have q_:=E3.o3;have el3:=E3.lt
 go_upto_region 5 with (first
  | ((with_reducible refine CB.out.mono ?_);rintro e4 w4 hq4;obtain ⟨L,b1,o1,k1,u1,ev1,vc4,lx4,rfl,hL,hev,⟨hbl,hcell⟩,K4,hmu,hM4,hF⟩:=HEX.out _ _ hq4;have HL:=Kb hL;have Z5:=AtL.new w4 fz 40;have E4:=E3.kp K4 E3.lt (by rintro (h | h) <;> omega);clear hq4 hL)
  | (refine wpList_store_at rfl 40 _ _ rfl w4.heap.size L rfl rfl Z5 HL.out.1 (by rw [HL.out.1];kernel_rfl) HL.out.2 ?_)
  | fail)
 have h45:=Below.sets (k:=w4.heap.size) lr (o:=0) L ((Kc w4).alloc lr (.cells fz.toArray 40));have S5:=AtL.sets (vs:=L) Z5 HL.out.1;obtain ⟨w5,hw5⟩:∃ w5:World,(w4.alloc (.cells fz.toArray 40)).setCells w4.heap.size 0 L=w5:=⟨_,rfl⟩
 rw [hw5] at h45 S5;rw [hw5];obtain ⟨F5,hc5⟩:=hF w5 h45 S5;have E5:=E4.next h45;have h34:=K4.size;have h45s:=h45.size;have hB4:Below w.heap.size w w4:=hal3.trans (K4.low (by omega) (by rintro b (h | h) <;> omega));have hB5:=hB4.trans (h45.mono hB4.size);have hge:=@EnvIn.mge ⟨fun _=>False⟩ _ _ _ _ _ _ _ _ _ _ (@FIn.env ⟨fun _=>False⟩ _ _ _ _ _ _ _ _ _ _ _ F5);have hb1s:¬ Mu w4.heap.size w.heap.size (w.heap.size+1) (.slice none 0 0) vc4 b1:=by
  rintro (h | h)
  ·omega
  ·exact hmu h
 have hph:=ex_ph;obtain ⟨p,hp⟩:=Ka (headA 0 200 [] (beginF [] 0 exS []).s ([],0) (lx4.map (·.2)));have hpe:p.2.ev.map (fun e=>(e.k,e.st))=[(2,200)]:=by rw [<-hp,hc5];unfold headA jarH;rw [Kf hph,ex_ck,Ke (by decide)];exact ex_hd
 obtain ⟨e2,he2,hf2⟩:=one_of hpe;injection hf2 with hf3 hf4;have CH:=Kb (@head_is ⟨fun _=>False⟩ _ _ _ _ _ _ _ _ _ _ _ 0 100 F5 HOK.out.s ⟨Kh _,fun c hc=>by cases hc⟩ (by rw [hc5];exact HOK.out.c) (by decide) (by decide) (by decide) (by decide) (by decide) 200 (.slice none 0 0) [] (@Hs.nil ⟨fun _=>False⟩ _ _) (HOk.nil 8) (fun h=>by obtain ⟨_,h,_⟩:=h;cases h) 0 p hp);have hc1:∀ j x,(evC (u1,ev1))[j]? = some x->w5.cell? ⟨b1,o1+j,none⟩=some x:=fun j x hx=>(brl h45 _ _ hbl).trans (hcell j x hx);have HQ:Hid (∀ (x:Ending) (w6:World),@HeadQ ⟨fun _=>False⟩ w5 w4.heap.size w.heap.size (w.heap.size+1) w.heap.size (.slice none 0 0) vc4 p.1 p.2 x w6->∃ (b2 o2 k2:Nat) (u2:Value),x = .returned (.slice (some ⟨b2,o2,none⟩) 1 k2)/\b2<w6.heap.size/\(w6.cell? ⟨b2,o2,none⟩=some (.int .i64 2)/\w6.cell? ⟨b2,o2+5,none⟩=some (.int .i64 200))/\(w6.cell? ⟨b1,o1,none⟩=some (.int .i64 1)/\w6.cell? ⟨b1,o1+2,none⟩=some (.string exU))/\b1<w6.heap.size/\Below w.heap.size w w6):=Kb (by
  intro x w6 q;obtain ⟨v,l,vj',vc',lx',rfl,_,_,ev6,K6,_⟩:=q;rw [he2] at ev6;obtain ⟨b2,o2,k2,u2,rfl,hb2,_,hc2⟩:=@evs_one ⟨fun _=>False⟩ _ _ _ _ _ _ ev6;have hb15:b1<w5.heap.size:=by omega
  have d0:=hc2 0 _ rfl;have d5:=hc2 5 _ rfl;have g0:=(K6.cell hb15 hb1s).trans (hc1 0 _ rfl);have g2:=(K6.cell hb15 hb1s).trans (hc1 2 _ rfl);simp only [Ku] at d0 g0;refine ⟨b2,o2,k2,u2,rfl,hb2,⟨by rw [d0];exact Kq some (by show Value.int .i64 e2.k=_;rw [hf3]),by rw [d5];exact Kq some (by show Value.int .i64 e2.st=_;rw [hf4])⟩,⟨by rw [g0];exact Kq some (by show Value.int .i64 ev1.k=_;rw [hev.1]),by rw [g2];exact Kq some (by show Value.string ev1.ur=_;rw [hev.2])⟩,by have:=K6.size;omega,hB5.trans ((K6.low (n:=w5.heap.size) (B:=w.heap.size) (by have:=hB5.size;omega) hge).mono lr)⟩)
 clear hw5 Z5 S5 F5 hc5 hF hcell hc1 hmu hM4 hev K4 E4 E3 q_ el3 hp hpe he2 hf3 hf4 hph hge hbl hb1s;have q_:=E5.o3;have el5:=E5.lt
 go_wp2_with (first
  | ((with_reducible refine CH.out.mono ?_);rintro e6 w6 hq6;obtain ⟨b2,o2,k2,u2,rfl,hb2,⟨d0,d5⟩,⟨g0,g2⟩,hb1,hB6⟩:=HQ.out _ _ hq6)
  | fail)
 go_ret;exact ⟨rfl,hB6⟩
def nA (l:List Ev):Nat:=(l.filter (fun e=>decide (e.k=1))).length
theorem nA_app (a b:List Ev):nA (a ++ b)=nA a+nA b:=by unfold nA;rw [Zs,Kw]
theorem nA_data (p:ByteArray)(S:FSt):nA (dataF p S).2=0:=by
 unfold dataF;split
 ·split
  ·rfl
  ·split <;> rfl
 ·rfl
structure TakeO (h:Nat)(o:Out):Prop where
 ph:o.s.ph=1\/o.s.ph=2\/o.s.ph=3\/o.s.ph=4
 h1:h<=o.s.ho
 h2:o.s.ho<=10
 n:nA o.ev+h<=o.s.ho
 w:o.s.ph=1->h+1<=o.s.ho
structure SendO (h:Nat)(o:Out):Prop where
 ph:o.s.ph=1\/o.s.ph=3\/o.s.ph=4
 h1:h<=o.s.ho
 h2:o.s.ho<=10
 n:nA o.ev+h<=o.s.ho+1
theorem failO_take {S:FSt}(C:List En)(e:Int){h:Nat}(h1:h<=S.ho)(h2:S.ho<=10):TakeO h (failO S C e):=
 ⟨.inr (.inr (.inr rfl)),h1,h2,by show 0+h<=S.ho;omega,fun e=>absurd e (by show (4:Int)≠1;decide)⟩
theorem redirF_take {snd:FSt->List En->Out}{S:FSt}(h10:S.ho<=10)(hs:∀ S' C,S'.ho=S.ho+1->S'.ho<=10->SendO (S.ho+1) (snd S' C))(st:Int)(loc:ByteArray)(C:List En):TakeO S.ho (redirF snd st loc S C):=by
 unfold redirF;split
 ·exact failO_take C 16 lr h10
 ·split
  ·exact failO_take (S:={ S with ho:=S.ho+1 }) C 17 (Jo _) (by show S.ho+1<=10;omega)
  ·split
   ·exact failO_take (S:={ S with ho:=S.ho+1 }) C 17 (Jo _) (by show S.ho+1<=10;omega)
   ·split
    ·exact failO_take (S:={ S with ho:=S.ho+1 }) C 15 (Jo _) (by show S.ho+1<=10;omega)
    ·next u hu _ _=>
     have h:=hs { setU S u with ho:=S.ho+1,sm:=nextM st S.sm } C rfl (by show S.ho+1<=10;omega);obtain ⟨a1,a2,a3,a4⟩:=h;exact ⟨by omega,by omega,a3,by omega,fun _=>a2⟩
theorem headO_take (st:Int)(hd:List Hd){S:FSt}(h10:S.ho<=10)(C:List En):TakeO S.ho (headO st hd S C):=by
 unfold headO;split
 ·exact failO_take (S:={ S with hi:=decide (S.mo=4) && fgB S }) C 15 lr h10
 ·refine ⟨.inr (.inl rfl),lr,h10,?_,fun e=>absurd e (by show (2:Int)≠1;decide)⟩;show nA [if _ then _ else _]+S.ho<=S.ho;split
  ·show 0+S.ho<=S.ho;omega
  ·show 0+S.ho<=S.ho;omega
theorem takeF_take {snd:FSt->List En->Out}{S:FSt}(h10:S.ho<=10)(hs:∀ S' C,S'.ho=S.ho+1->S'.ho<=10->SendO (S.ho+1) (snd S' C))(net:Bool)(now st:Int)(hd:List Hd)(C:List En):TakeO S.ho (takeF snd net now st hd S C):=by
 unfold takeF;split
 ·split
  ·exact failO_take C 15 lr h10
  ·exact redirF_take h10 hs _ _ _
 ·exact headO_take _ _ h10 _
theorem dataF_ho (p:ByteArray)(S:FSt):(dataF p S).1.ho=S.ho:=by
 unfold dataF;split
 ·split <;> rfl
 ·rfl
theorem dataF_ph (p:ByteArray){S:FSt}(h:S.ph=2):(dataF p S).1.ph=2\/(dataF p S).1.ph=4:=by
 unfold dataF;rw [Kf h];split
 ·exact .inr rfl
 ·exact .inl h
theorem restF_take (p:ByteArray){h:Nat}{o:Out}(k:TakeO h o):TakeO h (restF p o)/\(restF p o).s.ph≠2:=by
 obtain ⟨k1,k2,k3,k4,k5⟩:=k;unfold restF;split
 ·next h2=>
  have e:=dataF_ho p o.s;have e2:=nA_data p o.s;split
  ·refine ⟨⟨.inr (.inr (.inl rfl)),by show h<=(dataF p o.s).1.ho;omega,by show (dataF p o.s).1.ho<=10;omega,?_,fun e=>absurd e (by show (3:Int)≠1;decide)⟩,by show (3:Int)≠2;decide⟩;show nA (o.ev ++ (dataF p o.s).2 ++ [endV])+h<=(dataF p o.s).1.ho;rw [nA_app,nA_app,e2,e];show nA o.ev+0+0+h<=o.s.ho;omega
  ·next hn=>
   have h4:(dataF p o.s).1.ph=4:=(dataF_ph p h2).resolve_left hn;refine ⟨⟨.inr (.inr (.inr h4)),by show h<=(dataF p o.s).1.ho;omega,by show (dataF p o.s).1.ho<=10;omega,?_,fun e=>absurd e (by show (dataF p o.s).1.ph≠1;omega)⟩,hn⟩;show nA (o.ev ++ (dataF p o.s).2)+h<=(dataF p o.s).1.ho;rw [nA_app,e2,e];omega
 ·next hn=>exact ⟨⟨k1,k2,k3,k4,k5⟩,hn⟩
theorem askO_send (J:List Ck)(now:Int){S:FSt}(C:List En)(more:List Hd)(ch:Bool)(h10:S.ho<=10):SendO S.ho (askO J now S C more ch):=
 ⟨.inl rfl,lr,h10,by show 1+S.ho<=S.ho+1;omega⟩
theorem sendF_send (J:List Ck)(now:Int):∀ (k:Nat) (S:FSt) (C:List En),S.ho<=10->10<k+S.ho->SendO S.ho (sendF J now k S C)
 | 0,S,C,h1,h2=>by omega
 | k + 1, S, C, h1, h2 => by
   unfold sendF
   split
   ·simp only
    split
    ·obtain ⟨⟨a1,a2,a3,a4,a5⟩,a6⟩:=restF_take (askF C (txB S) (hdF S) now).e.bo (takeF_take (S:={ S with ch:=false }) h1 (fun S' C hh hl=>by
      have hh:S'.ho=S.ho+1:=hh
      have:=sendF_send J now k S' C hl (by omega)
      rw [hh] at this
      exact this) false now (askF C (txB S) (hdF S) now).e.st (askF C (txB S) (hdF S) now).e.hd (askF C (txB S) (hdF S) now).c)
     exact ⟨by rcases a1 with h | h | h | h
               ·exact .inl h
               ·exact absurd h a6
               ·exact .inr (.inl h)
               ·exact .inr (.inr h),a2,a3,by
      have a4:nA (storedF (sendF J now k) now (askF C (txB S) (hdF S) now).e S (askF C (txB S) (hdF S) now).c).ev+S.ho<=(storedF (sendF J now k) now (askF C (txB S) (hdF S) now).e S (askF C (txB S) (hdF S) now).c).s.ho:=a4
      omega⟩
    ·split
     ·exact askO_send J now _ _ _ h1
     ·exact askO_send J now _ _ _ h1
   ·exact askO_send J now _ _ _ h1
theorem beginF_send (J:List Ck)(now:Int){S:FSt}(C:List En)(h0:S.ho=0):SendO 0 (beginF J now S C):=by
 have hf:∀ e,SendO 0 (failO S C e):=fun e=>⟨.inr (.inr rfl),Kh _,by show S.ho<=10;omega,by show 0+0<=S.ho+1;omega⟩
 unfold beginF;split
 ·exact hf 1
 ·split
  ·exact hf 4
  ·split
   ·exact hf 4
   ·split
    ·exact hf 15
    ·next u hu _ _=>
     have h:=sendF_send J now 11 { putU S u with sm:=S.me } C (by show S.ho<=10;omega) (by show 10<11+S.ho;omega);have e:({ putU S u with sm:=S.me }:FSt).ho=0:=h0;rw [e] at h;exact h
abbrev trueS:ByteArray:=⟨#[116,114,117,101]⟩
def qmS (i:Nat):ByteArray:=⟨#[63,UInt8.ofNat (97+i)]⟩
def rdHs (og:ByteArray)(i:Nat):List Hd:=[(loN,qmS i),(acoC,og),(accC,trueS)]
theorem rd_lo (og:ByteArray)(i:Nat):hdrL (rdHs og i) loN.data.toList=some (qmS i):=rfl
theorem rd_val (og:ByteArray)(i:Nat):valL (rdHs og i) loN.data.toList=qmS i:=rfl
theorem low_ne1:(lowL loN.data.toList == lowL acoL)=false:=by decide +kernel
theorem low_ne2:(lowL loN.data.toList == lowL accL)=false:=by decide +kernel
theorem low_ne3:(lowL acoC.data.toList == lowL accL)=false:=by decide +kernel
theorem low_eq1:(lowL acoC.data.toList == lowL acoL)=true:=by decide +kernel
theorem low_eq2:(lowL accC.data.toList == lowL accL)=true:=by decide +kernel
theorem rd_aco (og:ByteArray)(i:Nat):hdrL (rdHs og i) acoL=some og:=by unfold hdrL rdHs;rw [List.find?_cons_of_neg (by unfold hitH;rw [low_ne1];decide),List.find?_cons_of_pos (by unfold hitH;exact low_eq1)];rfl
theorem rd_acc (og:ByteArray)(i:Nat):hdrL (rdHs og i) accL=some trueS:=by unfold hdrL rdHs;rw [List.find?_cons_of_neg (by unfold hitH;rw [low_ne2];decide),List.find?_cons_of_neg (by unfold hitH;rw [low_ne3];decide),List.find?_cons_of_pos (by unfold hitH;exact low_eq2)];rfl
theorem low_ncc (og:ByteArray)(i:Nat)(h:Hd)(hh:h∈rdHs og i):¬ lowL h.1.data.toList=ccN/\hitH etS.data.toList h=false/\hitH lmS.data.toList h=false:=by
 unfold rdHs at hh;rcases Ji.1 hh with rfl | hh
 ·exact ⟨by show ¬ lowL loN.data.toList=ccN;decide +kernel,by show (lowL loN.data.toList == lowL etS.data.toList)=false;decide +kernel,by show (lowL loN.data.toList == lowL lmS.data.toList)=false;decide +kernel⟩
 ·rcases Ji.1 hh with rfl | hh
  ·exact ⟨by show ¬ lowL acoC.data.toList=ccN;decide +kernel,by show (lowL acoC.data.toList == lowL etS.data.toList)=false;decide +kernel,by show (lowL acoC.data.toList == lowL lmS.data.toList)=false;decide +kernel⟩
  ·obtain rfl:=Jc.1 hh;exact ⟨by show ¬ lowL accC.data.toList=ccN;decide +kernel,by show (lowL accC.data.toList == lowL etS.data.toList)=false;decide +kernel,by show (lowL accC.data.toList == lowL lmS.data.toList)=false;decide +kernel⟩
theorem dir_none:∀ (hs:List Hd)(D:Dir) ,(∀ h∈hs,¬ lowL h.1.data.toList=ccN)->hs.foldl dirOne D=D
 | [],_,_=>rfl
 | h :: hs, D, hn => by
   rw [Xc]
   have e:dirOne D h=D:=by unfold dirOne;rw [Ke (hn h Jz)]
   rw [e]
   exact dir_none hs D fun x hx=>hn x (Jg _ hx)
theorem rd_life (og:ByteArray)(i:Nat):lifeL (rdHs og i)=0:=by unfold lifeL dirL;rw [dir_none _ _ fun h hh=>(low_ncc og i h hh).1,Kf (.inr (by decide))]
theorem rd_chk (og:ByteArray)(i:Nat):chkL (rdHs og i)=[]:=by
 have h1:hdrL (rdHs og i) etS.data.toList=none:=by unfold hdrL;rw [List.find?_eq_none.2 fun h hh=>by rw [(low_ncc og i h hh).2.1];decide];rfl
 have h2:hdrL (rdHs og i) lmS.data.toList=none:=by unfold hdrL;rw [List.find?_eq_none.2 fun h hh=>by rw [(low_ncc og i h hh).2.2];decide];rfl
 unfold chkL;rw [h1,h2];rfl
theorem rd_stor (st:Int)(rq:List Hd)(og:ByteArray)(i:Nat):storL st rq (rdHs og i)=false:=by unfold storL;rw [rd_life,rd_chk];simp
theorem rd_keep (S:FSt)(st:Int)(i:Nat)(now:Int):keepF S st (rdHs S.og i) eS now []=[]:=by
 unfold keepF;split
 ·unfold putEs;rw [rd_stor];rfl
 ·rfl
theorem askF_nil (url:ByteArray)(rq:List Hd)(now:Int):askF [] url rq now=⟨1,en0,[],[]⟩:=rfl
theorem sendF_nil (J:List Ck)(now:Int)(k:Nat)(S:FSt):sendF J now (k+1) S []=askO J now S [] [] false:=by
 unfold sendF;split
 ·show (if (askF [] (txB S) (hdF S) now).k=2 then _ else if (askF [] (txB S) (hdF S) now).k=3 then _ else _)=_;rw [Ke (by rw [askF_nil];decide),Ke (by rw [askF_nil];decide)];rfl
 ·rfl
structure Live (og:ByteArray)(S:FSt):Prop where
 og:S.og=og
 m1:1<=S.mo
 m4:S.mo<=4
 m2:S.mo=2->fgB S=false
 u:∃ n a b c d f,S.u=(n,a,b,c,d,f)/\Site n a b c d f
theorem Live.rd {og:ByteArray}{S:FSt}(h:Live og S)(i:Nat):rdF S (rdHs S.og i)=true:=by
 unfold rdF readB;have h1:=h.m1;have h4:=h.m4;by_cases e4:S.mo=4
 ·rw [Kx e4];rfl
 ·by_cases e1:S.mo=1
  ·rw [Kx e1];simp
  ·by_cases e2:S.mo=2
   ·have hf:=h.m2 e2;unfold fgB at hf;have hf2:(orgL S.u == S.og.data.toList)=true:=by simpa using hf
    have e3:((bs (orgL S.u)).toList == S.og.toList)=true:=by rw [beq_lists];exact hf2
    rw [e3];simp
   ·have e3:S.mo=3:=by omega
    have ha:valL (rdHs S.og i) acoL=S.og:=by unfold valL;rw [rd_aco];rfl
    have hc:valL (rdHs S.og i) accL=trueS:=by unfold valL;rw [rd_acc];rfl
    have ht:(trueS.toList == [116,114,117,101])=true:=by decide +kernel
    rw [Kx e3,rd_aco,ha,hc,ht];simp
def qL (i:Nat):List UInt8:=[UInt8.ofNat (97+i)]
theorem q_site {n a b c d f:List UInt8}(s:Site n a b c d f)(f':List UInt8)(hf:f'=[]\/f'=f)(i:Nat)(hi:i<13):Site n a b c (qL i) f':=by
 have hq:conv (innerL ++ [63]) true (qL i)=qL i/\(qL i).all (okC (innerL ++ [63]))=true:=by
  have:∀ i:Fin 13,conv (innerL ++ [63]) true (qL i.1)=qL i.1/\(qL i.1).all (okC (innerL ++ [63]))=true:=by decide +kernel
  exact this ⟨i,hi⟩
 have hff:conv (innerL ++ [63]) true f'=f'/\∀ x∈f',okC (innerL ++ [63]) x=true\/x=37:=by
  rcases hf with rfl | rfl
  ·exact ⟨by decide +kernel,fun x hx=>by cases hx⟩
  ·exact ⟨s.ffix,s.fmem⟩
 exact ⟨s.sch,s.hlow,s.hlen,s.hok,s.pok,s.clean,s.pfix,s.pmem,hq.1,all_mem hq.2,hff.1,hff.2⟩
theorem q_resolve {n a b c d f:List UInt8}(s:Site n a b c d f)(i:Nat)(hi:i<13):resolveL (n,a,b,c,d,f) (validB (n,a,b,c,d,f)) (trimL (qmS i).data.toList)=some (n,a,b,c,qL i,[]):=by
 have hn:n≠aboutL:=by rcases s.sch with rfl | rfl <;> decide
 have hv:validB (n,a,b,c,d,f)=true:=(valid_iff _).2 (site_parse s);have ht:trimL (qmS i).data.toList=63 :: qL i/\schemeOk (63 :: qL i)=false/\(63 :: qL i).take 2≠[47,47]:=by
  have:∀ i:Fin 13,trimL (qmS i.1).data.toList=63 :: qL i.1/\schemeOk (63 :: qL i.1)=false/\(63 :: qL i.1).take 2≠[47,47]:=by decide +kernel
  exact this ⟨i,hi⟩
 rw [ht.1,hv];unfold resolveL;rw [ht.2.1,Ke (by decide),Ke (by decide),Ke (by simp),Ke (by simp),Ke hn,Ke ht.2.2,Ke (by simp),Kf (by rfl)];have hs:=site_parse (q_site s [] (.inl rfl) i hi);have e:placeL (n,a,b,c,d,f) ++ c ++ 63 :: qL i=formatL (n,a,b,c,qL i,[]):=by unfold formatL;rw [Ke hn];simp [tailL,placeL,qL]
 show parseL (placeL (n,a,b,c,d,f) ++ c ++ 63 :: qL i)=_;rw [e];exact hs
theorem org_site {n a b c d f:List UInt8}(s:Site n a b c d f):orgL (n,a,b,c,d,f)=placeL (n,a,b,c,d,f):=org_of (site_parse s) (show n≠aboutL by rcases s.sch with rfl | rfl <;> decide)
theorem web_site {n a b c d f:List UInt8}(s:Site n a b c d f):webB (bs n)=true:=by rcases s.sch with rfl | rfl <;> decide +kernel
theorem Live.step {og:ByteArray}{S:FSt}(h:Live og S)(J:List Ck)(now st:Int)(hst:movB st=true)(i:Nat)(hi:i<13)(hc:S.ch=false)(h10:S.ho<10):
 ∃ S',Live og S'/\S'.ho=S.ho+1/\S'.ck=S.ck/\headF J now st (rdHs og i) S []=askO J now S' [] [] false:=by
 obtain ⟨n,a,b,c,d,f,hu,s⟩:=h.u;have hog:=h.og;obtain ⟨f',hf',hf2⟩:∃ f',(setU S (n,a,b,c,qL i,[])).u=(n,a,b,c,qL i,f')/\f'=f:=by refine ⟨S.f.data.toList,rfl,?_⟩;have:S.u.2.2.2.2.2=S.f.data.toList:=rfl;rw [<-this,hu]
 have s2:=q_site s f' (.inr hf2) i hi;have hfg:fgB (setU S (n,a,b,c,qL i,[]))=fgB S:=by unfold fgB;rw [hf',hu,org_site s2,org_site s];rfl
 have h2:(decide (S.mo=2) && fgB (setU S (n,a,b,c,qL i,[])))=false:=by
  by_cases e:S.mo=2
  ·rw [hfg,h.m2 e];simp
  ·rw [Kj e];rfl
 refine ⟨{ setU S (n,a,b,c,qL i,[]) with ho:=S.ho+1,sm:=nextM st S.sm },⟨hog,h.m1,h.m4,fun e=>?_,n,a,b,c,qL i,f',hf',s2⟩,rfl,rfl,?_⟩
 ·have:fgB { setU S (n,a,b,c,qL i,[]) with ho:=S.ho+1,sm:=nextM st S.sm }=fgB (setU S (n,a,b,c,qL i,[])):=rfl;rw [this,hfg];exact h.m2 e
 ·subst hog;unfold headF;rw [hc,Bool.false_and,Ke (by decide)];unfold takeF;rw [rd_lo,hst,Kf (by rfl),h.rd i,Ke (by decide),Kf rfl,rd_keep,rd_val];unfold redirF;rw [Ke (by omega),hu,q_resolve s i hi];simp only;rw [web_site s,Ke (by decide),h2,Ke (by decide),sendF_nil]
theorem Live.last {og:ByteArray}{S:FSt}(h:Live og S)(J:List Ck)(now st:Int)(hst:movB st=true)(i:Nat)(hc:S.ch=false)(h10:S.ho=10):headF J now st (rdHs og i) S []=failO S [] 16:=by have hog:=h.og;subst hog;unfold headF;rw [hc,Bool.false_and,Ke (by decide)];unfold takeF;rw [rd_lo,hst,Kf (by rfl),h.rd i,Ke (by decide),Kf rfl,rd_keep];unfold redirF;rw [Kf (by omega)]
def rdOp (og:ByteArray)(st:Int)(i:Nat):Op4:=⟨0,st,rdHs og i,eS⟩
structure RedR (i:Nat)(r:Rn):Prop where
 ph:(r.s.ph=1/\i<=r.s.ho)\/r.s.ph=3\/r.s.ph=4
 ho:r.s.ho<=10
 n:nA r.ev<=r.s.ho+1
theorem RedR.begin (now:Int){S:FSt}(j:List Ck × Int)(C:List En)(h0:S.ho=0):RedR 0 (startF now S j C):=by
 obtain ⟨a1,a2,a3,a4⟩:=beginF_send j.1 now C h0;refine ⟨?_,a3,by show nA (beginF j.1 now S C).ev<=(beginF j.1 now S C).s.ho+1;omega⟩;rcases a1 with h | h | h
 ·exact .inl ⟨h,Kh _⟩
 ·exact .inr (.inl h)
 ·exact .inr (.inr h)
theorem op_rd (now st:Int)(og:ByteArray)(i:Nat)(r:Rn)(h:r.s.ph=1):opF now (rdOp og st i) r=⟨(headF (jarH r.s now (rdHs og i) r.j).1 now st (rdHs og i) r.s r.c).s,jarH r.s now (rdHs og i) r.j,(headF (jarH r.s now (rdHs og i) r.j).1 now st (rdHs og i) r.s r.c).c,r.ev ++ (headF (jarH r.s now (rdHs og i) r.j).1 now st (rdHs og i) r.s r.c).ev⟩:=by unfold opF;rw [Kf (by rfl)];unfold headA;rw [show (rdOp og st i).st=st from rfl,show (rdOp og st i).hs=rdHs og i from rfl,Kf h]
theorem op_rd0 (now st:Int)(og:ByteArray)(i:Nat)(r:Rn)(h:r.s.ph≠1):opF now (rdOp og st i) r=r:=by unfold opF;rw [Kf (by rfl)];unfold headA;rw [Ke h];simp
theorem RedR.step {now st:Int}(hst:movB st=true){og:ByteArray}{i:Nat}{r:Rn}(h:RedR i r):RedR (i+1) (opF now (rdOp og st i) r):=by
 obtain ⟨h1,h2,h3⟩:=h;by_cases hp:r.s.ph=1
 ·rw [op_rd _ _ _ _ _ hp];obtain ⟨J,hJ⟩:=Ka ((jarH r.s now (rdHs og i) r.j).1);rw [hJ];have hi:i<=r.s.ho:=by
   rcases h1 with e | e | e
   ·exact e.2
   ·omega
   ·omega
  have hne:(r.s.ch && decide (st=304))=false:=by
   have:st≠304:=fun e=>by subst e;revert hst;decide
   rw [Kj this];simp
  have ht:TakeO r.s.ho (headF J now st (rdHs og i) r.s r.c)/\(headF J now st (rdHs og i) r.s r.c).s.ph≠2:=by
   unfold headF;rw [hne,Ke (by decide)];refine ⟨takeF_take h2 (fun S' C hh hl=>by have:=sendF_send J now 11 S' C hl (by omega);rw [hh] at this;exact this) true now st _ _,?_⟩;unfold takeF;rw [rd_lo,hst,Kf (by rfl)];have hf:∀ (S:FSt) (C:List En) e,(failO S C e).s.ph≠2:=fun S C e=>by show (4:Int)≠2;decide
   split
   ·exact hf _ _ _
   ·unfold redirF;split
    ·exact hf _ _ _
    ·split
     ·exact hf _ _ _
     ·split
      ·exact hf _ _ _
      ·split
       ·exact hf _ _ _
       ·next u hu _ _=>
        obtain ⟨a1,_⟩:=sendF_send J now 11 { setU r.s u with ho:=r.s.ho+1,sm:=nextM st r.s.sm } (if true=true then keepF r.s st (rdHs og i) eS now r.c else r.c) (by show r.s.ho+1<=10;omega) (by show 10<11+(r.s.ho+1);omega);omega
  obtain ⟨⟨a1,a2,a3,a4,a5⟩,a6⟩:=ht;refine ⟨?_,a3,?_⟩
  ·rcases a1 with e | e | e | e
   ·exact .inl ⟨e,by have:=a5 e;show i+1<=(headF J now st (rdHs og i) r.s r.c).s.ho;omega⟩
   ·exact absurd e a6
   ·exact .inr (.inl e)
   ·exact .inr (.inr e)
  ·show nA (r.ev ++ (headF J now st (rdHs og i) r.s r.c).ev)<=(headF J now st (rdHs og i) r.s r.c).s.ho+1;rw [nA_app];omega
 ·rw [op_rd0 _ _ _ _ _ hp];refine ⟨?_,h2,h3⟩;rcases h1 with e | e
  ·exact absurd e.1 hp
  ·exact .inr e
def RedE (og:ByteArray)(i:Nat)(r:Rn):Prop:=nA r.ev=0/\r.s.ph≠1\/(r.c=[]/\((i<=10/\Live og r.s/\r.s.ch=false/\r.s.ph=1/\r.s.ho=i/\nA r.ev=i+1)\/(10<i/\r.s.ph=4/\r.s.er=16/\nA r.ev=11)))
theorem RedE.begin (now:Int){S:FSt}(j:List Ck × Int)(h0:S.ho=0):RedE S.og 0 (startF now S j []):=by
 have hf:∀ e,RedE S.og 0 ⟨(failO S [] e).s,j,(failO S [] e).c,(failO S [] e).ev⟩:=fun e=>.inl ⟨rfl,by show (4:Int)≠1;decide⟩;unfold startF beginF;split
 ·exact hf 1
 ·next hm=>
  split
  ·exact hf 4
  ·next u hu=>
   split
   ·exact hf 4
   ·next hw=>
    split
    ·exact hf 15
    ·next h2=>
     refine .inr ?_;rw [sendF_nil];have hput:(putU S u).u=u:=by obtain ⟨u1,u2,u3,u4,u5,u6'⟩:=u;rfl
     refine ⟨rfl,.inl ⟨by omega,⟨rfl,by show 1<=S.mo;omega,by show S.mo<=4;omega,fun e=>?_,?_⟩,rfl,rfl,h0,rfl⟩⟩
     ·have e:S.mo=2:=e;have h3:(decide (S.mo=2) && fgB (putU S u))=false:=by simpa using h2
      rw [Kx e,Bool.true_and] at h3;exact h3
     ·show ∃ n a b c d f,(putU S u).u=_/\_;rw [hput];rcases parse_cases hu with ⟨p,g,rfl,_⟩ | h
      ·exact absurd (show webB (bs aboutL)=false by decide +kernel) hw
      ·exact h
theorem RedE.step {now st:Int}(hst:movB st=true){og:ByteArray}{i:Nat}(hi:i<13){r:Rn}(h:RedE og i r):RedE og (i+1) (opF now (rdOp og st i) r):=by
 rcases h with ⟨h1,h2⟩ | ⟨hc,⟨h10,hl,hch,hp,hh,hn⟩ | ⟨h10,hp,he,hn⟩⟩
 ·rw [op_rd0 _ _ _ _ _ h2];exact .inl ⟨h1,h2⟩
 ·rw [op_rd _ _ _ _ _ hp,hc];obtain ⟨J,hJ⟩:=Ka ((jarH r.s now (rdHs og i) r.j).1);rw [hJ];by_cases e10:i=10
  ·rw [hl.last J now st hst i hch (by omega)];refine .inr ⟨rfl,.inr ⟨by omega,rfl,rfl,?_⟩⟩;show nA (r.ev ++ [failV 16])=11;rw [nA_app,hn,e10];rfl
  ·obtain ⟨S',l',ho',_,heq⟩:=hl.step J now st hst i hi hch (by omega);rw [heq];refine .inr ⟨rfl,.inl ⟨by omega,⟨l'.og,l'.m1,l'.m4,l'.m2,l'.u⟩,rfl,rfl,by show S'.ho=i+1;omega,?_⟩⟩;show nA (r.ev ++ _)=i+1+1;rw [nA_app,hn];rfl
 ·rw [op_rd0 _ _ _ _ _ (by omega)];exact .inr ⟨hc,.inr ⟨by omega,hp,he,hn⟩⟩
def rdOps (og:ByteArray)(f:Nat->Int)(n:Nat):List Op4:=(List.range n).map fun i=>rdOp og (f i) i
theorem rdOps_succ (og:ByteArray)(f:Nat->Int)(n:Nat):rdOps og f (n+1)=rdOps og f n ++ [rdOp og (f n) n]:=by unfold rdOps;rw [List.range_succ,Zi];rfl
theorem red_all (now:Int)(f:Nat->Int)(hf:∀ i,movB (f i)=true){S:FSt}(h0:S.ho=0)(j:List Ck × Int)(C:List En):∀ n,n<=13->RedR n (runF now (rdOps S.og f n) (startF now S j C))/\(C=[]->RedE S.og n (runF now (rdOps S.og f n) (startF now S j C)))
 | 0,_=>⟨RedR.begin now j C h0,fun h=>by subst h;exact RedE.begin now j h0⟩
 | n+1,hn=>by
   obtain ⟨h1,h2⟩:=red_all now f hf h0 j C n (by omega)
   rw [rdOps_succ,runF_snoc]
   exact ⟨h1.step (hf n),fun h=>(h2 h).step (hf n) (by omega)⟩
theorem red_end (now:Int)(f:Nat->Int)(hf:∀ i,movB (f i)=true){S:FSt}(h0:S.ho=0)(j:List Ck × Int)(C:List En)(r:Rn)(hr:runF now (rdOps S.og f 13) (startF now S j C)=r):r.s.ph≠1/\r.s.ph≠2/\nA r.ev<=11/\(C.length=0->(r.s.er=16/\nA r.ev=11)\/nA r.ev=0):=by
 obtain ⟨⟨a1,a2,a3⟩,h2⟩:=red_all now f hf h0 j C 13 lr;rw [hr] at a1 a2 a3 h2;refine ⟨by omega,by omega,by omega,fun h=>?_⟩;rcases h2 (List.length_eq_zero_iff.1 h) with ⟨e,_⟩ | ⟨_,⟨e,_⟩ | ⟨_,_,e1,e2⟩⟩
 ·exact .inr e
 ·omega
 ·exact .inl ⟨e1,e2⟩
def EvH (e:Ev):Prop:=e.k=1\/(e.st=0/\e.hs=[]/\e.bo=eS/\e.ur=eS)
def ForR (r:Rn):Prop:=(∀ e∈r.ev,EvH e)/\(r.s.ph=2->r.s.hi=true)/\r.ev≠[]
theorem failV_h (e:Int):EvH (failV e):=.inr ⟨rfl,rfl,rfl,rfl⟩
theorem ForR.data {r:Rn}(h:ForR r)(now:Int)(p:ByteArray):ForR (opF now ⟨1,0,[],p⟩ r):=by
 obtain ⟨h1,h2,h3⟩:=h;unfold opF;rw [Ke (by show ¬ (1:Nat) % 5=0;decide),Kf (by show (1:Nat) % 5=1;decide)];have hd:(∀ e∈(dataF p r.s).2,EvH e)/\((dataF p r.s).1.ph=2->(dataF p r.s).1.hi=true):=by
  unfold dataF;split
  ·next hp=>
   split
   ·exact ⟨fun e he=>by obtain rfl:=Jc.1 he;exact failV_h 5,fun e=>absurd e (by show (4:Int)≠2;decide)⟩
   ·rw [Kf (.inr (h2 hp))];exact ⟨fun e he=>(by cases he),fun _=>h2 hp⟩
  ·exact ⟨fun e he=>(by cases he),h2⟩
 refine ⟨fun e he=>?_,hd.2,fun e=>h3 (List.append_eq_nil_iff.1 e).1⟩;rcases Kz.1 he with he | he
 ·exact h1 e he
 ·exact hd.1 e he
theorem ForR.fin {r:Rn}(h:ForR r)(now:Int):ForR (opF now ⟨2,0,[],eS⟩ r):=by
 obtain ⟨h1,h2,h3⟩:=h;unfold opF;rw [Ke (by show ¬ (2:Nat) % 5=0;decide),Ke (by show ¬ (2:Nat) % 5=1;decide),Kf (by show (2:Nat) % 5=2;decide)];unfold endF;split
 ·refine ⟨fun e he=>?_,fun e=>absurd e (by show (3:Int)≠2;decide),fun e=>h3 (List.append_eq_nil_iff.1 e).1⟩;rcases Kz.1 he with he | he
  ·exact h1 e he
  ·obtain rfl:=Jc.1 he;exact .inr ⟨rfl,rfl,rfl,rfl⟩
 ·refine ⟨fun e he=>?_,h2,fun e=>h3 (List.append_eq_nil_iff.1 e).1⟩;rw [Je] at he;exact h1 e he
theorem op_head (now st:Int)(hs:List Hd)(bo:ByteArray)(r:Rn)(h:r.s.ph=1):opF now ⟨0,st,hs,bo⟩ r=⟨(headF (jarH r.s now hs r.j).1 now st hs r.s r.c).s,jarH r.s now hs r.j,(headF (jarH r.s now hs r.j).1 now st hs r.s r.c).c,r.ev ++ (headF (jarH r.s now hs r.j).1 now st hs r.s r.c).ev⟩:=by unfold opF;rw [Kf (by show (0:Nat) % 5=0;decide)];unfold headA;rw [Kf h]
theorem op_head0 (now st:Int)(hs:List Hd)(bo:ByteArray)(r:Rn)(h:r.s.ph≠1):opF now ⟨0,st,hs,bo⟩ r=r:=by unfold opF;rw [Kf (by show (0:Nat) % 5=0;decide)];unfold headA;rw [Ke h];simp
theorem start_cases (now:Int)(S:FSt)(j:List Ck × Int):(∃ e,startF now S j []=⟨failS S e,j,[],[failV e]⟩)\/(∃ u,parseL S.ur.data.toList=some u/\webB (bs u.1)=true/\(1<=S.mo/\S.mo<=4)/\knownB S.me=true/\(S.mo=2->fgB (putU S u)=false)/\startF now S j []=⟨(askO j.1 now { putU S u with sm:=S.me } [] [] false).s,j,[],(askO j.1 now { putU S u with sm:=S.me } [] [] false).ev⟩):=by
 unfold startF beginF;split
 ·exact .inl ⟨1,rfl⟩
 ·next hm=>
  split
  ·exact .inl ⟨4,rfl⟩
  ·next u hu=>
   split
   ·exact .inl ⟨4,rfl⟩
   ·next hw=>
    split
    ·exact .inl ⟨15,rfl⟩
    ·next h2=>
     refine .inr ⟨u,hu,by simpa using hw,by omega,?_,fun e=>?_,by rw [sendF_nil];rfl⟩
     ·cases hk:knownB S.me with
      | true=>rfl
      | false=>exact absurd (.inr (.inr hk)) hm
     ·have h3:(decide (S.mo=2) && fgB (putU S u))=false:=by simpa using h2
      rw [Kx e,Bool.true_and] at h3;exact h3
theorem putU_u (S:FSt)(u:U6):(putU S u).u=u:=by obtain ⟨u1,u2,u3,u4,u5,u6'⟩:=u;rfl
def secS:ByteArray:=⟨#[115,101,99,114,101,116]⟩
theorem foreign_plain (now:Int)(S:FSt)(j:List Ck × Int)(st:Int)(hs:List Hd)(b:ByteArray)(hst:st<300\/310<=st)(u:U6)(hu:parseL S.ur.data.toList=some u)(ho:(orgL u == S.og.data.toList)=false)(hr:readB S.og S.mo S.ck (bs (orgL u)) hs=false):
 (∀ e∈(runF now [⟨0,st,hs,eS⟩,⟨1,0,[],b⟩,⟨1,0,[],secS⟩,⟨2,0,[],eS⟩] (startF now S j [])).ev,EvH e)/\(runF now [⟨0,st,hs,eS⟩,⟨1,0,[],b⟩,⟨1,0,[],secS⟩,⟨2,0,[],eS⟩] (startF now S j [])).ev≠[]:=by
 have h1:ForR (opF now ⟨0,st,hs,eS⟩ (startF now S j [])):=by
  rcases start_cases now S j with ⟨e,he⟩ | ⟨v,hv,hw,hm,hk,h2,he⟩
  ·rw [he,op_head0 _ _ _ _ _ (by show (4:Int)≠1;decide)];exact ⟨fun x hx=>(by obtain rfl:=Jc.1 hx;exact failV_h e),fun e=>absurd e (by show (4:Int)≠2;decide),by simp⟩
  ·rw [he,op_head _ _ _ _ _ rfl];obtain rfl:u=v:=Zl (hu.symm.trans hv);obtain ⟨J,hJ⟩:∃ J,(jarH (askO j.1 now { putU S u with sm:=S.me } [] [] false).s now hs j).1=J:=⟨_,rfl⟩
   show ForR ⟨(headF (jarH (askO j.1 now { putU S u with sm:=S.me } [] [] false).s now hs j).1 now st hs (askO j.1 now { putU S u with sm:=S.me } [] [] false).s []).s,jarH (askO j.1 now { putU S u with sm:=S.me } [] [] false).s now hs j,_,_⟩;rw [hJ];have hmv:movB st=false:=by unfold movB;rw [Zy];omega
   obtain ⟨T,hT⟩:∃ T,(askO j.1 now { putU S u with sm:=S.me } [] [] false).s=T:=⟨_,rfl⟩
   have hTu:T.u=u:=by rw [<-hT];exact putU_u S u
   have hTg:T.og=S.og:=by rw [<-hT];rfl
   have hTm:T.mo=S.mo:=by rw [<-hT];rfl
   have hTk:T.ck=S.ck:=by rw [<-hT];rfl
   have hTc:T.ch=false:=by rw [<-hT];rfl
   rw [hT];have hf:headF J now st hs T []=headO st hs T []:=by unfold headF;rw [hTc,Bool.false_and,Ke (by decide)];unfold takeF;rw [hmv,Bool.and_false,Ke (by decide)]
   have hrd:rdF T hs=decide (S.mo=4):=by unfold rdF;rw [hTg,hTm,hTk,hTu,hr,Bool.or_false]
   have hfg:fgB T=true:=by unfold fgB;rw [hTu,hTg,ho];rfl
   rw [hf];unfold headO;rw [hrd,hfg,hTm,Bool.and_true];by_cases e4:S.mo=4
   ·rw [Kx e4,Ke (by decide),Kf rfl];refine ⟨fun x hx=>?_,fun _=>rfl,by simp⟩;rcases Kz.1 hx with hx | hx
    ·obtain rfl:=Jc.1 hx;exact .inl rfl
    ·obtain rfl:=Jc.1 hx;exact .inr ⟨rfl,rfl,rfl,rfl⟩
   ·rw [Kj e4,Kf rfl];refine ⟨fun x hx=>?_,fun e=>absurd e (by show (4:Int)≠2;decide),by simp [askO]⟩;rcases Kz.1 hx with hx | hx
    ·obtain rfl:=Jc.1 hx;exact .inl rfl
    ·obtain rfl:=Jc.1 hx;exact failV_h 15
 have h4:=((h1.data now b).data now secS).fin now;exact ⟨h4.1,h4.2.2⟩
theorem all_ne {α:Type}{f:α->Bool}{l:List α}{x:α}(hx:x∈l)(h:¬ f x=true):l.all f=false:=by rw [Bool.eq_false_iff];intro e;exact h (Jv.1 e _ hx)
theorem all_snoc {α:Type}{f:α->Bool}{l:List α}{k:Nat}(h:k<l.length)(ha:(l.take k).all f=true):(l.take (k+1)).all f=f l[k]:=by rw [Jf h,List.all_append,ha];simp
theorem N15{p:Prop}(h:p:=by
 go_wp2_with (first
  | ((with_reducible refine (CH.out _ hal).mono ?_);rintro e1 w1 ⟨rfl,hb1⟩;have hC1:=hal.trans (hb1.mono hal.size);have X1:=X0.next hb1;have x0:=X1.c 0 rfl;have x1:=X1.c 1 rfl;have x2:=X1.c 2 rfl;have x3:=X1.c 3 rfl;have x4:=X1.c 4 rfl;have x5:=X1.c 5 rfl;have xl1:=X1.lt)
  | ((with_reducible refine (CV.out _ hC1).mono ?_);rintro e2 w2 ⟨rfl,hb2⟩;have hC2:=hC1.trans (hb2.mono hC1.size);have X2:=X1.next hb2;clear x0 x1 x2 x3 x4 x5;have x0:=X2.c 0 rfl;have x1:=X2.c 1 rfl;have x2:=X2.c 2 rfl;have x3:=X2.c 3 rfl;have x4:=X2.c 4 rfl;have x5:=X2.c 5 rfl;have xl2:=X2.lt)
  | fail)
 first
  |go_ret;refine ⟨ret_bool ?_,by first | exact hC1 | (rw [<-HWW.out];exact hC1)⟩;rw [<-HR.out,HALL.out,HNN.out];rfl
  |go_ret
   refine ⟨ret_bool ?_,by first | exact hC2 | (rw [<-HWW.out];exact hC2)⟩
   rw [<-HR.out,HALL.out,HNN.out];rfl
  |go_roundw
   case rel=>exact ⟨kk+1,by omega,by go_num,HOK,hC2⟩
   case measure=>simp [intOf];omega
 ):p:=h
theorem N45{p:Prop}(h:p:=by
 go_wp2_with (first
  | ((with_reducible refine (CH.out _ hal).mono ?_);rintro e1 w1 ⟨rfl,hb1⟩;have hC1:=hal.trans (hb1.mono hal.size);have X1:=X0.next hb1;have x0:=X1.c 0 rfl;have x1:=X1.c 1 rfl;have x2:=X1.c 2 rfl;have x3:=X1.c 3 rfl;have xl1:=X1.lt)
  | fail)
 first
  |go_ret;refine ⟨ret_bool ?_,by first | exact hC1 | (rw [<-HWW.out];exact hC1)⟩;rw [<-HR.out,HALL.out,HALL2.out,HNN.out];rfl
  |go_roundw;case rel=>exact ⟨kk+1,by omega,by go_num,HOK,hC1⟩
   case measure=>simp [intOf];omega
 ):p:=h
theorem few4_yes (w:World)(vj:Value)(J:List Ck)(nx:Int)(vc:Value)(lx:List Ee)(now tk:Int)(me ur og:ByteArray)(mo:Int)(vq:Value)(qh:List Hd)(qb:ByteArray)(ck:Bool)(vo:Value)(lo:List (Value × Op4))
 (HW:WIn w vj J vc lx) (HQ:QIn w ur og vq qh qb) (HO:OIn w vo lo)
 (h1:J.length<=8) (h2:lx.length<=8) (h3:¬ nx<0) (h4:¬ 1125899906842624<nx) (h5:lo.length<=20) (h6:attrB44 qh=true) (h7:ur.size+og.size+qb.size<=400) (R:Bool) (hR:(J.all ckB4 && ((lx.map (·.2)).all enB4 && (lo.map (·.2)).all opB4))=R) :
 Calls Tryz.prog 12 #[.agg #[vj,.int .i64 nx,vc,.int .i64 now],.agg #[.int .i64 tk,.string me,.string ur,.string og,.int .i64 mo,vq,.string qb,.bool ck],vo] w fun e w'=>e = .returned (.bool R)/\Below w.heap.size w w':=by
 obtain ⟨hj,hc,hr,hzj,hzc⟩:=HW;obtain ⟨hq,hzq,hz1a,hz1b,hz1c⟩:=HQ;obtain ⟨ho,hoh,hzo⟩:=HO;have hlj:=slk_len hj;have hlc:=slk_len hc;have hlo:=slk_len ho;have HCJ:=Kb (slk_at hj);have HCC:=Kb (slk_at hc);have HCO:=Kb (slk_at ho);obtain ⟨ja,jc,rfl,_⟩:=hj.shape;obtain ⟨ca,cc,rfl,_⟩:=hc.shape;obtain ⟨oa,oc,rfl,_⟩:=ho.shape;obtain ⟨qa,qc,rfl,_⟩:=hq.shape;have hb0:Below w.heap.size w ((w.alloc (.cells [.slice ja J.length jc,.int .i64 nx,.slice ca lx.length cc,.int .i64 now].toArray 27)).alloc (.cells [.int .i64 tk,.string me,.string ur,.string og,.int .i64 mo,.slice qa qh.length qc,.string qb,.bool ck].toArray 30)):=((Kc w).alloc lr _).alloc (by simp) _;have W0:=(AtL.new w [.slice ja J.length jc,.int .i64 nx,.slice ca lx.length cc,.int .i64 now] 27).alloc (.cells [.int .i64 tk,.string me,.string ur,.string og,.int .i64 mo,.slice qa qh.length qc,.string qb,.bool ck].toArray 30);have Q0:=AtL.new (w.alloc (.cells [.slice ja J.length jc,.int .i64 nx,.slice ca lx.length cc,.int .i64 now].toArray 27)) [.int .i64 tk,.string me,.string ur,.string og,.int .i64 mo,.slice qa qh.length qc,.string qb,.bool ck] 30;rw [show (w.alloc (.cells [.slice ja J.length jc,.int .i64 nx,.slice ca lx.length cc,.int .i64 now].toArray 27)).heap.size=w.heap.size+1 by simp] at Q0;have CQ:=Kb (fun (w':World) (hb:Below w.heap.size w w')=>attrs44_is qh (.slice qa qh.length qc) w' (hq.below hb lr) hzq (attrB44 qh) rfl);have HRD:=Kb hr;have HOH:=Kb hoh;have HZJ:=Kb hzj;have HZC:=Kb hzc;have HZO:=Kb hzo;clear hj hc hr hq ho hoh hzj hzc hzq hzo;obtain ⟨w0,hw0⟩:∃ w0:World,((w.alloc (.cells [.slice ja J.length jc,.int .i64 nx,.slice ca lx.length cc,.int .i64 now].toArray 27)).alloc (.cells [.int .i64 tk,.string me,.string ur,.string og,.int .i64 mo,.slice qa qh.length qc,.string qb,.bool ck].toArray 30))=w0:=⟨_,rfl⟩
 obtain ⟨W,hW⟩:=Ka w.heap.size;obtain ⟨Q,hQ⟩:=Ka (W+1);have HWW:=Kb hW;rw [hw0] at hb0 W0 Q0;rw [hW] at W0 Q0;rw [hQ] at Q0;have a_:=W0.o4;have q_:=Q0.o8;have al:=W0.lt;have ql:=Q0.lt;have g1:¬ (8:Int)<(J.length:Int):=by omega
 have g2:¬ (8:Int)<(lx.length:Int):=by omega
 have g5:¬ (20:Int)<(lo.length:Int):=by omega
 rw [h6] at CQ;have g7:(ur.size:Int)+(og.size:Int)+(qb.size:Int)<=(400:Int):=by omega
 have HG:Hid (wrap64 (wrap64 ((ur.size:Int)+(og.size:Int))+(qb.size:Int))<=(400:Int)):=Kb (by rw [ew3 hz1a hz1b hz1c];omega);have HR:=Kb hR;have H1:=Kb h1;have H2:=Kb h2;have H5:=Kb h5;clear h6 h7 g7 hR hz1a hz1b hz1c;go_enter Tryz.func12,Tryz.ntmps12
 go_wp2_with (first
  | ((with_reducible refine (CQ.out _ hb0).mono ?_);rintro e1 w1 ⟨rfl,hb1⟩;have hB0:=Kd hb0 hb1;have Q1:=Q0.next hb1;have W1:=W0.next hb1;clear q_ a_;have q_:=Q1.o8;have a_:=W1.o4;have ql1:=Q1.lt;have al1:=W1.lt)
  | fail)
 ·exact absurd (Int.lt_of_lt_of_le (by assumption) HG.out) (Int.lt_irrefl _)
 clear q_ a_;go_loopw [65] (fun iv wr=>∃ k:Nat,k<=J.length/\iv = .int .i64 k/\Hid ((J.take k).all ckB4=true)/\Below w.heap.size w wr/\Hid (AtL wr W [.slice ja J.length jc,.int .i64 nx,.slice ca lx.length cc,.int .i64 now])) (fun iv _=>J.length - (intOf iv).toNat);case atStart=>exact ⟨0,Kh _,rfl,Kb rfl,hB0,Kb W1⟩
 case round=>
  obtain ⟨kk,hk,rfl,HA,hbw,HWr⟩:=hrel;by_cases hlt:kk<J.length
  ·obtain ⟨b0,off,cap,he,hb0',hcell⟩:=HCJ.out (by omega);injection he with e1 e2 e3;have hcel:∀ j u,(ckL J[kk])[j]? = some u->wr.cell? ⟨b0,off+kk * 9+j,none⟩=some u:=fun j u hu=>(brl hbw _ _ hb0').trans (hcell kk hlt j u hu);have hzz:=HZJ.out _ (Ky hlt);have hst:=all_snoc hlt HA.out;have hmem:J[kk]∈J:=Ky hlt;obtain ⟨y,hy⟩:=Ka (J[kk]);rw [hy] at hcel hzz hst hmem;obtain ⟨yn,yv,yd,yp,yh,ys,yi,yx,yc⟩:=y;have z1:yn.size<=140737488355328:=hzz.1;have z2:yv.size<=140737488355328:=hzz.2.1;have z3:yd.size<=140737488355328:=hzz.2.2.1;have z4:yp.size<=140737488355328:=hzz.2.2.2;have c0:=hcel 0 _ rfl;have c1:=hcel 1 _ rfl;have c2:=hcel 2 _ rfl;have c3:=hcel 3 _ rfl;have c4:=hcel 4 _ rfl;have c5:=hcel 5 _ rfl;have c6:=hcel 6 _ rfl;have c7:=hcel 7 _ rfl;have c8:=hcel 8 _ rfl;simp only [Ku] at c0;have HST:=Kb hst;have HMEM:=Kb hmem;have hki:(kk:Int)<(J.length:Int):=by omega
   have hal:Below w.heap.size w (wr.alloc (.cells #[.string yn,.string yv,.string yd,.string yp,.bool yh,.bool ys,.bool yi,.int .i64 yx,.int .i64 yc] 88)):=hbw.alloc hbw.size _;have HWn:=Kb (HWr.out.alloc (.cells #[.string yn,.string yv,.string yd,.string yp,.bool yh,.bool ys,.bool yi,.int .i64 yx,.int .i64 yc] 88));have HE4:Hid (wrap64 (wrap64 (wrap64 ((yn.size:Int)+(yv.size:Int))+(yd.size:Int))+(yp.size:Int))=(yn.size:Int)+(yv.size:Int)+(yd.size:Int)+(yp.size:Int)):=Kb (ew4 z1 z2 z3 z4);clear hcel hzz hst hmem hy hcell z1 z2 z3 z4;subst e1 e3;clear e2;go_wp2_with fail
   ·have hx:(300:Int)<wrap64 (wrap64 (wrap64 ((yn.size:Int)+(yv.size:Int))+(yd.size:Int))+(yp.size:Int)):=by assumption
    rw [HE4.out] at hx;have HNO:Hid (J.all ckB4=false):=Kb (all_ne HMEM.out (fun e=>by have h:=Xh e;simp only at h;omega));go_ret;refine ⟨ret_bool ?_,by first | exact hal | (rw [<-HWW.out];exact hal)⟩;rw [<-HR.out,HNO.out];rfl
   ·have hx:wrap64 (wrap64 (wrap64 ((yn.size:Int)+(yv.size:Int))+(yd.size:Int))+(yp.size:Int))<=(300:Int):=by assumption
    rw [HE4.out] at hx;have HOK:Hid ((J.take (kk+1)).all ckB4=true):=Kb (by rw [HST.out];exact Kx (by show yn.size+yv.size+yd.size+yp.size<=300;omega));clear hx;go_roundw;case rel=>exact ⟨kk+1,by omega,by go_num,HOK,hal,HWn⟩
    case measure=>simp [intOf];omega
  ·obtain rfl:kk=J.length:=by omega
   have HALL:Hid (J.all ckB4=true):=Kb (by have:=HA.out;rwa [Jq] at this);have W2:=HWr.out;clear HA HWr;have a_:=W2.o4;have al2:=W2.lt;go_wp2_with fail;clear a_ W2 al2;go_loopw [89] (fun iv wr=>∃ k:Nat,k<=lx.length/\iv = .int .i64 k/\Hid ((lx.take k).all (fun x=>enB4 x.2)=true)/\Below w.heap.size w wr) (fun iv _=>lx.length - (intOf iv).toNat);case atStart=>exact ⟨0,Kh _,rfl,Kb rfl,hbw⟩
   case round=>
    obtain ⟨kk,hk,rfl,HA,hbw⟩:=hrel;by_cases hlt:kk<lx.length
    ·obtain ⟨b0,off,cap,he,hb0',hcell⟩:=HCC.out (by omega);injection he with e1 e2 e3;have hcel:∀ j u,(eeC lx[kk])[j]? = some u->wr.cell? ⟨b0,off+kk * 6+j,none⟩=some u:=fun j u hu=>(brl hbw _ _ hb0').trans (hcell kk hlt j u hu);have hzz:=HZC.out _ (Ky hlt);have hrd:=HRD.out _ (Ky hlt);have hst:=all_snoc hlt HA.out;have hmem:lx[kk]∈lx:=Ky hlt;obtain ⟨y,hy⟩:=Ka (lx[kk]);rw [hy] at hcel hzz hst hmem hrd;obtain ⟨⟨yu,yv,ys,yh,yb,yt⟩,en⟩:=y;have eu:yu=en.u:=hrd.u;have eb:yb=en.bo:=hrd.bo;have hv:=hrd.va;have hh:=hrd.hd;simp only at hv hh;obtain ⟨va,vk,rfl,_⟩:=hv.shape;obtain ⟨ha,hk2,rfl,_⟩:=hh.shape;obtain ⟨B1,hB1⟩:=Ka (attrB44 en.hd);obtain ⟨B2,hB2⟩:=Ka (attrB44 en.va);have CH:=Kb (fun (w':World) (hb:Below w.heap.size w w')=>attrs44_is en.hd _ w' (hh.below hb lr) hzz.2 B1 hB1);have CV:=Kb (fun (w':World) (hb:Below w.heap.size w w')=>attrs44_is en.va _ w' (hv.below hb lr) hzz.1 B2 hB2);have hval:enB4 en=(B1 && (B2 && (decide (yb.size<=500) && decide (yu.size<=300)))):=by unfold enB4;rw [hB1,hB2,eu,eb]
     have hst2:(lx.take (kk+1)).all (fun x=>enB4 x.2)=(B1 && (B2 && (decide (yb.size<=500) && decide (yu.size<=300)))):=hst.trans hval;have hno:(B1 && (B2 && (decide (yb.size<=500) && decide (yu.size<=300))))=false->(lx.map (·.2)).all enB4=false:=fun e=>all_ne (Zc hmem) (fun e2=>by rw [hval,e] at e2;cases e2);have c0:=hcel 0 _ rfl;have c1:=hcel 1 _ rfl;have c2:=hcel 2 _ rfl;have c3:=hcel 3 _ rfl;have c4:=hcel 4 _ rfl;have c5:=hcel 5 _ rfl;simp only [Ku] at c0;have HST:=Kb hst2;have HNO:=Kb hno;have hki:(kk:Int)<(lx.length:Int):=by omega
     have hal:Below w.heap.size w (wr.alloc (.cells #[.string yu,.slice va en.va.length vk,.int .i64 ys,.slice ha en.hd.length hk2,.string yb,.int .i64 yt] 90)):=hbw.alloc hbw.size _;have X0:=AtL.new wr [.string yu,.slice va en.va.length vk,.int .i64 ys,.slice ha en.hd.length hk2,.string yb,.int .i64 yt] 90;clear hcel hzz hst hmem hy hcell hst2 hno hval hrd eu eb hv hh hB1 hB2;subst e1 e3;clear e2;cases B1 with
     | false=>
       have HNN:=Kb (HNO.out rfl)
       exact N15
     | true=>
       cases B2 with
       | false=>
         have HNN:=Kb (HNO.out rfl)
         exact N15
       | true=>
         by_cases h5b:yb.size<=500
         ·have g5b:¬ (500:Int)<(yb.size:Int):=by omega
          by_cases h3u:yu.size<=300
          ·have g3u:¬ (300:Int)<(yu.size:Int):=by omega
           have HOK:Hid ((lx.take (kk+1)).all (fun x=>enB4 x.2)=true):=Kb (by rw [HST.out,Kx h5b,Kx h3u];rfl)
           exact N15
          ·have g3u:(300:Int)<(yu.size:Int):=by omega
           have HNN:=Kb (HNO.out (by rw [Kx h5b,Kj h3u];rfl))
           exact N15
         ·have g5b:(500:Int)<(yb.size:Int):=by omega
          have HNN:=Kb (HNO.out (by rw [Kj h5b];rfl))
          exact N15
    ·obtain rfl:kk=lx.length:=by omega
     have HALL2:Hid ((lx.map (·.2)).all enB4=true):=Kb (by have:=HA.out;rw [Jq] at this;rw [List.all_map];exact this);clear HA;go_wp2_with fail;go_loopw [118] (fun iv wr=>∃ k:Nat,k<=lo.length/\iv = .int .i64 k/\Hid ((lo.take k).all (fun x=>opB4 x.2)=true)/\Below w.heap.size w wr) (fun iv _=>lo.length - (intOf iv).toNat);case atStart=>exact ⟨0,Kh _,rfl,Kb rfl,hbw⟩
     case round=>
      obtain ⟨kk,hk,rfl,HA,hbw⟩:=hrel;by_cases hlt:kk<lo.length
      ·obtain ⟨b0,off,cap,he,hb0',hcell⟩:=HCO.out (by omega);injection he with e1 e2 e3;have hcel:∀ j u,(opC lo[kk])[j]? = some u->wr.cell? ⟨b0,off+kk * 4+j,none⟩=some u:=fun j u hu=>(brl hbw _ _ hb0').trans (hcell kk hlt j u hu);have hzz:=HZO.out _ (Ky hlt);have hh:=HOH.out _ (Ky hlt);have hst:=all_snoc hlt HA.out;have hmem:lo[kk]∈lo:=Ky hlt;obtain ⟨y,hy⟩:=Ka (lo[kk]);rw [hy] at hcel hzz hst hmem hh;obtain ⟨yv,en⟩:=y;simp only at hh hzz;obtain ⟨ha,hk2,rfl,_⟩:=hh.shape;obtain ⟨B1,hB1⟩:=Ka (attrB44 en.hs);have CH:=Kb (fun (w':World) (hb:Below w.heap.size w w')=>attrs44_is en.hs _ w' (hh.below hb lr) hzz B1 hB1);have hval:opB4 en=(B1 && decide (en.bo.size<=500)):=by unfold opB4;rw [hB1]
       have hst2:(lo.take (kk+1)).all (fun x=>opB4 x.2)=(B1 && decide (en.bo.size<=500)):=hst.trans hval;have hno:(B1 && decide (en.bo.size<=500))=false->(lo.map (·.2)).all opB4=false:=fun e=>all_ne (Zc hmem) (fun e2=>by rw [hval,e] at e2;cases e2);have c0:=hcel 0 _ rfl;have c1:=hcel 1 _ rfl;have c2:=hcel 2 _ rfl;have c3:=hcel 3 _ rfl;simp only [Ku] at c0;obtain ⟨ek,est,ehs,ebo⟩:=en;simp only at c0 c1 c2 c3;have HST:=Kb hst2;have HNO:=Kb hno;have hki:(kk:Int)<(lo.length:Int):=by omega
       have hal:Below w.heap.size w (wr.alloc (.cells #[.int .u8 ek,.int .i64 est,.slice ha ehs.length hk2,.string ebo] 32)):=hbw.alloc hbw.size _;have X0:=AtL.new wr [.int .u8 ek,.int .i64 est,.slice ha ehs.length hk2,.string ebo] 32;clear hcel hzz hst hmem hy hcell hst2 hno hval hh hB1;subst e1 e3;clear e2;cases B1 with
       | false =>
         have HNN:=Kb (HNO.out rfl)
         exact N45
       | true =>
         by_cases h5b:ebo.size<=500
         ·have g5b:¬ (500:Int)<(ebo.size:Int):=by omega
          have HOK:Hid ((lo.take (kk+1)).all (fun x=>opB4 x.2)=true):=Kb (by rw [HST.out,Kx h5b];rfl)
          exact N45
         ·have g5b:(500:Int)<(ebo.size:Int):=by omega
          have HNN:=Kb (HNO.out (by rw [Kj h5b];rfl))
          exact N45
      ·obtain rfl:kk=lo.length:=by omega
       have HALL3:Hid ((lo.map (·.2)).all opB4=true):=Kb (by have:=HA.out;rw [Jq] at this;rw [List.all_map];exact this);clear HA;go_wp2_with fail;go_ret;refine ⟨ret_bool ?_,by first | exact hbw | (rw [<-HWW.out];exact hbw)⟩;rw [<-HR.out,HALL.out,HALL2.out,HALL3.out];rfl
theorem few4_is (w:World)(vj:Value)(J:List Ck)(nx:Int)(vc:Value)(lx:List Ee)(now tk:Int)(me ur og:ByteArray)(mo:Int)(vq:Value)(qh:List Hd)(qb:ByteArray)(ck:Bool)(vo:Value)(lo:List (Value × Op4))
 (HW:WIn w vj J vc lx) (HQ:QIn w ur og vq qh qb) (HO:OIn w vo lo)
 (R:Bool) (hR:few4 J nx (lx.map (·.2)) qh ur og qb (lo.map (·.2))=R) :
 Calls Tryz.prog 12 #[.agg #[vj,.int .i64 nx,vc,.int .i64 now],.agg #[.int .i64 tk,.string me,.string ur,.string og,.int .i64 mo,vq,.string qb,.bool ck],vo] w fun e w'=>e = .returned (.bool R)/\Below w.heap.size w w':=by
 have hd:∀ (p:Prop) [Decidable p] (b:Bool),¬ p->(decide p && b)=false:=fun p _ b h=>by rw [Kj h];rfl
 have hlx:(lx.map (·.2)).length=lx.length:=Za ..
 have hlo:(lo.map (·.2)).length=lo.length:=Za ..
 have hbad:¬ (J.length<=8/\lx.length<=8/\0<=nx/\nx<=1125899906842624/\lo.length<=20)->false=R:=fun h=>by
  rw [<-hR];unfold few4;rw [hlx,hlo];exact (hd _ _ h).symm
 by_cases h1:8<J.length
 ·rw [<-hbad (by omega)];exact few4_n1 w vj J nx vc lx now tk me ur og mo vq qh qb ck vo lo HW HQ HO h1
 by_cases h2:8<lx.length
 ·rw [<-hbad (by omega)];exact few4_n2 w vj J nx vc lx now tk me ur og mo vq qh qb ck vo lo HW HQ HO (by omega) h2
 by_cases h3:nx<0
 ·rw [<-hbad (by omega)];exact few4_n3 w vj J nx vc lx now tk me ur og mo vq qh qb ck vo lo HW HQ HO (by omega) (by omega) h3
 by_cases h4:1125899906842624<nx
 ·rw [<-hbad (by omega)];exact few4_n4 w vj J nx vc lx now tk me ur og mo vq qh qb ck vo lo HW HQ HO (by omega) (by omega) h3 h4
 by_cases h5:20<lo.length
 ·rw [<-hbad (by omega)];exact few4_n5 w vj J nx vc lx now tk me ur og mo vq qh qb ck vo lo HW HQ HO (by omega) (by omega) h3 h4 h5
 have hgo:(attrB44 qh && (decide (ur.size+og.size+qb.size<=400) && (J.all ckB4 && ((lx.map (·.2)).all enB4 && (lo.map (·.2)).all opB4))))=R:=by
  rw [<-hR];unfold few4;rw [hlx,hlo,Kx (show J.length<=8/\lx.length<=8/\0<=nx/\nx<=1125899906842624/\lo.length<=20 by omega)];rfl
 cases h6:attrB44 qh with
 | false=>
   rw [h6] at hgo
   rw [<-hgo]
   exact few4_n6 w vj J nx vc lx now tk me ur og mo vq qh qb ck vo lo HW HQ HO (by omega) (by omega) h3 h4 (by omega) h6
 | true=>
   rw [h6] at hgo
   by_cases h7:400<ur.size+og.size+qb.size
   ·rw [Kj (show ¬ ur.size+og.size+qb.size<=400 by omega)] at hgo
    rw [<-hgo]
    exact few4_n7 w vj J nx vc lx now tk me ur og mo vq qh qb ck vo lo HW HQ HO (by omega) (by omega) h3 h4 (by omega) h6 h7
   ·rw [Kx (show ur.size+og.size+qb.size<=400 by omega)] at hgo
    exact few4_yes w vj J nx vc lx now tk me ur og mo vq qh qb ck vo lo HW HQ HO (by omega) (by omega) h3 h4 (by omega) h6 (by omega) R hgo
theorem lcp4_is (hs:List Hd)(v:Value)(w:World)(hv:SlK hdC 2 w v hs)(hl:hs.length<=1000000):Calls Tryz.prog 33 #[v] w (CloQ w hs):=by
 rcases hv with ⟨rfl,a,cap,rfl,h2⟩ | ⟨h0,b,off,cap,rfl,h2,h3,h4,h5⟩
 ·cases a with
  | none=>
    go_enter Tryz.func33,Tryz.ntmps33;go_wp2_with (refine app_z0 slH _ (by rfl) (.tmp 3) (.tmp 4) (by rfl) w.heap.size none cap (by rfl) (by rfl) ?_)
    go_ret;first | exact ⟨_,rfl,World.ownsRow_nil _ _ _ _,Kc _⟩ | exact ⟨_,rfl,own_z0 _ _ _,(Kc w).alloc lr _⟩ | fail
  | some ad=>
    go_enter Tryz.func33,Tryz.ntmps33;go_wp2_with (refine app_z0 slH _ (by rfl) (.tmp 3) (.tmp 4) (by rfl) w.heap.size (some ad) cap (by rfl) (by rfl) ?_)
    go_ret;exact ⟨_,rfl,own_z0 _ _ _,(Kc w).alloc lr _⟩
 ·exact N57
def CpAt4 (w4:World)(N:Nat)(r:Er)(e:En)(w5:World):Prop:=∃ (a b:Option Addr) (c d:Nat),AtL w5 N [.string r.u,.slice a e.va.length c,.int .i64 r.st,.slice b e.hd.length d,.string r.bo,.int .i64 r.ti]/\SlK hdC 2 w5 (.slice a e.va.length c) e.va/\SlK hdC 2 w5 (.slice b e.hd.length d) e.hd/\NewE (⟨r.u,.slice a e.va.length c,r.st,.slice b e.hd.length d,r.bo,r.ti⟩,e) w4.heap.size/\BelowBut w4.heap.size N w4 w5
theorem cpat4_mk {w4 w6 w7:World}{N:Nat}{u bo:ByteArray}{st ti:Int}{e:En}{vv hh:Value}{a b:Option Addr}{c d:Nat}(hN:N<w4.heap.size)(X:AtL w7 N [.string u,vv,.int .i64 st,hh,.string bo,.int .i64 ti])(h6:SlK hdC 2 w6 (.slice a e.va.length c) e.va)(n6:∀ b' off n k,Value.slice a e.va.length c = .slice (some ⟨b',off,none⟩) n k->w4.heap.size<=b')(b6:Below w4.heap.size w4 w6)(h7:SlK hdC 2 w7 (.slice b e.hd.length d) e.hd)(n7:∀ b' off n k,Value.slice b e.hd.length d = .slice (some ⟨b',off,none⟩) n k->w6.heap.size<=b')(b7:Below w6.heap.size w6 w7):
 CpAt4 w4 N ⟨u,vv,st,hh,bo,ti⟩ e ((w7.setCell ⟨N,1,none⟩ (.slice a e.va.length c)).setCell ⟨N,3,none⟩ (.slice b e.hd.length d)):=by
 have f6:∀ b' off n k,Value.slice a e.va.length c = .slice (some ⟨b',off,none⟩) n k->b'≠N:=fun b' off n k h=>by have:=n6 b' off n k h;omega
 have f7:∀ b' off n k,Value.slice b e.hd.length d = .slice (some ⟨b',off,none⟩) n k->b'≠N:=fun b' off n k h=>by have:=n7 b' off n k h;have:=b6.size;omega
 refine ⟨a,b,c,d,(X.set 1 _).set 3 _,slk_cell (slk_cell (h6.below b7 lr) ⟨N,1,none⟩ _ f6) ⟨N,3,none⟩ _ f6,slk_cell (slk_cell h7 ⟨N,1,none⟩ _ f7) ⟨N,3,none⟩ _ f7,⟨fun b' off n k h=>n6 b' off n k h,fun b' off n k h=>Kg b6.size (n7 b' off n k h)⟩,?_⟩;exact (((BelowBut.refl w4.heap.size N w4).below b6 lr).below b7 b6.size).setCell ⟨N,1,none⟩ (Or.inl rfl) _ |>.setCell ⟨N,3,none⟩ (Or.inl rfl) _
theorem RowIn.app4 {W w5:World}{jb B n:Nat}{v v5:Value}{l:List Ee}{x:Ee}(h:RowIn W jb B v l)(hx:Rd W x.1 x.2)(hfx:FarE x jb v.ownBlock)(hjb:jb<W.heap.size)(hn:n=l.length+1)
 (h5:w5.ownsRow B 90 6 v5 n (cellsK eeC l ++ eeC x)) (hg:W.grownBy w5 v.ownBlock) (ht:RowTo v v5 W.heap.size):RowIn w5 jb B v5 (l ++ [x]):=by
 have hrb:=RowBut.of_grown (jb:=jb) hg;refine ⟨own_eq h5 (by rw [hn];simp) (by rw [cellsK_app];simp [cellsK]),?_,Kg h.le hg.size,fun y hy=>?_,fun y hy=>?_⟩
 ·intro e;rcases ht jb e with h1 | h1
  ·exact h.ne h1
  ·omega
 ·exact M31
 ·exact M34
def EntQ (w:World)(jb:Nat)(es:List En)(x:Ending)(w':World):Prop:=∃ (a:Option Addr) (c:Nat) (lo:List Ee),x = .returned (.slice a lo.length c)/\RowIn w' jb w.heap.size (.slice a lo.length c) lo/\(∀ y∈lo,NewE y w.heap.size)/\lo.map (·.2)=es/\Below w.heap.size w w'
theorem entries_is (l:List Ee)(v:Value)(w:World)(jb:Nat)(hjb:jb<w.heap.size)(hv:SlK eeC 6 w v l)(hr:∀ x∈l,Rd w x.1 x.2)(hz:∀ x∈l,x.2.va.length<=1000000/\x.2.hd.length<=1000000)(hl:l.length<=1000)(es:List En)(hes:l.map (·.2)=es):
 Calls Tryz.prog 32 #[v] w (EntQ w jb es):=by
 have HES:=Kb hes;have HZ:=Kb hz;have HC:Hid (0<l.length->∃ b0 off cap:Nat,v = .slice (some ⟨b0,off,none⟩) l.length cap/\∀ kk (h:kk<l.length) j u,(eeC l[kk])[j]? = some u->w.cell? ⟨b0,off+kk * 6+j,none⟩=some u):=Kb (by
  intro h0;rcases hv with ⟨rfl,_⟩ | ⟨_,b0,off,cap,he,hc1,hc2,hc3,hcell⟩
  ·simp at h0
  ·exact ⟨b0,off,cap,he,hcell⟩)
 have HRD:=Kb hr;obtain ⟨sa,sc,rfl,_⟩:=hv.shape;obtain ⟨B,hB⟩:=Ka w.heap.size;have hr0:RowIn w jb B (.slice none 0 0) []:=⟨World.ownsRow_nil _ _ _ _,by simp [Value.ownBlock],Jl hB.symm,(fun x hx=>by cases hx),(fun x hx=>by cases hx)⟩
 have HBB:=Kb hB;rw [hB] at hjb;have HR0:=Kb hr0;clear hv hr hz hes hr0 hB;go_enter Tryz.func32,Tryz.ntmps32;go_wp2_with fail;go_loopw [3,8] (fun ov iv wr=>∃ (k:Nat) (lo:List Ee),k<=l.length/\iv = .int .i64 k/\Hid (lo.map (·.2)=(l.take k).map (·.2))/\RowIn wr jb B ov lo/\Hid (∀ y∈lo,NewE y B)/\Below B w wr) (fun _ iv _=>l.length - (intOf iv).toNat);case atStart=>exact ⟨0,[],Kh _,rfl,Kb rfl,HR0.out,Kb (fun y hy=>by cases hy),Kc _⟩
 case round=>
  obtain ⟨kk,lo,hk,rfl,HM,hJ,HNW,hbw⟩:=hrel;have hlo:lo.length=kk:=by have:=Kq List.length HM.out;simp at this;omega
  have hwB:=HBB.out;have hle:=hJ.le;obtain ⟨ra,rc,rfl,_⟩:=own_reads hJ.own;by_cases hlt:kk<l.length
  ·obtain ⟨b0,off,cap,he,hcell⟩:=HC.out (by omega);injection he with e1 e2 e3;subst e1 e3;have hmem:l[kk]∈l:=Ky hlt;have hrd0:=HRD.out _ hmem;have hzz:=HZ.out _ hmem;have cc:∀ j u,(eeC l[kk])[j]? = some u->wr.cell? ⟨b0,off+kk * 6+j,none⟩=some u:=fun j u hu=>(hbw.cell (p:=⟨b0,off+kk * 6+j,none⟩) (by have:=cell_lt (hcell kk hlt j u hu);show b0<B;omega)).trans (hcell kk hlt j u hu);have hst:(l.take (kk+1)).map (·.2)=(l.take kk).map (·.2) ++ [l[kk].2]:=by rw [Jf hlt,Zi];rfl
   obtain ⟨y,hy⟩:=Ka (l[kk]);rw [hy] at cc hrd0 hzz hst;have hrd:=hrd0.below hbw (by omega);obtain ⟨⟨a1,n1,k1,f1⟩,a2,n2,k2,f2⟩:=hrd.shp;clear hy hcell e2 hmem;obtain ⟨⟨u,vv,st,hh,bo,ti⟩,ex⟩:=y;have f1:vv = .slice a1 n1 k1:=f1;have f2:hh = .slice a2 n2 k2:=f2;subst f1 f2;have c0:=cc 0 _ rfl;have c1:=cc 1 _ rfl;have c2:=cc 2 _ rfl;have c3:=cc 3 _ rfl;have c4:=cc 4 _ rfl;have c5:=cc 5 _ rfl;simp only [Ku] at c0;have HST:=Kb hst;have hki:(kk:Int)<(l.length:Int):=by omega
   have hal:=(Kc wr).alloc lr (.cells [.string u,.slice a1 n1 k1,.int .i64 st,.slice a2 n2 k2,.string bo,.int .i64 ti].toArray 90);have X4:=AtL.new wr [.string u,.slice a1 n1 k1,.int .i64 st,.slice a2 n2 k2,.string bo,.int .i64 ti] 90;have hva:SlK hdC 2 wr (.slice a1 n1 k1) ex.va:=hrd.va;have hhd:SlK hdC 2 wr (.slice a2 n2 k2) ex.hd:=hrd.hd;have hva4:=(hva.below hal lr).below (Kc _).drew lr;have hhd4:=(hhd.below hal lr).below (Kc _).drew lr;have C1:=Kb (fun w hv=>lcp4_is ex.va (.slice a1 n1 k1) w hv hzz.1);have C2:=Kb (fun w hv=>lcp4_is ex.hd (.slice a2 n2 k2) w hv hzz.2);have HJ:=Kb hJ;have HRE:Hid (u=ex.u/\st=ex.st/\bo=ex.bo/\ti=ex.ti):=Kb ⟨hrd.u,hrd.st,hrd.bo,hrd.ti⟩;have HLO:=Kb hlo;clear cc hst hva hhd hrd hrd0 hzz hJ hlo;go_upto_region 5 with fail;obtain ⟨w4,hw4⟩:∃ w4:World,wr.alloc (.cells [.string u,.slice a1 n1 k1,.int .i64 st,.slice a2 n2 k2,.string bo,.int .i64 ti].toArray 90)=w4:=⟨_,rfl⟩
   obtain ⟨N,hN⟩:=Ka wr.heap.size;rw [hw4] at hal X4 hva4 hhd4;rw [hN] at X4 hal hle;rw [hw4,hN];have HNN:=Kb hN;clear hw4 hN c0 c1 c2 c3 c4 c5;have hN4:=X4.lt;go_cut [] from 12 to 19 (fun w5=>CpAt4 w4 N ⟨u,.slice a1 n1 k1,st,.slice a2 n2 k2,bo,ti⟩ ex w5)
   case first=>
    have z_:=X4.o6
    go_region_with (first
     | ((with_reducible refine (C1.out w4.drew hva4).mono ?_);rintro e w6 hq6;obtain ⟨a6,c6,rfl,hs6,hb6,hn6⟩:=cloq_open hq6;clear hq6;have X6:=X4.drew.next hb6;have y3:=X6.c 3 rfl;have y1:=X6.c 1 rfl;have xl6:=X6.lt;have hhd6:=hhd4.below hb6 lr)
     | ((with_reducible refine (C2.out w6 hhd6).mono ?_);rintro e w7 hq7;obtain ⟨a7,c7,rfl,hs7,hb7,hn7⟩:=cloq_open hq7;clear hq7 y3 y1;have X7:=X6.next hb7;have y1:=X7.c 1 rfl;have g1:=X7.f 1 rfl;have y3:=X7.c 3 rfl;have g3:=X7.f 3 rfl;have xl7:=X7.lt)
     | fail)
    all_goals go_wp2_with fail;go_meet;case rel=>exact cpat4_mk hN4 X7 hs6 hn6 ((Kc w4).drew.trans hb6) hs7 hn7 hb7
   case rest=>
    obtain ⟨a,b,c,d,X5,sva,shd,hnew,hbb⟩:=hcut;have hwN:=HNN.out;have hb5:Below N wr wc:=BelowBut.to_below hbb hal (by omega) lr;have RS5:=HJ.out.below hb5 (Jl hwN);have hown5:∀ g,(Value.slice ra lo.length rc).ownBlock=some g->g<wr.heap.size:=fun g hg=>(HJ.out.own.lt g hg).2;have hfx:FarE (⟨u,.slice a ex.va.length c,st,.slice b ex.hd.length d,bo,ti⟩,ex) jb (Value.slice ra lo.length rc).ownBlock:=hnew.far (by omega) (fun b e=>by have:=hown5 b e;omega);have hrx:Rd wc (⟨u,.slice a ex.va.length c,st,.slice b ex.hd.length d,bo,ti⟩:Er) ex:=⟨HRE.out.1,HRE.out.2.1,HRE.out.2.2.1,HRE.out.2.2.2,sva,shd⟩
    have hnw2:∀ y∈lo ++ [((⟨u,.slice a ex.va.length c,st,.slice b ex.hd.length d,bo,ti⟩:Er),ex)],NewE y B:=fun y hy=>by
     rcases Kz.1 hy with h | h
     ·exact HNW.out y h
     ·obtain rfl:=Jc.1 h;exact ⟨fun b' off n k e=>by have:=hnew.1 b' off n k e;omega,fun b' off n k e=>by have:=hnew.2 b' off n k e;omega⟩
    have HNW2:=Kb hnw2;have HFX:=Kb hfx;have HRX:=Kb hrx;have HONE:=Kb (one6 (⟨u,.slice a ex.va.length c,st,.slice b ex.hd.length d,bo,ti⟩,ex) ⟨⟨_,_,_,rfl⟩,⟨_,_,_,rfl⟩⟩);have HRS:=Kb RS5;have hB5:=RS5.le;have hjw:jb<wc.heap.size:=by omega
    have z_:=X5.o6;have xl5:=X5.lt;have hfin:Below B w wc:=hbw.trans (hb5.mono (by have:=hbw.size;omega));have HFIN:=Kb hfin;have hll:lo.length<=1000:=by have:=HLO.out;omega
    clear RS5 hown5 hfx hrx hfin hnew sva shd hbb hnw2
    go_wp2_with (first
     | (refine app2 slE wc (by rfl) (.tmp 20) (.tmp 22) (by rfl) B _ lo.length (cellsK eeC lo) (by rfl) HRS.out.own (eeC (⟨u,.slice a ex.va.length c,st,.slice b ex.hd.length d,bo,ti⟩,ex)) 1 wc.heap.size (by rfl) rfl (by rfl) HONE.out (by decide) (by omega) (by omega) hB5 ?_;intro v8 w8 o8 g8 f8;have R8:=Kb (HRS.out.app4 HRX.out HFX.out hjw rfl o8 g8 (fun g hg=>by obtain ⟨g',h1,h2⟩:=f8;rw [h1] at hg;injection hg with hg;subst hg;exact h2.imp id Kl));have B8:=Kb (below_own HFIN.out HRS.out.own g8 hB5 lr);clear o8 g8 f8)
     | fail)
    go_roundw;case rel=>exact ⟨kk+1,lo ++ [(⟨u,.slice a ex.va.length c,st,.slice b ex.hd.length d,bo,ti⟩,ex)],by omega,by go_num,Kb (by rw [HST.out,Zi,HM.out];rfl),R8.out,HNW2,B8.out⟩
    case measure=>simp [intOf];omega
  ·obtain rfl:kk=l.length:=by omega
   have hm:=HM.out;rw [Jq,HES.out] at hm;have HJ:=Kb hJ;have HMM:=Kb hm;clear hm hJ HM hlo;go_wp2_with fail;go_ret;exact ⟨ra,rc,lo,rfl,by rw [hwB];exact HJ.out,by rw [hwB];exact HNW.out,HMM.out,by rw [hwB];exact hbw⟩
end Go.Proofs.YtjdhaacmlpegoaaGreatDoor
