/- Part 20 of what the proof needs: XO YA TG XP XQ XR. -/
import Derived.Test.YtjdhaacmlpegoaaGreatDoorU19
set_option maxRecDepth 20000
set_option maxHeartbeats 16000000
set_option linter.unusedSimpArgs false
set_option linter.unusedVariables false
namespace Go.Proofs.YtjdhaacmlpegoaaGreatDoor
open Go.RowKit
theorem run_app_full {P:Program}{T E size bytes:Nat}(ty:SlTy P T E size bytes)(w:World)(b:Nat)(v:Value)(n:Nat)(xs:List Value)(hown:w.ownsRow b E size v n xs)(hcap:∃ a n',v = .slice a n' n')(A:Option Addr)(m c:Nat)(news:List Value)
 (hl:news.length=m * size) (hc:(A=none/\m=0)\/∃ ad,A=some ad/\∀ j u,news[j]? = some u->w.cell? (ad.add j)=some u) (h1:∀ u∈news,u.oneCell'=true) (hb:(n+m) * bytes<=140737488355328) (hn:n+m<=140737488355328) (hB:b<=w.heap.size) (t:TypeId) :
 ∃ v' w',(Builtin.append_ #[T,T] t #[v,.slice A m c]).run P w = .ok v' w'/\w'.ownsRow b E size v' (n+m) (xs ++ news)/\Below w.heap.size w w'/\((v'=v/\m=0)\/∃ g cap,v' = .slice (some ⟨g,0,none⟩) (n+m) cap/\w.heap.size<=g):=by
 obtain ⟨hu,⟨i,z,hi,hz,h2,h3,h4⟩,hp⟩:=ty;obtain ⟨a,n',rfl⟩:=hcap;rcases hc with ⟨rfl,rfl⟩ | ⟨ad,rfl,hc⟩
 ·obtain rfl:news=[]:=Ja (by simpa using hl);exact ⟨_,w,run_append_none (P:=P) (w:=w) b T t E i size hu hi _ n xs hown c,by simpa using hown,Kc _,.inl ⟨rfl,rfl⟩⟩
 ·subst h2 h3;rcases Nat.eq_zero_or_pos m with rfl | hm
  ·obtain rfl:news=[]:=Ja (by simpa using hl);refine ⟨_,w,?_,by simpa using hown,Kc _,.inl ⟨rfl,rfl⟩⟩;have hf:=run_firstCells_some (P:=P) w i.size 0 ad 0 c [] (by simp) (fun j u hu=>by simp at hu);rcases hown.2 with ⟨e,rfl⟩ | ⟨g,cap,cur,e,_,_,hnc,_⟩
   ·injection e with e1 e2 e3;subst e1 e2;simp [Builtin.append_,run_underlying hu,sizeOf,typeInfo,hi,Builtin.lenOf,hf]
   ·injection e with e1 e2 e3;subst e1 e2;simp [Builtin.append_,run_underlying hu,sizeOf,typeInfo,hi,Builtin.lenOf,hf,hnc,storeCells]
  ·rcases hown.2 with ⟨e,rfl⟩ | ⟨g,cap,cur,e,hbg,hg,hnc,hcm,hcs,htake⟩
   ·injection e with e1 e2 e3;subst e1 e2;have hq:=run_append_nil (P:=P) w T t E i z hu hi hz ad m c news hl hc hm (by omega) (by simp only [Jm] at hb;omega);obtain ⟨v',w',hr,k2,k3,_⟩:=run_append_own (P:=P) w b T t E i z i.size i.bytes hu hi hz rfl rfl h4 hp _ 0 xs hown ad m c news hl hc h1 (by unfold maxLen;omega) hb hB;rw [hq] at hr;injection hr with e5 e6;subst e5 e6;exact ⟨_,_,hq,k2,((Kc w).drew).alloc lr _,.inr ⟨_,_,by rw [Jm],lr⟩⟩
   ·injection e with e1 e2 e3;subst e1 e2;subst e3;have hq:=run_append_grow (P:=P) w T t E i z hu hi hz ⟨g,0,none⟩ n' n' xs hown.1 (hown.cells (g:=g) rfl) ad m c news hl hc (by omega) (by omega) (growslice_fits (by omega) hb);obtain ⟨v',w',hr,k2,k3,_⟩:=run_append_own (P:=P) w b T t E i z i.size i.bytes hu hi hz rfl rfl h4 hp _ n' xs hown ad m c news hl hc h1 (by unfold maxLen;omega) hb hB;rw [hq] at hr;injection hr with e5 e6;subst e5 e6;exact ⟨_,_,hq,k2,((Kc w).drew).alloc lr _,.inr ⟨_,_,rfl,lr⟩⟩
theorem app_full {P:Program}{T E size bytes:Nat}(ty:SlTy P T E size bytes)(W:World){ops:Array Oper}{rest:List Oper}{o:Oper}{a:Act}{Q:Exit->Act->World->Prop}
 (hgd:o.guard=none) (s x:Operand) (ho:o.op = .call { callee:=.builtin .append,args:=#[s,x],argTypes:=#[T,T] })
 (B:Nat) (v:Value) (n:Nat) (xs:List Value) (hs:a.eval s=v) (hown:W.ownsRow B E size v n xs) (hcap:∃ a n',v = .slice a n' n') (news:List Value) (A:Option Addr) (m c:Nat)
 (hx:a.eval x = .slice A m c) (hl:news.length=m * size) (hc:(A=none/\m=0)\/∃ ad,A=some ad/\∀ j u,news[j]? = some u->W.cell? (ad.add j)=some u) (h1:∀ u∈news,u.oneCell'=true)
 (hb:(n+m) * bytes<=140737488355328) (hn:n+m<=140737488355328) (hB:B<=W.heap.size)
 (h:∀ v' w',w'.ownsRow B E size v' (n+m) (xs ++ news)->Below W.heap.size W w'->((v'=v/\m=0)\/∃ g cap,v' = .slice (some ⟨g,0,none⟩) (n+m) cap/\W.heap.size<=g)->wpList P ops Q rest (a.put o.dst v') w') :
 wpList P ops Q (o :: rest) a W:=by refine wpList_plain hgd fun K hK=>?_;obtain ⟨v',w',hr,k2,k3,k4⟩:=run_app_full ty W B v n xs hown hcap A m c news hl hc h1 hb hn hB o.type;unfold Oper.wp execOp;simp only [ho,resolve,invoke,builtin,Sem.run_bind,Sem.run_pure,Result.andThen_ok,List.map_toArray,Jw,Zt,hs,hx,hr];exact hK _ _ (h v' w' k2 k3 k4)
theorem app_new {P:Program}{T E size bytes:Nat}(ty:SlTy P T E size bytes)(W0:World){ops:Array Oper}{rest:List Oper}{o:Oper}{a:Act}{Q:Exit->Act->World->Prop}
 (hgd:o.guard=none) (s x:Operand) (ho:o.op = .call { callee:=.builtin .append,args:=#[s,x],argTypes:=#[T,T] })
 (B:Nat) (v:Value) (n:Nat) (xs:List Value) (hs:a.eval s=v) (hown:W0.ownsRow B E size v n xs) (N:Nat) (hN:N<=W0.heap.size) (hv:(∃ a n',v = .slice a n' n')\/∀ g,v.ownBlock=some g->N<=g) (news:List Value) (m:Nat)
 (kk:Nat) (hx:a.eval x = .slice (some ⟨kk,0,none⟩) m m) (hkk:kk=W0.heap.size) (hl:news.length=m * size) (h1:∀ u∈news,u.oneCell'=true)
 (hm:0<m) (hb:(n+m) * bytes<=140737488355328) (hn:n+m<=140737488355328) (hB:B<=W0.heap.size)
 (h:∀ v' w',w'.ownsRow B E size v' (n+m) (xs ++ news)->Below N W0 w'->(∀ g,v'.ownBlock=some g->v.ownBlock=some g\/N<=g)->wpList P ops Q rest (a.put o.dst v') w') :
 wpList P ops Q (o :: rest) a (W0.alloc (.cells news.toArray E)):=by
 subst hkk;refine wpList_plain hgd fun K hK=>?_;have hal:=(Below.refl W0.heap.size W0).alloc lr (.cells news.toArray E);rcases hv with hv | hv
 ·obtain ⟨v',w',hr,k2,k3,k4⟩:=run_app_full ty (W0.alloc (.cells news.toArray E)) B v n xs (hown.alloc _) hv (some ⟨W0.heap.size,0,none⟩) m m news hl (.inr ⟨_,rfl,cells_new W0 news E⟩) h1 hb hn (by simp;omega) o.type;unfold Oper.wp execOp;simp only [ho,resolve,invoke,builtin,Sem.run_bind,Sem.run_pure,Result.andThen_ok,List.map_toArray,Jw,Zt,hs,hx,hr];refine hK _ _ (h v' w' k2 ((hal.mono hN).trans (k3.mono (by simp;omega))) fun g hg=>?_);rcases k4 with ⟨rfl,_⟩ | ⟨g',cap,rfl,h4⟩
  ·exact .inl hg
  ·simp only [Value.ownBlock,Js] at hg;simp at h4;exact .inr (by omega)
 ·obtain ⟨hu,⟨i,z,hi,hz,h2,h3,h4⟩,hp⟩:=ty
  exact N53
theorem slEv:SlTy Tryz.prog 41 48 7 96:=.mk' (z:=.agg #[.int .i64 0,.string ⟨#[]⟩,.string ⟨#[]⟩,.slice none 0 0,.string ⟨#[]⟩,.int .i64 0,.int .i64 0]) Tryz.underlying41 (by kernel_rfl) rfl (by decide)
structure EvOk (o:Out):Prop where
 one:o.s.ph=2->o.ev.length<=1
 all:o.ev.length<=3
theorem data_ev (p:ByteArray)(S:FSt):(dataF p S).2.length<=1:=by
 unfold dataF;split
 ·split
  ·exact lr
  ·split <;> simp
 ·simp
theorem failO_ev (S:FSt)(C:List En)(e:Int):EvOk (failO S C e):=⟨fun _=>lr,by show 1<=3;decide⟩
theorem takeF_ev {snd:FSt->List En->Out}(hs:∀ S C,EvOk (snd S C))(net:Bool)(now st:Int)(hd:List Hd)(S:FSt)(C:List En):EvOk (takeF snd net now st hd S C):=by
 have hr:∀ C,EvOk (redirF snd st (valL hd loN.data.toList) S C):=fun C=>by
  unfold redirF;split
  ·exact failO_ev _ _ _
  ·split
   ·exact failO_ev _ _ _
   ·split
    ·exact failO_ev _ _ _
    ·split
     ·exact failO_ev _ _ _
     ·exact hs _ _
 unfold takeF;split
 ·split
  ·exact failO_ev _ _ _
  ·exact hr _
 ·unfold headO;split
  ·exact failO_ev _ _ _
  ·exact ⟨fun _=>lr,by show 1<=3;decide⟩
theorem restF_ev (p:ByteArray){o:Out}(h:EvOk o):EvOk (restF p o):=by
 have hd:=data_ev p o.s;unfold restF;split
 ·next h2=>
  have h1:=h.one h2;split
  ·refine ⟨fun e=>absurd e (by show (3:Int)≠2;decide),?_⟩;show (o.ev ++ (dataF p o.s).2 ++ [endV]).length<=3;simp only [Kw,Xo];omega
  ·next hn=>exact ⟨fun e=>absurd e hn,by show (o.ev ++ (dataF p o.s).2).length<=3;rw [Kw];omega⟩
 ·exact h
theorem sendF_ev (J:List Ck)(now:Int):∀ (k:Nat) (S:FSt) (C:List En),EvOk (sendF J now k S C)
 | 0,S,C=>⟨fun _=>Kh _,Kh _⟩
 | k + 1, S, C => by
   have ho:∀ C more ch,EvOk (askO J now S C more ch):=fun C more ch=>⟨fun _=>lr,by show 1<=3;decide⟩
   unfold sendF
   split
   ·simp only
    split
    ·exact restF_ev _ (takeF_ev (fun S C=>sendF_ev J now k S C) _ _ _ _ _ _)
    ·split
     ·exact ho _ _ _
     ·exact ho _ _ _
   ·exact ho _ _ _
theorem ev_src {w:World}{b n:Nat}{sa:Option Addr}{c:Nat}{xs:List Value}(h:w.ownsRow b 48 7 (.slice sa n c) n xs):(sa=none/\n=0)\/∃ ad,sa=some ad/\∀ j u,xs[j]? = some u->w.cell? (ad.add j)=some u:=by
 obtain ⟨a,cap,e,_,_,h2⟩:=own_reads h;injection e with e1 e2 e3;subst e1;rcases h2 with h2 | ⟨g,rfl,_,_,h3⟩
 ·exact .inl h2
 ·refine .inr ⟨_,rfl,fun j u hu=>?_⟩;rw [add_none];simpa using h3 j u hu
theorem one7 [Prot]{M:Nat->Prop}{w:World}(l:List (Value × Ev))(h:∀ r∈l,Hs M w r.1 r.2.hs):∀ u∈cellsK evC l,u.oneCell'=true:=by
 intro u hu;unfold cellsK at hu;obtain ⟨r,hr,h2⟩:=List.mem_flatMap.1 hu;obtain ⟨a,c,e⟩:=(h r hr).shape;simp only [evC,Ji,Zo,or_false] at h2;rcases h2 with rfl | rfl | rfl | rfl | rfl | rfl | rfl
 ·rfl
 ·rfl
 ·rfl
 ·rw [e];rfl
 ·rfl
 ·rfl
 ·rfl
theorem Evs.app [Prot]{M:Nat->Prop}{b b2:Nat}{w w':World}{v v2 v':Value}{l l2:List (Value × Ev)}{ev ev2:List Ev}(h:Evs M b w v l ev)(h2:Evs M b2 w v2 l2 ev2)(ho:w'.ownsRow b 48 7 v' (l.length+l2.length) (cellsK evC l ++ cellsK evC l2))(k:Below w.heap.size w w')(hM:∀ b,M b->b<w.heap.size)(hv:∀ g,v'.ownBlock=some g->v.ownBlock=some g\/w.heap.size<=g):Evs M b w' v' (l ++ l2) (ev ++ ev2):=
 ⟨by rw [Zi,h.eq,h2.eq],own_eq ho (by rw [Kw]) (by rw [cellsK_app]),fun g hg e=>by
  rcases hv g hg with h3 | h3
  ·exact h.far g h3 e
  ·have:=hM g e;omega,fun r hr=>by
  rcases Kz.1 hr with h3 | h3
  ·exact (h.hs r h3).below k
  ·exact (h2.hs r h3).below k⟩
theorem FIn.but [Prot]{w w':World}{s0 jb cb B:Nat}{vj:Value}{J:List Ck}{nx:Int}{vc:Value}{lx:List Ee}{S S':FSt}(h:FIn w s0 jb cb B vj J nx vc lx S)(k:BelowBut w.heap.size s0 w w')(hs:∀ vh wh,AtL w s0 (fsV S vh wh)->AtL w' s0 (fsV S' vh wh))(e1:S'.qh=S.qh)(e2:S'.hs=S.hs):FIn w' s0 jb cb B vj J nx vc lx S':=by
 obtain ⟨E,va,vk,wa,wk,S0,hq,hh⟩:=h;have K:Kp w.heap.size (Mu s0 jb cb vj vc) w w':=⟨k.os,k.tape,k.output,k.size,fun i hi hm=>k.block i hi (fun e=>hm (.inl e))⟩
 refine ⟨E.but k,va,vk,wa,wk,?_,?_,?_⟩
 ·rw [e1,e2];exact hs _ _ S0
 ·rw [e1];exact hq.same K lr
 ·rw [e2];exact hh.same K lr
structure Op4 where
 k:Nat
 st:Int
 hs:List Hd
 bo:ByteArray
structure Rn where
 s:FSt
 j:List Ck × Int
 c:List En
 ev:List Ev
noncomputable def jarH (S:FSt)(now:Int)(hs:List Hd)(j:List Ck × Int):List Ck × Int:=if S.ck=true then jarF S now hs j else j
noncomputable def headA (now st:Int)(hs:List Hd)(S:FSt)(j:List Ck × Int)(C:List En):(List Ck × Int) × Out:=
 if S.ph=1 then (jarH S now hs j,headF (jarH S now hs j).1 now st hs S C) else (j,⟨S,C,[]⟩)
noncomputable def opF (now:Int)(o:Op4)(r:Rn):Rn:=
 if o.k % 5=0 then ⟨(headA now o.st o.hs r.s r.j r.c).2.s,(headA now o.st o.hs r.s r.j r.c).1,(headA now o.st o.hs r.s r.j r.c).2.c,r.ev ++ (headA now o.st o.hs r.s r.j r.c).2.ev⟩
 else if o.k % 5=1 then ⟨(dataF o.bo r.s).1,r.j,r.c,r.ev ++ (dataF o.bo r.s).2⟩
 else if o.k % 5=2 then ⟨(endF now r.s r.c).s,r.j,(endF now r.s r.c).c,r.ev ++ (endF now r.s r.c).ev⟩
 else if o.k % 5=3 then ⟨(stopF 17 r.s).1,r.j,r.c,r.ev ++ (stopF 17 r.s).2⟩
 else ⟨(stopF 18 r.s).1,r.j,r.c,r.ev ++ (stopF 18 r.s).2⟩
def startF (now:Int)(S:FSt)(j:List Ck × Int)(C:List En):Rn:=⟨(beginF j.1 now S C).s,j,(beginF j.1 now S C).c,(beginF j.1 now S C).ev⟩
noncomputable def runF (now:Int)(ops:List Op4)(r:Rn):Rn:=ops.foldl (fun r o=>opF now o r) r
theorem runF_snoc (now:Int)(ops:List Op4)(o:Op4)(r:Rn):runF now (ops ++ [o]) r=opF now o (runF now ops r):=by unfold runF;rw [Xj];rfl
theorem runF_cons (now:Int)(ops:List Op4)(o:Op4)(r:Rn):runF now (o :: ops) r=runF now ops (opF now o r):=rfl
structure OpOk (o:Op4):Prop where
 hs:HOk 8 o.hs
 bo:o.bo.size<=100000
structure POk (P:List Hd->Prop)(o:Out):Prop where
 s:P o.s.hs
 c:∀ e∈o.c,P e.hd
theorem keepF_p {P:List Hd->Prop}(S:FSt)(st:Int){hd:List Hd}(hh:P hd)(body:ByteArray)(now:Int){C:List En}(hC:∀ e∈C,P e.hd):∀ e∈keepF S st hd body now C,P e.hd:=by
 unfold keepF;split
 ·intro e he;rcases Kz.1 he with he | he
  ·exact hC e (Zp.1 he).1
  ·split at he
   ·obtain rfl:=Jc.1 he;exact hh
   ·cases he
 ·exact hC
section
variable {P : List Hd → Prop} (h0 : P [])
include h0
theorem redirF_p {snd:FSt->List En->Out}(hs:∀ S C,P S.hs->(∀ e∈C,P e.hd)->POk P (snd S C))(st:Int)(loc:ByteArray){S:FSt}(hS:P S.hs){C:List En}(hC:∀ e∈C,P e.hd):POk P (redirF snd st loc S C):=by
 unfold redirF;split
 ·exact ⟨h0,hC⟩
 ·split
  ·exact ⟨h0,hC⟩
  ·split
   ·exact ⟨h0,hC⟩
   ·split
    ·exact ⟨h0,hC⟩
    ·exact hs _ _ hS hC
theorem takeF_p {snd:FSt->List En->Out}(hs:∀ S C,P S.hs->(∀ e∈C,P e.hd)->POk P (snd S C))(net:Bool)(now st:Int){hd:List Hd}(hh:P hd){S:FSt}(hS:P S.hs){C:List En}(hC:∀ e∈C,P e.hd):POk P (takeF snd net now st hd S C):=by
 unfold takeF;split
 ·split
  ·exact ⟨h0,hC⟩
  ·refine redirF_p h0 hs st _ hS ?_;split
   ·exact keepF_p S st hh eS now hC
   ·exact hC
 ·unfold headO;split
  ·exact ⟨h0,hC⟩
  ·exact ⟨hh,hC⟩
theorem dataF_p (p:ByteArray){S:FSt}(hS:P S.hs):P (dataF p S).1.hs:=by
 unfold dataF;split
 ·split
  ·exact h0
  ·exact hS
 ·exact hS
theorem storedF_p {snd:FSt->List En->Out}(hs:∀ S C,P S.hs->(∀ e∈C,P e.hd)->POk P (snd S C))(now:Int){e:En}(he:P e.hd){S:FSt}(hS:P S.hs){C:List En}(hC:∀ e∈C,P e.hd):POk P (storedF snd now e S C):=by
 have ht:=takeF_p h0 hs false now e.st he (S:={ S with ch:=false }) hS hC;unfold storedF restF;split
 ·split
  ·exact ⟨dataF_p h0 _ ht.s,ht.c⟩
  ·exact ⟨dataF_p h0 _ ht.s,ht.c⟩
 ·exact ht
theorem askF_p (C:List En)(url:ByteArray)(rq:List Hd)(now:Int)(hC:∀ e∈C,P e.hd):P (askF C url rq now).e.hd/\∀ e∈(askF C url rq now).c,P e.hd:=by
 unfold askF;split
 ·exact ⟨h0,hC⟩
 ·next i _=>
  split
  ·exact ⟨h0,hC⟩
  ·split
   ·exact ⟨h0,hC⟩
   ·next e he=>
    have he1:=hC e (List.mem_of_getElem? he);split
    ·refine ⟨he1,fun x hx=>?_⟩;rcases Kz.1 hx with hx | hx
     ·exact hC x (Xr hx)
     ·obtain rfl:=Jc.1 hx;exact he1
    ·split
     ·exact ⟨h0,hC⟩
     ·exact ⟨he1,hC⟩
theorem sendF_p (J:List Ck)(now:Int):∀ (k:Nat) (S:FSt) (C:List En),P S.hs->(∀ e∈C,P e.hd)->POk P (sendF J now k S C)
 | 0,S,C,hS,hC=>⟨hS,hC⟩
 | k + 1, S, C, hS, hC => by
   have ha:=askF_p h0 C (txB S) (hdF S) now hC
   unfold sendF
   split
   ·simp only
    split
    ·exact storedF_p h0 (fun S C=>sendF_p J now k S C) now ha.1 hS ha.2
    ·split
     ·exact ⟨hS,ha.2⟩
     ·exact ⟨hS,ha.2⟩
   ·exact ⟨hS,hC⟩
end
structure ROk (i:Nat)(r:Rn):Prop where
 s:SOk r.s
 h:HOk (100+10 * i) r.s.hs
 c:COk (20+2 * i) (100+10 * i) r.c
 j:JOk r.j.1
 n1:0<=r.j.2
 n2:r.j.2<=1125899906842624+10 * i
 e:r.ev.length<=3 * (i+1)
theorem EOk.mono {m n:Nat}{e:En}(h:EOk m e)(hm:m<=n):EOk n e:=⟨h.hd.mono hm,h.va,h.bo⟩
theorem COk.mono {n m n' m':Nat}{C:List En}(h:COk n m C)(hn:n<=n')(hm:m<=m'):COk n' m' C:=⟨Kg h.len hn,fun e he=>(h.ok e he).mono hm⟩
theorem jarF_ok {S:FSt}{now:Int}(hS:USize 40000 S.a S.b S.c S.d S.e S.f):∀ (hs:List Hd) (j:List Ck × Int),JOk j.1->(∀ h∈hs,h.2.size<=1000)->JOk (jarF S now hs j).1/\j.2<=(jarF S now hs j).2/\(jarF S now hs j).2<=j.2+hs.length
 | [],j,hJ,_=>⟨hJ,Int.le_refl _,by show j.2<=j.2+((0:Nat):Int);omega⟩
 | h :: r, j, hJ, hz => by
   have h1:JOk (if isH h scN then setJ h.2 S now j else j).1/\j.2<=(if isH h scN then setJ h.2 S now j else j).2/\(if isH h scN then setJ h.2 S now j else j).2<=j.2+1:=by
    split
    ·exact setJ_ok hS hJ (hz h Jz)
    ·exact ⟨hJ,Int.le_refl _,by omega⟩
   have h2:=jarF_ok hS (now:=now) r _ h1.1 (fun x hx=>hz x (Jg _ hx))
   have e:jarF S now (h :: r) j=jarF S now r (if isH h scN then setJ h.2 S now j else j):=rfl
   rw [e]
   exact ⟨h2.1,by omega,by have:(h :: r).length=r.length+1:=rfl;omega⟩
theorem merge_ok {m:Nat}{old hs:List Hd}(h1:HOk m old)(h2:HOk 8 hs):HOk (m+8) (mergeL old hs):=by
 unfold mergeL;refine ⟨?_,fun x hx=>?_⟩
 ·rw [Kw];have:=Zj (fun d=>!hasH hs d) old;have:=h1.len;have:=h2.len;omega
 ·rcases Kz.1 hx with hx | hx
  ·exact h1.sz x (Zp.1 hx).1
  ·exact h2.sz x hx
theorem conf_ok {n m:Nat}{C:List En}(hC:COk n m C){hs:List Hd}(hh:HOk 8 hs)(url:ByteArray)(rq:List Hd)(now:Int):∀ p,confF C url rq hs now=some p->EOk (m+8) p.1/\COk n (m+8) p.2:=by
 intro p hp;unfold confF at hp;split at hp
 ·cases hp
 ·next i _=>
  split at hp
  ·cases hp
  ·next e he=>
   injection hp with hp;subst hp;have he0:=hC.ok e (List.mem_of_getElem? he);have he1:EOk (m+8) (confE e hs now):=⟨merge_ok he0.hd hh,he0.va,he0.bo⟩
   refine ⟨he1,?_,fun x hx=>?_⟩
   ·have hi:i<C.length:=(Xi.1 he).1;rw [Kw,List.length_eraseIdx,Kf hi,Xo];have:=hC.len;omega
   ·rcases Kz.1 hx with hx | hx
    ·exact (hC.ok x (Xr hx)).mono (by omega)
    ·obtain rfl:=Jc.1 hx;exact he1
theorem OOk.mono {n m n' m':Nat}{o:Out}(h:OOk n m o)(hn:n<=n')(hm:m<=m'):OOk n' m' o:=⟨h.s,h.c.mono hn hm⟩
theorem headF_ok {n m:Nat}(hm:m+8<=800)(J:List Ck)(now st:Int){hs:List Hd}(hh:HOk 8 hs)(h8:8<=m){S:FSt}(hS:SOk S){C:List En}(hC:COk n m C):OOk (n+1) (m+8) (headF J now st hs S C):=by
 unfold headF;split
 ·split
  ·exact failO_ok (hC.mono (by omega) (by omega)) hS _
  ·next e C' he=>
   have h:=conf_ok hC hh _ _ _ _ he;exact (storedF_ok (by omega) (fun S C hS hC=>sendF_ok (by omega) J now 11 S C hS hC) now h.1 hS h.2).mono (by omega) lr
 ·exact takeF_ok (n:=n+1) hm (fun S C hS hC=>sendF_ok hm J now 11 S C hS hC) true now st (hh.mono (by omega)) hS (hC.mono (by omega) (by omega)) (fun _=>(hC.mono (Zf n) (Nat.le_add_right m 8)).keep hS hm st (hh.mono (by omega)) (Kh _) now)
theorem headF_h {n m:Nat}(J:List Ck)(now st:Int){hs:List Hd}(hh:HOk 8 hs){S:FSt}(hS:HOk m S.hs){C:List En}(hC:COk n m C):HOk (m+8) (headF J now st hs S C).s.hs:=by
 have hS2:=hS.mono (Nat.le_add_right m 8);unfold headF;split
 ·split
  ·exact HOk.nil _
  ·next e C' he=>
   have h:=conf_ok hC hh _ _ _ _ he;exact (storedF_p (HOk.nil (m+8)) (fun S C=>sendF_p (HOk.nil (m+8)) J now 11 S C) now h.1.hd hS2 (fun e he=>(h.2.ok e he).hd)).s
 ·exact (takeF_p (HOk.nil (m+8)) (fun S C=>sendF_p (HOk.nil (m+8)) J now 11 S C) true now st (hh.mono (by omega)) hS2 (fun e he=>(hC.ok e he).hd.mono (by omega))).s
theorem headA_h {n m:Nat}(now st:Int){hs:List Hd}(hh:HOk 8 hs){S:FSt}(hS:HOk m S.hs){C:List En}(hC:COk n m C)(j:List Ck × Int):HOk (m+8) (headA now st hs S j C).2.s.hs:=by
 unfold headA;split
 ·exact headF_h _ now st hh hS hC
 ·exact hS.mono (by omega)
theorem headA_ok {n m:Nat}(hm:m+8<=800)(h8:8<=m)(now st:Int){hs:List Hd}(hh:HOk 8 hs){S:FSt}(hS:SOk S){C:List En}(hC:COk n m C){j:List Ck × Int}(hJ:JOk j.1):OOk (n+1) (m+8) (headA now st hs S j C).2/\JOk (headA now st hs S j C).1.1/\j.2<=(headA now st hs S j C).1.2/\(headA now st hs S j C).1.2<=j.2+8:=by
 unfold headA;split
 ·refine ⟨headF_ok hm _ now st hh h8 hS hC,?_⟩;unfold jarH;split
  ·have h1:=jarF_ok (now:=now) hS.u4 hs j hJ (fun h hx=>by have:=hh.sz h hx;omega);have h2:=hh.len;exact ⟨h1.1,h1.2.1,by show (jarF S now hs j).2<=j.2+8;omega⟩
  ·exact ⟨hJ,Int.le_refl _,by show j.2<=j.2+8;omega⟩
 ·exact ⟨⟨hS,hC.mono (by omega) (by omega)⟩,hJ,Int.le_refl _,by show j.2<=j.2+8;omega⟩
theorem headA_ev (now st:Int)(hs:List Hd)(S:FSt)(j:List Ck × Int)(C:List En):(headA now st hs S j C).2.ev.length<=3:=by
 unfold headA;split
 ·unfold headF;split
  ·split
   ·exact (failO_ev _ _ _).2
   ·exact (restF_ev _ (takeF_ev (fun S C=>sendF_ev _ now 11 S C) false now _ _ _ _)).2
  ·exact (takeF_ev (fun S C=>sendF_ev _ now 11 S C) true now st hs S C).2
 ·exact Kh _
theorem SOk.stop {S:FSt}(h:SOk S)(e:Int):SOk (stopF e S).1:=by
 unfold stopF;split
 ·exact h.fail e
 ·exact h
theorem stop_ev (e:Int)(S:FSt):(stopF e S).2.length<=1:=by
 unfold stopF;split
 ·exact lr
 ·exact Kh _
theorem opF_ok {now:Int}{o:Op4}(ho:OpOk o){i:Nat}(hi:i<=50){r:Rn}(h:ROk i r):ROk (i+1) (opF now o r):=by
 have hC:COk (20+2 * (i+1)) (100+10 * (i+1)) r.c:=h.c.mono (by omega) (by omega);have hH:HOk (100+10 * (i+1)) r.s.hs:=h.h.mono (by omega);have he:=h.e;have h1:=h.n1;have h2:=h.n2;unfold opF;split
 ·have hk:=headA_ok (n:=20+2 * i) (m:=100+10 * i) (by omega) (by omega) now o.st ho.hs h.s h.c h.j;have hh:=headA_h now o.st ho.hs h.h h.c r.j;have hv:=headA_ev now o.st o.hs r.s r.j r.c;exact ⟨hk.1.s,hh.mono (by omega),hk.1.c.mono (by omega) (by omega),hk.2.1,by show 0<=(headA now o.st o.hs r.s r.j r.c).1.2;omega,by show (headA now o.st o.hs r.s r.j r.c).1.2<=_;omega,by show (r.ev ++ _).length<=_;rw [Kw];omega⟩
 ·split
  ·have hv:=data_ev o.bo r.s;exact ⟨h.s.data _,dataF_p (HOk.nil _) _ hH,hC,h.j,h1,by show r.j.2<=_;omega,by show (r.ev ++ _).length<=_;rw [Kw];omega⟩
  ·split
   ·unfold endF;split
    ·exact ⟨h.s.pha 3,hH,(h.c.keep h.s (by omega) r.s.st h.h h.s.sb now).mono (by omega) (by omega),h.j,h1,by show r.j.2<=_;omega,by show (r.ev ++ [endV]).length<=_;rw [Kw,Xo];omega⟩
    ·exact ⟨h.s,hH,hC,h.j,h1,by show r.j.2<=_;omega,by show (r.ev ++ []).length<=_;rw [Je];omega⟩
   ·have hst:∀ e:Int,ROk (i+1) ⟨(stopF e r.s).1,r.j,r.c,r.ev ++ (stopF e r.s).2⟩:=fun e=>by
     have hv:=stop_ev e r.s;refine ⟨h.s.stop e,?_,hC,h.j,h1,by show r.j.2<=_;omega,by show (r.ev ++ _).length<=_;rw [Kw];omega⟩;show HOk _ (stopF e r.s).1.hs;unfold stopF;split
     ·exact HOk.nil _
     ·exact hH
    split
    ·exact hst 17
    ·exact hst 18
theorem newS_ok {tk:Int}{me ur og:ByteArray}{mo:Int}{qh:List Hd}{qb:ByteArray}{ck:Bool}(ql:qh.length<=100)(qz:∀ h∈qh,h.1.size<=1000/\h.2.size<=1000)(hg:og.size<=1000)(hu:ur.size<=450):SOk (newS tk me ur og mo qh qb ck):=
 ⟨Kh _,⟨Kh _,Kh _,Kh _,Kh _,Kh _,Kh _⟩,Kh _,ql,qz,hg,hu,HOk.nil _,Kh _⟩
theorem SOk.putU {S:FSt}(h:SOk S){u:U6}(hu:parseL S.ur.data.toList=some u)(m:ByteArray):SOk { putU S u with sm:=m }:=by
 obtain ⟨h1,h2,h3,h4,h5,h6⟩:=parse_len _ _ hu;have hz:=h.ur;rw [size_len] at h1 h2 h3 h4 h5 h6;have hb:∀ l:List UInt8,l.length<=3 * S.ur.size+2->(bs l).size<=1352:=fun l hl=>by rw [bs_size];omega
 have a1:=hb _ h1;have a2:=hb _ h2;have a3:=hb _ h3;have a4:=hb _ h4;have a5:=hb _ h5;have a6:=hb _ h6;exact ⟨h.ho,⟨Kg a1 (by omega),Kg a2 (by omega),Kg a3 (by omega),Kg a4 (by omega),Kg a5 (by omega),Kg a6 (by omega)⟩,Kg a4 (by omega),h.ql,h.qz,h.og,h.ur,h.hs,h.sb⟩
theorem beginF_ok {n m:Nat}(hm:m<=800)(J:List Ck)(now:Int){S:FSt}(hS:SOk S){C:List En}(hC:COk n m C):OOk n m (beginF J now S C):=by
 unfold beginF;split
 ·exact failO_ok hC hS _
 ·split
  ·exact failO_ok hC hS _
  ·next u hu=>
   split
   ·exact failO_ok hC hS _
   ·split
    ·exact failO_ok hC hS _
    ·exact sendF_ok hm J now 11 _ _ (hS.putU hu _) hC
theorem beginF_h {P:List Hd->Prop}(h0:P [])(J:List Ck)(now:Int){S:FSt}(hS:P S.hs){C:List En}(hC:∀ e∈C,P e.hd):POk P (beginF J now S C):=by
 unfold beginF;split
 ·exact ⟨h0,hC⟩
 ·split
  ·exact ⟨h0,hC⟩
  ·split
   ·exact ⟨h0,hC⟩
   ·split
    ·exact ⟨h0,hC⟩
    ·exact sendF_p h0 J now 11 _ _ hS hC
theorem beginF_ev (J:List Ck)(now:Int)(S:FSt)(C:List En):(beginF J now S C).ev.length<=3:=by
 unfold beginF;split
 ·exact (failO_ev _ _ _).2
 ·split
  ·exact (failO_ev _ _ _).2
  ·split
   ·exact (failO_ev _ _ _).2
   ·split
    ·exact (failO_ev _ _ _).2
    ·exact (sendF_ev J now 11 _ _).2
theorem startF_ok {now:Int}{S:FSt}(hS:SOk S)(hh:S.hs=[]){j:List Ck × Int}(hJ:JOk j.1)(h1:0<=j.2)(h2:j.2<=1125899906842624){C:List En}(hC:COk 20 100 C):ROk 0 (startF now S j C):=by have h:=beginF_ok (by omega) j.1 now hS hC;exact ⟨h.s,(beginF_h (P:=HOk 100) (HOk.nil _) j.1 now (by rw [hh];exact HOk.nil _) (fun e he=>(hC.ok e he).hd)).s,h.c,hJ,h1,by show j.2<=_;omega,beginF_ev _ _ _ _⟩
theorem runF_ok {now:Int}:∀ (ops:List Op4) (i:Nat) (r:Rn),(∀ o∈ops,OpOk o)->i+ops.length<=50->ROk i r->ROk (i+ops.length) (runF now ops r)
 | [],i,r,_,_,h=>h
 | o :: ops, i, r, ho, hi, h => by
   have hi:i+(ops.length+1)<=50:=hi
   have:=runF_ok (now:=now) ops (i+1) (opF now o r) (fun x hx=>ho x (Jg _ hx)) (by omega) (opF_ok (ho o Jz) (by omega) h)
   rw [runF_cons]
   show ROk (i+(ops.length+1)) _
   rw [show i+(ops.length+1)=i+1+ops.length by omega]
   exact this
abbrev zEv:List Value:=[.int .i64 0,.string ⟨#[]⟩,.string ⟨#[]⟩,.slice none 0 0,.string ⟨#[]⟩,.int .i64 0,.int .i64 0]
abbrev set7 (W:World)(k:Nat)(a b c d e f g:Value):World:=((((((W.setCell ⟨k,0,none⟩ a).setCell ⟨k,1,none⟩ b).setCell ⟨k,2,none⟩ c).setCell ⟨k,3,none⟩ d).setCell ⟨k,4,none⟩ e).setCell ⟨k,5,none⟩ f).setCell ⟨k,6,none⟩ g
theorem AtL.set7 {W:World}{k:Nat}{vs:List Value}(hv:AtL W k vs)(hl:vs.length=7)(a b c d e f g:Value):AtL (set7 W k a b c d e f g) k [a,b,c,d,e,f,g]:=by
 match vs,hl with
 | [_,_,_,_,_,_,_],_=>exact ((((((hv.set 0 a).set 1 b).set 2 c).set 3 d).set 4 e).set 5 f).set 6 g
theorem atl_fark7 {W:World}{k q:Nat}{vs:List Value}(h:AtL W q vs)(hk:k≠q)(a b c d e f g:Value):AtL (set7 W k a b c d e f g) q vs:=
 ((((((h.far ⟨k,0,none⟩ a hk).far ⟨k,1,none⟩ b hk).far ⟨k,2,none⟩ c hk).far ⟨k,3,none⟩ d hk).far ⟨k,4,none⟩ e hk).far ⟨k,5,none⟩ f hk).far ⟨k,6,none⟩ g hk
theorem atl_fark8 {W:World}{k q:Nat}{vs:List Value}(h:AtL W q vs)(hk:k≠q)(a b c d e f g i:Value):AtL (set8 W k a b c d e f g i) q vs:=
 (((((((h.far ⟨k,0,none⟩ a hk).far ⟨k,1,none⟩ b hk).far ⟨k,2,none⟩ c hk).far ⟨k,3,none⟩ d hk).far ⟨k,4,none⟩ e hk).far ⟨k,5,none⟩ f hk).far ⟨k,6,none⟩ g hk).far ⟨k,7,none⟩ i hk
theorem below_set7 {B k:Nat}{w W:World}(h:Below B w W)(hk:B<=k)(a b c d e f g:Value):Below B w (set7 W k a b c d e f g):=
 ((((((h.setCell (p:=⟨k,0,none⟩) hk a).setCell (p:=⟨k,1,none⟩) hk b).setCell (p:=⟨k,2,none⟩) hk c).setCell (p:=⟨k,3,none⟩) hk d).setCell (p:=⟨k,4,none⟩) hk e).setCell (p:=⟨k,5,none⟩) hk f).setCell (p:=⟨k,6,none⟩) hk g
theorem RedA.kp [Prot]{w0 w w':World}{s0 jb cb B:Nat}{vj:Value}{J:List Ck}{nx:Int}{vc:Value}{S S':FSt}{C:List En}{V:Nat}{now:Int}{vc1 vc2:Value}{lx1 lx2:List Ee}(h:RedA w0 s0 jb cb B vj J nx vc S C V now vc1 lx1 w)(F:FIn w' s0 jb cb B vj J nx vc2 lx2 S')(K:Kp w.heap.size (Mu s0 jb cb vj vc1) w w')(hM:∀ b,b<w.heap.size->Mu s0 jb cb vj vc2 b->Mu s0 jb cb vj vc1 b)(hV:¬ Mu s0 jb cb vj vc1 V):
 RedA w0 s0 jb cb B vj J nx vc S' (lx2.map (·.2)) V now vc2 lx2 w':=
 ⟨F,rfl,h.k.trans K h.k.size h.m,fun b hb e=>h.m b hb (hM b (Ko hb h.k.size) e),h.v.kp K h.v.lt hV⟩
theorem stored_is [Prot]{w:World}{s0 jb cb B:Nat}{vj:Value}{J:List Ck}{nx:Int}{vc:Value}{lx:List Ee}{S:FSt}{n m:Nat}(F:FIn w s0 jb cb B vj J nx vc lx S)(hS:SOk S)(hC:COk n m (lx.map (·.2)))(hn:n<=900)(hm:m<=800)
 (en:En) (he:EOk m en) (u:ByteArray) (a1:Option Addr) (n1 k1:Nat) (ha:Option Addr) (hn' hk:Nat) (ti:Int) (hh:Hq (fun b=>b=s0) w (.slice ha hn' hk) en.hd) (now:Int) (snd:FSt->List En->Out) (hev:∀ S C,EvOk (snd S C)) (hok:∀ S C,SOk S->COk n m C->OOk n m (snd S C))
 (hsnd:∀ (S2:FSt) (w':World) (vc2:Value) (lx2:List Ee),SOk S2->S2.ho=S.ho+1->COk (n+1) m (lx2.map (·.2))->FIn w' s0 jb cb B vj J nx vc2 lx2 S2->Calls Tryz.prog 116 #[.pointer (some ⟨s0,0,none⟩),envA jb cb now] w' (StepQ w' s0 jb cb B vj J nx vc2 (snd S2 (lx2.map (·.2)))))
 (o:Out) (ho:storedF snd now en S (lx.map (·.2))=o) :
 Calls Tryz.prog 77 #[.pointer (some ⟨s0,0,none⟩),.agg #[.string u,.slice a1 n1 k1,.int .i64 en.st,.slice ha hn' hk,.string en.bo,.int .i64 ti],envA jb cb now] w (StepQ w s0 jb cb B vj J nx vc o):=by
 obtain ⟨W0,hW0⟩:∃ W0:World,w.alloc (.cells [.string u,.slice a1 n1 k1,.int .i64 en.st,.slice ha hn' hk,.string en.bo,.int .i64 ti].toArray 90)=W0:=⟨_,rfl⟩
 have hal0:=(Kc w).alloc lr (.cells [.string u,.slice a1 n1 k1,.int .i64 en.st,.slice ha hn' hk,.string en.bo,.int .i64 ti].toArray 90);have hsz0:W0.heap.size=w.heap.size+1:=by rw [<-hW0];simp
 have E0:=AtL.new w [.string u,.slice a1 n1 k1,.int .i64 en.st,.slice ha hn' hk,.string en.bo,.int .i64 ti] 90;rw [hW0] at hal0 E0;have hal1:=(Kc W0).alloc lr (.cells (envL jb cb now).toArray 83);have hal:=hal0.trans (hal1.mono hal0.size);have V1:=AtL.new W0 (envL jb cb now) 83;rw [hsz0] at V1;have E1:=E0.next hal1;have hV1:¬ Mu s0 jb cb vj vc (w.heap.size+1):=fun e=>by have:=F.env.mlt _ e;omega
 have hE1:¬ Mu s0 jb cb vj vc w.heap.size:=fun e=>by have:=F.env.mlt _ e;omega
 have hsV:s0≠w.heap.size+1:=by have:=F.env.ls;omega
 have hsE:s0≠w.heap.size:=by have:=F.env.ls;omega
 have A1:RedA w s0 jb cb B vj J nx vc S (lx.map (·.2)) (w.heap.size+1) now vc lx (W0.alloc (.cells (envL jb cb now).toArray 83)):=⟨F.below hal,rfl,Kp.of_below hal lr,fun _ _ e=>e,V1⟩
 obtain ⟨o1,ho1⟩:∃ o1,takeF snd false now en.st en.hd { S with ch:=false } (lx.map (·.2))=o1:=⟨_,rfl⟩
 have hO1:OOk n m o1:=by rw [<-ho1];exact takeF_ok hm hok false now en.st he.hd (hS.chk false) hC (fun h=>by cases h)
 have hE1':EvOk o1:=by rw [<-ho1];exact takeF_ev hev false now en.st en.hd _ _
 have hor:restF en.bo o1=o:=by rw [<-ho1];exact ho
 have CT:=Kb (fun (w':World) (F':FIn w' s0 jb cb B vj J nx vc lx { S with ch:=false }) (hh':Hq (fun b=>b=s0) w' (.slice ha hn' hk) en.hd)=>take_is F' (hS.chk false) hC hn hm en.st (.slice ha hn' hk) en.hd hh'.1 hh'.2 he.hd false (fun h=>by cases h) now snd hsnd o1 ho1);have CD:=Kb (fun (w':World) (vc':Value) (lx':List Ee) (F':FIn w' s0 jb cb B vj J nx vc' lx' o1.s)=>data_is F' en.bo (by have:=he.bo;omega) (by have:=hO1.s.sb;omega) now);have HR:=Kb hor;have HH:=Kb hh;have hev1:=hE1'.all;have HE1:=Kb hE1';clear hor ho ho1 hsnd hok hev hS hC hh F hO1 hE1' V1;obtain ⟨w1,hw1⟩:∃ w1:World,W0.alloc (.cells (envL jb cb now).toArray 83)=w1:=⟨_,rfl⟩
 obtain ⟨V,hV⟩:=Ka (w.heap.size+1);obtain ⟨Eb,hEb⟩:=Ka w.heap.size;rw [hw1] at A1 E1 hal;rw [hV] at A1 hV1 hsV hsz0;rw [hEb] at E1 hE1 hsE;have HAL:=Kb hal;clear hal0 hal1 hal E0;have AQ:=A1;obtain ⟨vhq,whq,SQ,_,_⟩:=AQ.f.cells;have z_:=SQ.o23;have y_:=SQ.of23;have zl:=SQ.lt;have VQ:=AQ.v;have v_:=VQ.o3;have f_:=VQ.of3;have vl:=VQ.lt;have r_:=E1.o6;have rl:=E1.lt;go_enter Tryz.func77,Tryz.ntmps77;go_upto_region 2 with fail;have A2:=A1.set (S':={ S with ch:=false }) hsV 17 (.bool false) (fun _ _=>rfl) rfl rfl;have E2:=E1.far ⟨s0,17,none⟩ (.bool false) hsE;obtain ⟨w2,hw2⟩:∃ w2:World,w1.setCell ⟨s0,17,none⟩ (.bool false)=w2:=⟨_,rfl⟩
 have HH2:Hid (Hq (fun b=>b=s0) w2 (.slice ha hn' hk) en.hd):=Kb (HH.out.same (by rw [<-hw2];exact (Kp.of_below (M:=fun b=>b=s0) HAL.out lr).setCell ⟨s0,17,none⟩ (.inl rfl) _) lr);rw [hw2] at A2 E2;rw [hw2];have HA2:=Kb A2;clear z_ y_ v_ f_ zl vl SQ VQ;clear r_ rl hw2 E1 A1 AQ;have V2:=A2.v;have v_:=V2.o3;have f_:=V2.of3;have vl:=V2.lt;have r_:=E2.o6;have rl:=E2.lt;have hVw:=A2.v.lt;clear A2 V2
 go_upto_region 3 with (first
  | (go_at_call 78;(refine (CT.out w2 HA2.out.f HH2.out).mono ?_);rintro e3 w3 hq3;have HQ3:=Kb (HA2.out.fin hq3);obtain ⟨v3,l3,vc3,lx3,rfl,F3,hm3,Ev3,K3,hM3,hcap3⟩:=hq3;obtain ⟨oa,oc,rfl,_⟩:=own_reads Ev3.own)
  | fail)
 have A3:=HA2.out.kp F3 K3 hM3 hV1;have E3:=E2.kp K3 E2.lt hE1;have hV3:¬ Mu s0 jb cb vj vc3 V:=fun e=>hV1 (hM3 V hVw e);have hl3:l3.length=o1.ev.length:=by have:=Kq List.length Ev3.eq;simpa using this
 clear v_ f_ vl r_ rl E2;have AQ:=A3;obtain ⟨vhq,whq,SQ,_,_⟩:=AQ.f.cells;have z_:=SQ.o23;have y_:=SQ.of23;have zl:=SQ.lt;have VQ:=AQ.v;have v_:=VQ.o3;have f_:=VQ.of3;have vl:=VQ.lt;have r_:=E3.o6;have rl:=E3.lt;have HA3:=Kb A3;have HF3:=Kb F3;have HE3:=Kb Ev3;have HM3:=Kb hm3;clear A3 AQ F3 Ev3 hm3;by_cases h2:o1.s.ph=2
 ·have h2b:(o1.s.ph == 2)=true:=by rw [h2];rfl
  have hl1:l3.length<=1:=by rw [hl3];exact HE1.out.one h2
  have hc3:=hcap3 (.inr h2);have H2:=Kb h2;have HC3:=Kb hc3;obtain ⟨dS,hdS⟩:=Ka ((dataF en.bo o1.s).1);obtain ⟨dE,hdE⟩:=Ka ((dataF en.bo o1.s).2);have hd1:dE.length<=1:=by rw [<-hdE];exact data_ev _ _
  have H41:Hid (dS.ph≠1):=Kb (by
   rw [<-hdS];unfold dataF;rw [Kf h2];split
   ·show (4:Int)≠1;decide
   ·show o1.s.ph≠1;omega)
  have CD2:=Kb (fun (w':World) (vc':Value) (lx':List Ee) F'=>(show Calls Tryz.prog 34 #[.pointer (some ⟨s0,0,none⟩),.string en.bo,envA jb cb now] w' (StepQ w' s0 jb cb B vj J nx vc' ⟨dS,lx'.map (·.2),dE⟩) by rw [<-hdS,<-hdE];exact CD.out w' vc' lx' F'));have HR2:=Kb HR.out;have HDS:=Kb (And.intro hdS hdE);clear h2 hcap3 hc3 hdS hdE CD HR hl3
  go_upto_region 5 with (first
   | (go_at_call 34;(refine (CD2.out w3 vc3 lx3 HF3.out).mono ?_);rintro e4 w4 hq4;obtain ⟨v4,l4,vc4,lx4,rfl,F4,hm4,Ev4,K4,hM4,-⟩:=hq4;obtain ⟨pa,pc,rfl,_⟩:=own_reads Ev4.own;have Ev3':=HE3.out.kp K4 lr hM4;have hl4:l4.length<=1:=(by have:=Kq List.length Ev4.eq;simp at this;omega);have hb24:w2.heap.size<=w4.heap.size:=(by have:=K3.size;have:=K4.size;omega))
   | (refine app_full slEv w4 (by rfl) (.tmp 23) (.tmp 28) (by rfl) _ _ _ _ (by rfl) Ev3'.own HC3.out (cellsK evC l4) _ _ _ (by rfl) (cellsK_len evC_len l4) (ev_src Ev4.own) (one7 l4 Ev4.hs) (by omega) (by omega) hb24 ?_;intro v5 w5 o5 hb5 hv5)
   | fail)
  have F5:=F4.below hb5;have A4:=HA3.out.kp F4 K4 hM4 hV3;have A5:=A4.below hb5;have hvA:∀ g,v5.ownBlock=some g->(Value.slice oa l3.length oc).ownBlock=some g\/w4.heap.size<=g:=by
   intro g hg;rcases hv5 with ⟨rfl,_⟩ | ⟨g',cap,rfl,h4⟩
   ·exact .inl hg
   ·simp only [Value.ownBlock,Js] at hg;exact .inr (by omega)
  have EvA:=Ev3'.app Ev4 o5 hb5 F4.env.mlt hvA;have hmc:lx4.map (·.2)=o1.c:=hm4.trans HM3.out;have hbw:w.heap.size<=w2.heap.size:=HA2.out.k.size;obtain ⟨qa,qc,rfl,_⟩:=own_reads o5;have HA5:=Kb A5;have HEA:=Kb EvA;have HMC:=Kb hmc;have HO5:=Kb o5;have HV5:=Kb hv5;have HA4:=Kb A4;have HB5:=Kb hb5;have HE34:Hid (∀ r∈l3 ++ l4,Hs (Mu s0 jb cb vj vc4) w4 r.1 r.2.hs):=Kb (fun r hr=>(Kz.1 hr).elim (Ev3'.hs r) (Ev4.hs r));clear z_ y_ v_ f_ zl vl SQ VQ;clear r_ rl E3 A4 F4 F5 Ev4 Ev3' EvA hm4 hmc A5 o5 hv5 hvA HF3 HE3 HM3;have AQ:=HA5.out;obtain ⟨vhq,whq,SQ,_,_⟩:=AQ.f.cells;have z_:=SQ.o23;have y_:=SQ.of23;have zl:=SQ.lt;have VQ:=AQ.v;have v_:=VQ.o3;have f_:=VQ.of3;have vl:=VQ.lt;clear AQ;by_cases hd2:dS.ph=2
  ·have hd2b:(dS.ph == 2)=true:=by rw [hd2];rfl
   have HEO:Hid ((⟨{ dS with ph:=3 },o1.c,o1.ev ++ dE ++ [endV]⟩:Out)=o):=Kb (by rw [<-HR2.out];unfold restF;rw [Kf H2.out,HDS.out.1,HDS.out.2,Kf hd2]);clear hd2;go_upto_region 7 with fail;have A6:=HA5.out.set (S':={ dS with ph:=3 }) hsV 8 (.int .i64 3) (fun _ _=>rfl) rfl rfl;have Ev6:=HEA.out.kp ((Kp.refl w5.heap.size (Mu s0 jb cb vj vc4) w5).setCell ⟨s0,8,none⟩ (.inl (.inl rfl)) (.int .i64 3)) lr (fun _ _ e=>e);obtain ⟨w6,hw6⟩:∃ w6:World,w5.setCell ⟨s0,8,none⟩ (.int .i64 3)=w6:=⟨_,rfl⟩
   have hsz6:w6.heap.size=w5.heap.size:=by rw [<-hw6];simp
   rw [hw6] at A6 Ev6;rw [hw6];have HW6:=Kb hw6;clear z_ y_ v_ f_ zl vl SQ VQ;clear hw6;have hvN:(∃ a n',Value.slice qa (l3.length+l4.length) qc = .slice a n' n')\/∀ g,(Value.slice qa (l3.length+l4.length) qc).ownBlock=some g->w4.heap.size<=g:=by
    rcases HV5.out with ⟨e,h0⟩ | ⟨g',cap,e,h4⟩
    ·obtain ⟨a,n',e2⟩:=HC3.out;exact .inl ⟨a,n',e.trans e2⟩
    ·refine .inr fun g hg=>?_;rw [e] at hg;simp only [Value.ownBlock,Js] at hg;omega
   have hsz45:w4.heap.size<=w5.heap.size:=HB5.out.size;have o6:w6.ownsRow w2.heap.size 48 7 (.slice qa (l3.length+l4.length) qc) (l3.length+l4.length) (cellsK evC (l3 ++ l4)):=own_eq Ev6.own (by rw [Kw]) rfl;clear Ev6
   go_wp2_with (first
    | (refine app_new slEv w6 (by rfl) (.tmp 38) (.tmp 40) (by rfl) _ _ _ _ (by rfl) o6 w4.heap.size (by omega) hvN (evC (.slice none 0 0,endV)) 1 _ (by rfl) (by first | rfl | exact hsz6.symm) rfl (fun u hu=>by simp only [Ji,Zo,or_false] at hu;rcases hu with rfl | rfl | rfl | rfl | rfl | rfl | rfl <;> rfl) (by decide) (by omega) (by omega) (by omega) ?_;intro v7 w7 o7 hb7 hv7;obtain ⟨ra,rc,rfl,_⟩:=own_reads o7)
    | fail)
   go_ret;rw [<-HEO.out];have K47:Kp w4.heap.size (Mu s0 jb cb vj vc4) w4 w7:=((HW6.out ▸ (Kp.of_below (M:=Mu s0 jb cb vj vc4) HB5.out lr).setCell ⟨s0,8,none⟩ (.inl (.inl rfl)) (.int .i64 3)):Kp w4.heap.size (Mu s0 jb cb vj vc4) w4 w6).below hb7 lr;have KB:BelowBut w4.heap.size s0 w4 w7:=((HW6.out ▸ (⟨HB5.out.os,HB5.out.tape,HB5.out.output,HB5.out.size,fun i hi _=>HB5.out.block i hi⟩:BelowBut w4.heap.size s0 w4 w5).setCell ⟨s0,8,none⟩ (.inl rfl) (.int .i64 3)):BelowBut w4.heap.size s0 w4 w6).below hb7 lr;have F7:FIn w7 s0 jb cb B vj J nx vc4 lx4 { dS with ph:=3 }:=HA4.out.f.but KB (fun vh wh h=>by
    have h6:AtL w6 s0 (fsV { dS with ph:=3 } vh wh):=by rw [<-HW6.out];exact (h.next HB5.out).set 8 (.int .i64 3)
    exact h6.kp (Kp.of_below (M:=fun _=>False) hb7 lr) HA4.out.f.env.ls id) rfl rfl
   exact ⟨_,(l3 ++ l4) ++ [(.slice none 0 0,endV)],vc4,lx4,rfl,F7,HMC.out,⟨by rw [Zi,HEA.out.eq];rfl,own_mono (own_eq o7 (by simp only [Kw,Xo]) (by rw [cellsK_app];simp [cellsK])) hbw,fun g hg e=>by
    rcases hv7 g hg with h3 | h3
    ·exact HEA.out.far g h3 e
    ·have:=HA4.out.f.env.mlt g e;omega,fun r hr=>by
    rcases Kz.1 hr with h3 | h3
    ·exact (HE34.out r h3).same K47 lr
    ·obtain rfl:=Jc.1 h3;exact Hs.nil _ _⟩,HA4.out.k.trans K47 HA4.out.k.size HA4.out.m,HA4.out.m,fun h=>h.elim (fun h=>absurd h (by show (3:Int)≠1;decide)) (fun h=>absurd h (by show (3:Int)≠2;decide))⟩
  ·have hd2b:(dS.ph == 2)=false:=Ki.2 hd2;have HEO:Hid ((⟨dS,o1.c,o1.ev ++ dE⟩:Out)=o):=Kb (by rw [<-HR2.out];unfold restF;rw [Kf H2.out,HDS.out.1,HDS.out.2,Ke hd2]);go_wp2_with fail;go_ret;rw [<-HEO.out];exact ⟨_,_,_,_,rfl,HA5.out.f,HMC.out,⟨HEA.out.eq,own_mono HEA.out.own hbw,HEA.out.far,HEA.out.hs⟩,HA5.out.k,HA5.out.m,fun h=>h.elim (fun h=>absurd h H41.out) (fun h=>absurd h hd2)⟩
 ·have h2b:(o1.s.ph == 2)=false:=Ki.2 h2;have HEO:Hid (o1=o):=Kb (by rw [<-HR.out];unfold restF;rw [Ke h2]);clear h2 hcap3;go_wp2_with fail;go_ret;rw [<-HEO.out];exact HQ3.out
theorem FIn.local [Prot]{w wx w':World}{s0 jb cb B:Nat}{vj:Value}{J:List Ck}{nx:Int}{vc vc1:Value}{lx lx1:List Ee}{S:FSt}{vq vh:Value}(E0:EnvIn w s0 jb cb B vj vc J nx lx)(hq0:SlK hdC 2 w vq S.qh)(hh0:SlK hdC 2 w vh S.hs)(hw:w.heap.size<=wx.heap.size)
 (F:FIn wx s0 jb cb B vj J nx vc1 lx1 S) (s:AtL wx s0 (fsV S vq vh)) (sub:∀ y∈lx1,y∈lx) (k:Kp wx.heap.size (fun b=>w.heap.size<=b/\¬ Mu s0 jb cb vj vc1 b) wx w'):FIn w' s0 jb cb B vj J nx vc1 lx1 S/\AtL w' s0 (fsV S vq vh):=by
 have hN:∀ (hs:List Hd) (u:Value),SlK hdC 2 w u hs->FarM (fun b=>w.heap.size<=b/\¬ Mu s0 jb cb vj vc1 b) hs u:=fun hs u h h0 b off n c e hm=>by have:=slk_lt h h0 e;exact absurd hm.1 (by omega)
 have E:=F.env;have hlow:∀ p:Addr,p.block<w.heap.size->w'.cell? p=wx.cell? p:=fun p hp=>World.cell?_of_block (k.block p.block (by omega) (fun e=>by have:=e.1;omega));obtain ⟨va,vk,wa,wk,S1,hq1,hh1⟩:=F.st;have e5:Value.slice va S.qh.length vk=vq:=Zl ((S1.c 5 rfl).symm.trans (s.c 5 rfl));have e20:Value.slice wa S.hs.length wk=vh:=Zl ((S1.c 20 rfl).symm.trans (s.c 20 rfl));subst e5 e20;have s':=s.kp k E.ls (fun e=>e.2 E.ms);refine ⟨⟨⟨?_,E.gm,E.bs,E.bj,E.bc,Ko E.ls k.size,E.sj,E.sc,E.jc,?_,?_,E.js,E.jcb,E.cs,E.cj,E.jr,E.far,fun b hb=>Ko (E.px b hb) k.size⟩,va,vk,wa,wk,s',⟨slk_kp hq1.1 (hN _ _ hq0) k lr,hq1.2⟩,⟨slk_kp hh1.1 (hN _ _ hh0) k lr,hh1.2⟩⟩,s'⟩
 ·obtain ⟨m,hm⟩:=E.mx;exact ⟨m,(hlow ⟨0,0,none⟩ (by have:=E0.gm;have:=E0.bl;show 0<w.heap.size;omega)).trans hm⟩
 ·exact ⟨E.jar.at_.kp k E.lj (fun e=>e.2 (.inr (.inl rfl))),own_kp E.jar.own k lr (fun g hg e=>e.2 (.inr (.inr (.inr (.inl hg))))),E.jar.ne,Kg E.jar.le k.size⟩
 ·refine ⟨E.ca.at_.kp k E.lc (fun e=>e.2 (.inr (.inr (.inl rfl)))),own_kp E.ca.own k lr (fun g hg e=>e.2 (.inr (.inr (.inr (.inr hg))))),E.ca.ne,Kg E.ca.le k.size,fun x hx=>?_,E.ca.far⟩;have hr:=E.ca.rd x hx;have h0:=E0.ca.rd x (sub x hx);exact ⟨hr.u,hr.st,hr.bo,hr.ti,slk_kp hr.va (hN _ _ h0.va) k lr,slk_kp hr.hd (hN _ _ h0.hd) k lr⟩
structure SnA [Prot](w:World)(s0 jb cb B:Nat)(vj:Value)(J:List Ck)(nx:Int)(vc:Value)(lx:List Ee)(vq vh:Value)(base V:Nat)(now:Int)(S:FSt)(C:List En)(v:Value)(L:List Hd)(vc1:Value)(lx1:List Ee)(wx:World):Prop where
 a:RedA w s0 jb cb B vj J nx vc S C V now vc1 lx1 wx
 e:EnvIn w s0 jb cb B vj vc J nx lx
 q:SlK hdC 2 w vq S.qh
 h:SlK hdC 2 w vh S.hs
 s:AtL wx s0 (fsV S vq vh)
 sub:∀ y∈lx1,y∈lx
 row:wx.ownsRow base 70 2 v L.length (cellsK hdC L)
 far:∀ g,v.ownBlock=some g->¬ Mu s0 jb cb vj vc1 g
 vb:V<base
 vw:w.heap.size<=V
 vm:¬ Mu s0 jb cb vj vc1 V
section
variable {w wx w' : World} {s0 jb cb B : Nat} {vj : Value} {J : List Ck} {nx : Int} {vc : Value} {lx : List Ee} {vq vh : Value} {base V : Nat} {now : Int} {S S' : FSt} {C : List En} {v : Value} {L : List Hd} {vc1 : Value} {lx1 : List Ee}
theorem SnA.bw [Prot](h:SnA w s0 jb cb B vj J nx vc lx vq vh base V now S C v L vc1 lx1 wx):w.heap.size<=base:=Kl (Nat.lt_of_le_of_lt h.vw h.vb)
theorem SnA.below [Prot](h:SnA w s0 jb cb B vj J nx vc lx vq vh base V now S C v L vc1 lx1 wx)(hb:Below wx.heap.size wx w'):SnA w s0 jb cb B vj J nx vc lx vq vh base V now S C v L vc1 lx1 w':=
 ⟨h.a.below hb,h.e,h.q,h.h,h.s.next hb,h.sub,own_below h.row hb lr,h.far,h.vb,h.vw,h.vm⟩
theorem SnA.set [Prot](h:SnA w s0 jb cb B vj J nx vc lx vq vh base V now S C v L vc1 lx1 wx)(i:Nat)(x:Value)(e:∀ vh wh,(fsV S vh wh).set i x=fsV S' vh wh)(e1:S'.qh=S.qh)(e2:S'.hs=S.hs):SnA w s0 jb cb B vj J nx vc lx vq vh base V now S' C v L vc1 lx1 (wx.setCell ⟨s0,i,none⟩ x):=
 ⟨h.a.set (by have:=h.e.ls;have:=h.vw;omega) i x e e1 e2,h.e,by rw [e1];exact h.q,by rw [e2];exact h.h,by have:=h.s.set i x;rw [e] at this;exact this,h.sub,ownsRow_setCell_other (a:=⟨s0,i,none⟩) h.row (fun e=>h.far _ e (.inl rfl)) x,h.far,h.vb,h.vw,h.vm⟩
theorem SnA.grow [Prot](h:SnA w s0 jb cb B vj J nx vc lx vq vh base V now S C v L vc1 lx1 wx){v':Value}{L':List Hd}(ho:w'.ownsRow base 70 2 v' L'.length (cellsK hdC L'))(g:wx.grownBy w' v.ownBlock)(hf:∀ b,v'.ownBlock=some b->v.ownBlock=some b\/wx.heap.size<=b):SnA w s0 jb cb B vj J nx vc lx vq vh base V now S C v' L' vc1 lx1 w':=by
 have hk:Kp wx.heap.size (fun b=>w.heap.size<=b/\¬ Mu s0 jb cb vj vc1 b) wx w':=⟨g.os,g.tape,g.output,g.size,fun i hi hm=>g.block i hi (fun e=>hm ⟨Kg h.bw (own_base h.row e.symm),h.far i e.symm⟩)⟩
 obtain ⟨F',s'⟩:=FIn.local h.e h.q h.h h.a.k.size h.a.f h.s h.sub hk;refine ⟨⟨F',h.a.c,h.a.k.trans hk h.a.k.size (fun b hb e=>absurd e.1 (by omega)),h.a.m,?_⟩,h.e,h.q,h.h,s',h.sub,ho,fun b hb e=>?_,h.vb,h.vw,h.vm⟩
 ·have hV:=h.a.v;have hne:some V≠v.ownBlock:=fun e=>by have:=own_base h.row e.symm;have:=h.vb;omega
  exact ⟨Ko hV.1 g.size,fun j x hx=>⟨(World.cell?_of_block (w:=wx) (g.block V hV.1 hne)).trans (hV.c j hx),(World.frozen?_of_block (w:=wx) (g.block V hV.1 hne)).trans (hV.f j hx)⟩⟩
 ·rcases hf b hb with h1 | h1
  ·exact h.far b h1 e
  ·have:=h.a.f.env.mlt b e;omega
theorem SnA.ask [Prot](h:SnA w s0 jb cb B vj J nx vc lx vq vh base V now S C v L vc1 lx1 wx){l':List Ee}{C':List En}(k:CaTo wx cb B vc1 l' w')(hm:∀ y∈l',y∈lx1)(hc:l'.map (·.2)=C'):∃ vc2,SnA w s0 jb cb B vj J nx vc lx vq vh base V now S C' v L vc2 l' w'/\∀ b,b<wx.heap.size->Mu s0 jb cb vj vc2 b->Mu s0 jb cb vj vc1 b:=by
 obtain ⟨a,c,E,hM,K⟩:=h.a.f.env.caTo k (fun y hy=>.inl (hm y hy));have hr:=k.2;have hkp:Kp wx.heap.size (fun b=>b=cb\/vc1.ownBlock=some b) wx w':=⟨hr.os,hr.tape,hr.output,hr.size,fun i hi hne=>hr.block i hi (fun e=>hne (.inl e)) (fun e=>hne (.inr e))⟩
 have hns:¬ (fun b=>b=cb\/vc1.ownBlock=some b) s0:=by
  rintro (e | e)
  ·exact h.a.f.env.sc e
  ·exact h.a.f.env.cs e
 obtain ⟨va,vk,wa,wk,S0,hq,hh⟩:=h.a.f.st;exact ⟨.slice a l'.length c,⟨⟨⟨E,va,vk,wa,wk,S0.kp hkp S0.lt hns,hq.kp K lr hM,hh.kp K lr hM⟩,hc,h.a.k.trans K h.a.k.size h.a.m,fun b hb e=>h.a.m b hb (hM b (Ko hb h.a.k.size) e),h.a.v.kp K h.a.v.lt h.vm⟩,h.e,h.q,h.h,h.s.kp hkp h.s.lt hns,fun y hy=>h.sub y (hm y hy),own_kp h.row K lr h.far,fun g hg e=>h.far g hg (hM g (h.row.lt g hg).2 e),h.vb,h.vw,fun e=>h.vm (hM V h.a.v.lt e)⟩,hM⟩
end
theorem aske_open {w:World}{cb B:Nat}{v:Value}{l:List Ee}{p:Plan}{e:Ending}{w':World}(h:AskE w cb B v l p e w'):
 ∃ (u:ByteArray) (a1:Option Addr) (n1 k1:Nat) (a2:Option Addr) (n2 k2:Nat) (ti:Int) (ua:Option Addr) (uc:Nat) (l':List Ee),e = .returned (.agg #[.int .i64 p.k,.string u,.slice a1 n1 k1,.int .i64 p.e.st,.slice a2 n2 k2,.string p.e.bo,.int .i64 ti,.slice ua p.hs.length uc])/\SlK hdC 2 w' (.slice a2 n2 k2) p.e.hd/\SlK hdC 2 w' (.slice ua p.hs.length uc) p.hs/\CaTo w cb B v l' w'/\l'.map (·.2)=p.c/\(∀ y∈l',y∈l)/\(∀ b off n k,Value.slice a2 n2 k2 = .slice (some ⟨b,off,none⟩) n k->w.heap.size<=b)/\(∀ b off n k,Value.slice ua p.hs.length uc = .slice (some ⟨b,off,none⟩) n k->w.heap.size<=b):=by obtain ⟨u,a1,n1,k1,st,a2,n2,k2,bo,ti,ua,uc,l',rfl,hr,h3,h4,h5,h6,h7,h8⟩:=h;have e1:st=p.e.st:=hr.st;have e2:bo=p.e.bo:=hr.bo;subst e1 e2;exact ⟨u,a1,n1,k1,a2,n2,k2,ti,ua,uc,l',rfl,hr.hd,h3,h4,h5,h6,h7.2,h8⟩
def PlnE [Prot](w:World)(s0 jb cb B:Nat)(vj:Value)(J:List Ck)(nx:Int)(vc:Value)(lx:List Ee)(vq vh:Value)(base V:Nat)(now:Int)(S:FSt)(p:Plan)(v:Value)(L:List Hd)(c6:Value)(w':World):Prop:=
 ∃ (P:Nat) (u:ByteArray) (a1:Option Addr) (n1 k1:Nat) (a2:Option Addr) (n2 k2:Nat) (ti:Int) (ua:Option Addr) (uc:Nat) (vc2:Value) (l':List Ee),.pointer (some ⟨P,0,none⟩)=c6/\AtL w' P [.int .i64 p.k,.string u,.slice a1 n1 k1,.int .i64 p.e.st,.slice a2 n2 k2,.string p.e.bo,.int .i64 ti,.slice ua p.hs.length uc]/\SnA w s0 jb cb B vj J nx vc lx vq vh base V now S p.c v L vc2 l' w'/\SlK hdC 2 w' (.slice a2 n2 k2) p.e.hd/\FarM (fun b=>b=s0) p.e.hd (.slice a2 n2 k2)/\SlK hdC 2 w' (.slice ua p.hs.length uc) p.hs
section
variable {w w3 w4 w5 : World} {s0 jb cb B : Nat} {vj : Value} {J : List Ck} {nx : Int} {vc : Value} {lx : List Ee} {vq vh : Value} {base V : Nat} {now : Int} {S : FSt} {C : List En} {v : Value} {L : List Hd} {vc1 : Value} {lx1 l' : List Ee} {p : Plan} {a2 ua : Option Addr} {n2 k2 uc P : Nat}
theorem plne_ab [Prot](A3:SnA w s0 jb cb B vj J nx vc lx vq vh base V now S C v L vc1 lx1 w3)(h34:Below w3.heap.size w3 w4)(hP:w3.heap.size<=P)(A4:AtL w4 P pl0)(h2:SlK hdC 2 w5 (.slice a2 n2 k2) p.e.hd)(h3:SlK hdC 2 w5 (.slice ua p.hs.length uc) p.hs)(hto:CaTo w4 cb B vc1 l' w5)(hc:l'.map (·.2)=p.c)(hm:∀ y∈l',y∈lx1)(n2':∀ b off n k,Value.slice a2 n2 k2 = .slice (some ⟨b,off,none⟩) n k->w4.heap.size<=b)(n3:∀ b off n k,Value.slice ua p.hs.length uc = .slice (some ⟨b,off,none⟩) n k->w4.heap.size<=b)(u:ByteArray)(a1:Option Addr)(n1 k1:Nat)(ti:Int):
 PlnE w s0 jb cb B vj J nx vc lx vq vh base V now S p v L (.pointer (some ⟨P,0,none⟩)) (set8 w5 P (.int .i64 p.k) (.string u) (.slice a1 n1 k1) (.int .i64 p.e.st) (.slice a2 n2 k2) (.string p.e.bo) (.int .i64 ti) (.slice ua p.hs.length uc)):=by have hcb:=A3.a.f.env.lc;have hls:=A3.a.f.env.ls;have hPw:=A4.lt;have A5:=A4.row hto.2 A4.lt (by omega) (fun e=>by have:=A3.a.f.env.cl e;omega);obtain ⟨vc2,A6,_⟩:=A3.ask (cato_fin A3.a.f.env.ca h34 hto hm hP hPw (.int .i64 p.k) (.string u) (.slice a1 n1 k1) (.int .i64 p.e.st) (.slice a2 n2 k2) (.string p.e.bo) (.int .i64 ti) (.slice ua p.hs.length uc)) hm hc;exact ⟨P,u,a1,n1,k1,a2,n2,k2,ti,ua,uc,vc2,l',rfl,A5.set8 rfl _ _ _ _ _ _ _ _,A6,slk_set8 h2 (fun b off n c e=>by have:=n2' b off n c e;omega) _ _ _ _ _ _ _ _,fun _ b off n c e e2=>by have:=n2' b off n c e;have:=h34.size;omega,slk_set8 h3 (fun b off n c e=>by have:=n3 b off n c e;omega) _ _ _ _ _ _ _ _⟩
theorem plne_c [Prot](A3:SnA w s0 jb cb B vj J nx vc lx vq vh base V now S C v L vc1 lx1 w3)(h34:Below w3.heap.size w3 w4)(h2:SlK hdC 2 w5 (.slice a2 n2 k2) p.e.hd)(h3:SlK hdC 2 w5 (.slice ua p.hs.length uc) p.hs)(hto:CaTo w4 cb B vc1 l' w5)(hc:l'.map (·.2)=p.c)(hm:∀ y∈l',y∈lx1)(n2':∀ b off n k,Value.slice a2 n2 k2 = .slice (some ⟨b,off,none⟩) n k->w4.heap.size<=b)(u:ByteArray)(a1:Option Addr)(n1 k1:Nat)(ti:Int):
 PlnE w s0 jb cb B vj J nx vc lx vq vh base V now S p v L (.pointer (some ⟨w5.heap.size,0,none⟩)) (w5.alloc (.cells #[.int .i64 p.k,.string u,.slice a1 n1 k1,.int .i64 p.e.st,.slice a2 n2 k2,.string p.e.bo,.int .i64 ti,.slice ua p.hs.length uc] 178)):=by
 have hls:=A3.a.f.env.ls;have hal:=(Kc w5).alloc lr (.cells #[.int .i64 p.k,.string u,.slice a1 n1 k1,.int .i64 p.e.st,.slice a2 n2 k2,.string p.e.bo,.int .i64 ti,.slice ua p.hs.length uc] 178);obtain ⟨⟨v',h5,h6⟩,h7⟩:=hto
 have hto2:CaTo w3 cb B vc1 l' (w5.alloc (.cells #[.int .i64 p.k,.string u,.slice a1 n1 k1,.int .i64 p.e.st,.slice a2 n2 k2,.string p.e.bo,.int .i64 ti,.slice ua p.hs.length uc] 178)):=
  ⟨⟨v',h5.below hal lr,fun g e=>(h6 g e).imp id (fun h=>Kg h34.size h)⟩,(((RowBut.refl w3.heap.size cb vc1.ownBlock w3).below h34 lr).trans (h7.mono h34.size)).below hal (Kg h34.size h7.size)⟩
 obtain ⟨vc2,A6,_⟩:=A3.ask hto2 hm hc;exact ⟨_,u,a1,n1,k1,a2,n2,k2,ti,ua,uc,vc2,l',rfl,AtL.new w5 [.int .i64 p.k,.string u,.slice a1 n1 k1,.int .i64 p.e.st,.slice a2 n2 k2,.string p.e.bo,.int .i64 ti,.slice ua p.hs.length uc] 178,A6,h2.below hal lr,fun _ b off n c e e2=>by have:=n2' b off n c e;have:=h34.size;omega,h3.below hal lr⟩
end
def SndA [Prot](w:World)(s0 jb cb B:Nat)(vj:Value)(J:List Ck)(nx:Int)(vc:Value)(lx:List Ee)(vq vh:Value)(base V:Nat)(now:Int)(S:FSt)(o:Out)(c5:Value)(w':World):Prop:=
 ∃ (ha:Option Addr) (hk:Nat) (more:List Hd) (ch:Bool) (C':List En) (vc2:Value) (l':List Ee),.slice ha (hdF S ++ more).length hk=c5/\SnA w s0 jb cb B vj J nx vc lx vq vh base V now { S with ch:=ch } C' (.slice ha (hdF S ++ more).length hk) (hdF S ++ more) vc2 l' w'/\askO J now S C' more ch=o/\more.length<=1000
def SndB [Prot](w:World)(s0 jb cb B:Nat)(vj:Value)(J:List Ck)(nx:Int)(vc:Value)(lx:List Ee)(vq vh:Value)(base V:Nat)(now:Int)(S:FSt)(C':List En)(L:List Hd)(vc2:Value)(l':List Ee)(c5:Value)(w':World):Prop:=
 ∃ (ha:Option Addr) (hk:Nat),.slice ha L.length hk=c5/\SnA w s0 jb cb B vj J nx vc lx vq vh base V now S C' (.slice ha L.length hk) L vc2 l' w'
def EvE (w0:World)(ev:List Value)(c8:Value)(w':World):Prop:=∃ K:Nat,.pointer (some ⟨K,0,none⟩)=c8/\AtL w' K ev/\w0.heap.size<=K/\Below w0.heap.size w0 w'
theorem s7_at {W:World}{s:Nat}{S:FSt}{vh wh:Value}(h:AtL W s (fsV S vh wh)):W.cell? ⟨s,9,none⟩=some (.string S.a)/\W.cell? ⟨s,10,none⟩=some (.string S.b)/\W.cell? ⟨s,11,none⟩=some (.string S.c)/\W.cell? ⟨s,12,none⟩=some (.string S.d)/\W.cell? ⟨s,13,none⟩=some (.string S.e)/\W.cell? ⟨s,14,none⟩=some (.string S.f):=⟨h.c 9 rfl,h.c 10 rfl,h.c 11 rfl,h.c 12 rfl,h.c 13 rfl,h.c 14 rfl⟩
end Go.Proofs.YtjdhaacmlpegoaaGreatDoor
