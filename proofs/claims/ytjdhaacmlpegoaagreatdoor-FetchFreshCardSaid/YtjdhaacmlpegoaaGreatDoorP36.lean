/- Part 36 of what the proof needs: XO. -/
import Derived.Test.YtjdhaacmlpegoaaGreatDoorP35
import Derived.Test.YtjdhaacmlpegoaaGreatDoorP01
namespace Go.Proofs.YtjdhaacmlpegoaaGreatDoor
open Go.RowKit
set_option linter.unusedSimpArgs false
set_option linter.unusedVariables false
theorem run_app_full {P:Program}{T E size bytes:Nat}(ty:SlTy P T E size bytes)(w:World)(b:Nat)(v:Value)(n:Nat)(xs:List Value)(hown:w.ownsRow b E size v n xs)(hcap:∃ a n',v = .slice a n' n')(A:Option Addr)(m c:Nat)(news:List Value)
 (hl:news.length=m * size) (hc:(A=none/\m=0)\/∃ ad,A=some ad/\∀ j u,news[j]? = some u->w.cell? (ad.add j)=some u) (h1:∀ u∈news,u.oneCell'=true) (hb:(n+m) * bytes<=140737488355328) (hn:n+m<=140737488355328) (hB:b<=w.heap.size) (t:TypeId) :
 ∃ v' w',(Builtin.append_ #[T,T] t #[v,.slice A m c]).run P w = .ok v' w'/\w'.ownsRow b E size v' (n+m) (xs ++ news)/\Below w.heap.size w w'/\((v'=v/\m=0)\/∃ g cap,v' = .slice (some ⟨g,0,none⟩) (n+m) cap/\w.heap.size<=g):=by
 obtain ⟨hu,⟨i,z,hi,hz,h2,h3,h4⟩,hp⟩:=ty
 obtain ⟨a,n',rfl⟩:=hcap
 rcases hc with ⟨rfl,rfl⟩ | ⟨ad,rfl,hc⟩
 ·obtain rfl:news=[]:=List.eq_nil_of_length_eq_zero (by simpa using hl)
  exact ⟨_,w,run_append_none (P:=P) (w:=w) b T t E i size hu hi _ n xs hown c,by simpa using hown,Below.refl _ _,.inl ⟨rfl,rfl⟩⟩
 ·subst h2 h3
  rcases Nat.eq_zero_or_pos m with rfl | hm
  ·obtain rfl:news=[]:=List.eq_nil_of_length_eq_zero (by simpa using hl)
   refine ⟨_,w,?_,by simpa using hown,Below.refl _ _,.inl ⟨rfl,rfl⟩⟩
   have hf:=run_firstCells_some (P:=P) w i.size 0 ad 0 c [] (by simp) (fun j u hu=>by simp at hu)
   rcases hown.2 with ⟨e,rfl⟩ | ⟨g,cap,cur,e,_,_,hnc,_⟩
   ·injection e with e1 e2 e3
    subst e1 e2
    simp [Builtin.append_,run_underlying hu,sizeOf,typeInfo,hi,Builtin.lenOf,hf]
   ·injection e with e1 e2 e3
    subst e1 e2
    simp [Builtin.append_,run_underlying hu,sizeOf,typeInfo,hi,Builtin.lenOf,hf,hnc,storeCells]
  ·rcases hown.2 with ⟨e,rfl⟩ | ⟨g,cap,cur,e,hbg,hg,hnc,hcm,hcs,htake⟩
   ·injection e with e1 e2 e3
    subst e1 e2
    have hq:=run_append_nil (P:=P) w T t E i z hu hi hz ad m c news hl hc hm (by omega) (by simp only [Nat.zero_add] at hb;omega)
    obtain ⟨v',w',hr,k2,k3,_⟩:=run_append_own (P:=P) w b T t E i z i.size i.bytes hu hi hz rfl rfl h4 hp _ 0 xs hown ad m c news hl hc h1 (by unfold maxLen;omega) hb hB
    rw [hq] at hr
    injection hr with e5 e6
    subst e5 e6
    exact ⟨_,_,hq,k2,((Below.refl _ w).drew).alloc lr _,.inr ⟨_,_,by rw [Nat.zero_add],lr⟩⟩
   ·injection e with e1 e2 e3
    subst e1 e2
    subst e3
    have hq:=run_append_grow (P:=P) w T t E i z hu hi hz ⟨g,0,none⟩ n' n' xs hown.1 (hown.cells (g:=g) rfl) ad m c news hl hc (by omega) (by omega) (growslice_fits (by omega) hb)
    obtain ⟨v',w',hr,k2,k3,_⟩:=run_append_own (P:=P) w b T t E i z i.size i.bytes hu hi hz rfl rfl h4 hp _ n' xs hown ad m c news hl hc h1 (by unfold maxLen;omega) hb hB
    rw [hq] at hr
    injection hr with e5 e6
    subst e5 e6
    exact ⟨_,_,hq,k2,((Below.refl _ w).drew).alloc lr _,.inr ⟨_,_,rfl,lr⟩⟩
theorem app_full {P:Program}{T E size bytes:Nat}(ty:SlTy P T E size bytes)(W:World){ops:Array Oper}{rest:List Oper}{o:Oper}{a:Act}{Q:Exit->Act->World->Prop}
 (hgd:o.guard=none) (s x:Operand) (ho:o.op = .call { callee:=.builtin .append,args:=#[s,x],argTypes:=#[T,T] })
 (B:Nat) (v:Value) (n:Nat) (xs:List Value) (hs:a.eval s=v) (hown:W.ownsRow B E size v n xs) (hcap:∃ a n',v = .slice a n' n') (news:List Value) (A:Option Addr) (m c:Nat)
 (hx:a.eval x = .slice A m c) (hl:news.length=m * size) (hc:(A=none/\m=0)\/∃ ad,A=some ad/\∀ j u,news[j]? = some u->W.cell? (ad.add j)=some u) (h1:∀ u∈news,u.oneCell'=true)
 (hb:(n+m) * bytes<=140737488355328) (hn:n+m<=140737488355328) (hB:B<=W.heap.size)
 (h:∀ v' w',w'.ownsRow B E size v' (n+m) (xs ++ news)->Below W.heap.size W w'->((v'=v/\m=0)\/∃ g cap,v' = .slice (some ⟨g,0,none⟩) (n+m) cap/\W.heap.size<=g)->wpList P ops Q rest (a.put o.dst v') w') :
 wpList P ops Q (o :: rest) a W:=by
 refine wpList_plain hgd fun K hK=>?_
 obtain ⟨v',w',hr,k2,k3,k4⟩:=run_app_full ty W B v n xs hown hcap A m c news hl hc h1 hb hn hB o.type
 unfold Oper.wp execOp
 simp only [ho,resolve,invoke,builtin,Sem.run_bind,Sem.run_pure,Result.andThen_ok,List.map_toArray,List.map_cons,List.map_nil,hs,hx,hr]
 exact hK _ _ (h v' w' k2 k3 k4)
theorem app_new {P:Program}{T E size bytes:Nat}(ty:SlTy P T E size bytes)(W0:World){ops:Array Oper}{rest:List Oper}{o:Oper}{a:Act}{Q:Exit->Act->World->Prop}
 (hgd:o.guard=none) (s x:Operand) (ho:o.op = .call { callee:=.builtin .append,args:=#[s,x],argTypes:=#[T,T] })
 (B:Nat) (v:Value) (n:Nat) (xs:List Value) (hs:a.eval s=v) (hown:W0.ownsRow B E size v n xs) (N:Nat) (hN:N<=W0.heap.size) (hv:(∃ a n',v = .slice a n' n')\/∀ g,v.ownBlock=some g->N<=g) (news:List Value) (m:Nat)
 (kk:Nat) (hx:a.eval x = .slice (some ⟨kk,0,none⟩) m m) (hkk:kk=W0.heap.size) (hl:news.length=m * size) (h1:∀ u∈news,u.oneCell'=true)
 (hm:0<m) (hb:(n+m) * bytes<=140737488355328) (hn:n+m<=140737488355328) (hB:B<=W0.heap.size)
 (h:∀ v' w',w'.ownsRow B E size v' (n+m) (xs ++ news)->Below N W0 w'->(∀ g,v'.ownBlock=some g->v.ownBlock=some g\/N<=g)->wpList P ops Q rest (a.put o.dst v') w') :
 wpList P ops Q (o :: rest) a (W0.alloc (.cells news.toArray E)):=by
 subst hkk
 refine wpList_plain hgd fun K hK=>?_
 have hal:=(Below.refl W0.heap.size W0).alloc lr (.cells news.toArray E)
 rcases hv with hv | hv
 ·obtain ⟨v',w',hr,k2,k3,k4⟩:=run_app_full ty (W0.alloc (.cells news.toArray E)) B v n xs (hown.alloc _) hv (some ⟨W0.heap.size,0,none⟩) m m news hl (.inr ⟨_,rfl,cells_new W0 news E⟩) h1 hb hn (by simp;omega) o.type
  unfold Oper.wp execOp
  simp only [ho,resolve,invoke,builtin,Sem.run_bind,Sem.run_pure,Result.andThen_ok,List.map_toArray,List.map_cons,List.map_nil,hs,hx,hr]
  refine hK _ _ (h v' w' k2 ((hal.mono hN).trans (k3.mono (by simp;omega))) fun g hg=>?_)
  rcases k4 with ⟨rfl,_⟩ | ⟨g',cap,rfl,h4⟩
  ·exact .inl hg
  ·simp only [Value.ownBlock,Option.some.injEq] at hg
   simp at h4
   exact .inr (by omega)
 ·obtain ⟨hu,⟨i,z,hi,hz,h2,h3,h4⟩,hp⟩:=ty
  obtain ⟨v',w',hr,k2,k3,g,k4,k5⟩:=run_append_where (P:=P) (W0.alloc (.cells news.toArray E)) B T o.type E i z size bytes hu hi hz h2 h3 h4 hp v n xs (hown.alloc _) ⟨W0.heap.size,0,none⟩ m m news hl (cells_new W0 news E) h1
   (by unfold maxLen;omega) hb (by simp;omega) hm
  unfold Oper.wp execOp
  simp only [ho,resolve,invoke,builtin,Sem.run_bind,Sem.run_pure,Result.andThen_ok,List.map_toArray,List.map_cons,List.map_nil,hs,hx,hr]
  refine hK _ _ (h v' w' k2 ?_ fun g' hg=>?_)
  ·exact (hal.mono hN).grown k3 (by simp;omega) fun k hk=>by
    have:=hv k hk
    omega
  ·rw [k4] at hg
   injection hg with hg
   subst hg
   rcases k5 with k5 | k5
   ·exact .inl k5
   ·simp at k5;exact .inr (by omega)
theorem slEv:SlTy Tryz.prog 41 48 7 96:=.mk' (z:=.agg #[.int .i64 0,.string ⟨#[]⟩,.string ⟨#[]⟩,.slice none 0 0,.string ⟨#[]⟩,.int .i64 0,.int .i64 0]) Tryz.underlying41 (by kernel_rfl) rfl (by decide)
structure EvOk (o:Out):Prop where
 one:o.s.ph=2->o.ev.length<=1
 all:o.ev.length<=3
theorem data_ev (p:ByteArray)(S:FS):(dataF p S).2.length<=1:=by
 unfold dataF
 split
 ·split
  ·exact lr
  ·split <;> simp
 ·simp
theorem failO_ev (S:FS)(C:List En)(e:Int):EvOk (failO S C e):=⟨fun _=>lr,by show 1<=3;decide⟩
theorem takeF_ev {snd:FS->List En->Out}(hs:∀ S C,EvOk (snd S C))(net:Bool)(now st:Int)(hd:List Hd)(S:FS)(C:List En):EvOk (takeF snd net now st hd S C):=by
 have hr:∀ C,EvOk (redirF snd st (valL hd loN.data.toList) S C):=fun C=>by
  unfold redirF
  split
  ·exact failO_ev _ _ _
  ·split
   ·exact failO_ev _ _ _
   ·split
    ·exact failO_ev _ _ _
    ·split
     ·exact failO_ev _ _ _
     ·exact hs _ _
 unfold takeF
 split
 ·split
  ·exact failO_ev _ _ _
  ·exact hr _
 ·unfold headO
  split
  ·exact failO_ev _ _ _
  ·exact ⟨fun _=>lr,by show 1<=3;decide⟩
theorem restF_ev (p:ByteArray){o:Out}(h:EvOk o):EvOk (restF p o):=by
 have hd:=data_ev p o.s
 unfold restF
 split
 ·next h2=>
  have h1:=h.one h2
  split
  ·refine ⟨fun e=>absurd e (by show (3:Int)≠2;decide),?_⟩
   show (o.ev ++ (dataF p o.s).2 ++ [endV]).length<=3
   simp only [List.length_append,List.length_singleton];omega
  ·next hn=>exact ⟨fun e=>absurd e hn,by show (o.ev ++ (dataF p o.s).2).length<=3;rw [List.length_append];omega⟩
 ·exact h
theorem sendF_ev (J:List Ck)(now:Int):∀ (k:Nat) (S:FS) (C:List En),EvOk (sendF J now k S C)
 | 0,S,C=>⟨fun _=>Nat.zero_le _,Nat.zero_le _⟩
 | k + 1, S, C => by
   have ho:∀ C more ch,EvOk (askO J now S C more ch):=fun C more ch=>⟨fun _=>lr,by show 1<=3;decide⟩
   unfold sendF
   split
   ·simp only
    split
    ·exact restF_ev _ (takeF_ev (fun S C=>sendF_ev J now k S C) _ _ _ _ _ _)
    ·split
     ·exact ho _ _ _
     ·exact ho _ _ _
   ·exact ho _ _ _
theorem ev_src {w:World}{b n:Nat}{sa:Option Addr}{c:Nat}{xs:List Value}(h:w.ownsRow b 48 7 (.slice sa n c) n xs):(sa=none/\n=0)\/∃ ad,sa=some ad/\∀ j u,xs[j]? = some u->w.cell? (ad.add j)=some u:=by
 obtain ⟨a,cap,e,_,_,h2⟩:=own_reads h
 injection e with e1 e2 e3
 subst e1
 rcases h2 with h2 | ⟨g,rfl,_,_,h3⟩
 ·exact .inl h2
 ·refine .inr ⟨_,rfl,fun j u hu=>?_⟩
  rw [add_none]
  simpa using h3 j u hu
theorem one7 [Prot]{M:Nat->Prop}{w:World}(l:List (Value × Ev))(h:∀ r∈l,Hs M w r.1 r.2.hs):∀ u∈cellsK evC l,u.oneCell'=true:=by
 intro u hu
 unfold cellsK at hu
 obtain ⟨r,hr,h2⟩:=List.mem_flatMap.1 hu
 obtain ⟨a,c,e⟩:=(h r hr).shape
 simp only [evC,List.mem_cons,List.not_mem_nil,or_false] at h2
 rcases h2 with rfl | rfl | rfl | rfl | rfl | rfl | rfl
 ·rfl
 ·rfl
 ·rfl
 ·rw [e];rfl
 ·rfl
 ·rfl
 ·rfl
theorem Evs.app [Prot]{M:Nat->Prop}{b b2:Nat}{w w':World}{v v2 v':Value}{l l2:List (Value × Ev)}{ev ev2:List Ev}(h:Evs M b w v l ev)(h2:Evs M b2 w v2 l2 ev2)(ho:w'.ownsRow b 48 7 v' (l.length+l2.length) (cellsK evC l ++ cellsK evC l2))(k:Below w.heap.size w w')(hM:∀ b,M b->b<w.heap.size)(hv:∀ g,v'.ownBlock=some g->v.ownBlock=some g\/w.heap.size<=g):Evs M b w' v' (l ++ l2) (ev ++ ev2):=
 ⟨by rw [List.map_append,h.eq,h2.eq],own_eq ho (by rw [List.length_append]) (by rw [cellsK_app]),fun g hg e=>by
  rcases hv g hg with h3 | h3
  ·exact h.far g h3 e
  ·have:=hM g e;omega,fun r hr=>by
  rcases List.mem_append.1 hr with h3 | h3
  ·exact (h.hs r h3).below k
  ·exact (h2.hs r h3).below k⟩
theorem FIn.but [Prot]{w w':World}{s0 jb cb B:Nat}{vj:Value}{J:List Ck}{nx:Int}{vc:Value}{lx:List Ee}{S S':FS}(h:FIn w s0 jb cb B vj J nx vc lx S)(k:BelowBut w.heap.size s0 w w')(hs:∀ vh wh,AtL w s0 (fsV S vh wh)->AtL w' s0 (fsV S' vh wh))(e1:S'.qh=S.qh)(e2:S'.hs=S.hs):FIn w' s0 jb cb B vj J nx vc lx S':=by
 obtain ⟨E,va,vk,wa,wk,S0,hq,hh⟩:=h
 have K:Kp w.heap.size (Mu s0 jb cb vj vc) w w':=⟨k.os,k.tape,k.output,k.size,fun i hi hm=>k.block i hi (fun e=>hm (.inl e))⟩
 refine ⟨E.but k,va,vk,wa,wk,?_,?_,?_⟩
 ·rw [e1,e2];exact hs _ _ S0
 ·rw [e1];exact hq.same K lr
 ·rw [e2];exact hh.same K lr
end Go.Proofs.YtjdhaacmlpegoaaGreatDoor
