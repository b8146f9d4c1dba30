/- Part 30 of what the proof needs: XB XE. -/
import Derived.Test.YtjdhaacmlpegoaaGreatDoorP28
import Derived.Test.YtjdhaacmlpegoaaGreatDoorP16
import Derived.Test.YtjdhaacmlpegoaaGreatDoorP15
import Derived.Test.YtjdhaacmlpegoaaGreatDoorP01
import Derived.Test.YtjdhaacmlpegoaaGreatDoorP11
import Derived.Deep.LoopGhost
set_option maxRecDepth 20000
set_option maxHeartbeats 16000000
namespace Go.Proofs.YtjdhaacmlpegoaaGreatDoor
open Go.RowKit
set_option linter.unusedSimpArgs false
set_option linter.unusedVariables false
class Prot where
 x:Nat->Prop
def Mu (s0 jb cb:Nat)(vj vc:Value)(b:Nat):Prop:=b=s0\/b=jb\/b=cb\/vj.ownBlock=some b\/vc.ownBlock=some b
structure Kp (n:Nat)(M:Nat->Prop)(w w':World):Prop where
 os:w'.os=w.os
 tape:w'.tape=w.tape
 output:w'.output=w.output
 size:w.heap.size<=w'.heap.size
 block:∀ k,k<n->¬ M k->w'.heap[k]? = w.heap[k]?
theorem Kp.refl (n:Nat)(M:Nat->Prop)(w:World):Kp n M w w:=⟨rfl,rfl,rfl,lr,fun _ _ _=>rfl⟩
theorem Kp.trans {n m:Nat}{M M':Nat->Prop}{w w1 w2:World}(h:Kp n M w w1)(k:Kp m M' w1 w2)(hn:n<=m)(hM:∀ b,b<n->M' b->M b):Kp n M w w2:=
 ⟨k.os.trans h.os,k.tape.trans h.tape,k.output.trans h.output,Nat.le_trans h.size k.size,fun i hi hm=>(k.block i (by omega) (fun e=>hm (hM i hi e))).trans (h.block i hi hm)⟩
theorem Kp.of_below {n B:Nat}{M:Nat->Prop}{w w':World}(h:Below B w w')(hn:n<=B):Kp n M w w':=⟨h.os,h.tape,h.output,h.size,fun k hk _=>h.block k (by omega)⟩
theorem Kp.below {n B:Nat}{M:Nat->Prop}{w w1 w2:World}(h:Kp n M w w1)(k:Below B w1 w2)(hn:n<=B):Kp n M w w2:=h.trans (Kp.of_below (M:=M) k hn) lr (fun _ _ e=>e)
theorem Kp.setCell {n:Nat}{M:Nat->Prop}{w w':World}(h:Kp n M w w')(p:Addr)(hp:M p.block\/n<=p.block)(u:Value):Kp n M w (w'.setCell p u):=
 ⟨h.os,h.tape,h.output,by rw [World.size_setCell];exact h.size,fun k hk hm=>by
  have hne:k≠p.block:=by
   rcases hp with hp | hp
   ·exact fun e=>hm (e ▸ hp)
   ·omega
  exact (Below.heap_setCell w' p u k hne).trans (h.block k hk hm)⟩
theorem Kp.sets {n k:Nat}{M:Nat->Prop}{w:World}(hp:M k\/n<=k):∀ {W:World} {o:Nat} (vs:List Value),Kp n M w W->Kp n M w (W.setCells k o vs)
 | _,_,[],h=>h
 | _,_,_ :: vs,h=>Kp.sets hp vs (h.setCell ⟨k,_,none⟩ hp _)
theorem Kp.low {n B:Nat}{M:Nat->Prop}{w w':World}(h:Kp n M w w')(hn:B<=n)(hM:∀ b,M b->B<=b):Below B w w':=⟨h.os,h.tape,h.output,h.size,fun k hk=>h.block k (by omega) (fun e=>by have:=hM k e;omega)⟩
theorem Kp.cell {n:Nat}{M:Nat->Prop}{w w':World}(h:Kp n M w w'){b o:Nat}(hb:b<n)(hm:¬ M b):w'.cell? ⟨b,o,none⟩=w.cell? ⟨b,o,none⟩:=World.cell?_of_block (w:=w) (h.block b hb hm)
theorem AtL.kp {n k:Nat}{M:Nat->Prop}{w w':World}{vs:List Value}(hA:AtL w k vs)(h:Kp n M w w')(hk:k<n)(hm:¬ M k):AtL w' k vs:=
 ⟨Nat.lt_of_lt_of_le hA.1 h.size,fun j v hv=>⟨(World.cell?_of_block (w:=w) (h.block k hk hm)).trans (hA.c j hv),(World.frozen?_of_block (w:=w) (h.block k hk hm)).trans (hA.f j hv)⟩⟩
theorem own_kp {w w':World}{b n e s m:Nat}{M:Nat->Prop}{v:Value}{xs:List Value}(h:w.ownsRow b e s v m xs)(hb:Kp n M w w')(hB:w.heap.size<=n)(hm:∀ g,v.ownBlock=some g->¬ M g):w'.ownsRow b e s v m xs:=by
 refine ⟨h.1,?_⟩
 rcases h.2 with h2 | ⟨g,cap,cur,hv,hg,hh,r⟩
 ·exact .inl h2
 ·exact .inr ⟨g,cap,cur,hv,hg,by rw [hb.block g (by have:=(Array.getElem?_eq_some_iff.1 hh).1;omega) (hm g (by rw [hv];rfl))];exact hh,r⟩
def FarM (M:Nat->Prop)(hs:List Hd)(u:Value):Prop:=hs≠[]->∀ b off n c,u = .slice (some ⟨b,off,none⟩) n c->¬ M b
def Px [Prot](M:Nat->Prop)(b:Nat):Prop:=M b\/Prot.x b
def Hs [Prot](M:Nat->Prop)(w:World)(u:Value)(hs:List Hd):Prop:=SlK hdC 2 w u hs/\FarM (Px M) hs u
theorem FarM.px [Prot]{M:Nat->Prop}{u:Value}{hs:List Hd}(h:FarM (Px M) hs u):FarM M hs u:=fun h0 b off n c e hm=>h h0 b off n c e (.inl hm)
theorem slk_lt {w:World}{u:Value}{hs:List Hd}(h:SlK hdC 2 w u hs)(h0:hs≠[]){b off n c:Nat}(e:u = .slice (some ⟨b,off,none⟩) n c):b<w.heap.size:=by
 rcases h with ⟨h1,_⟩ | ⟨_,b2,off2,cap,hv,_,_,h4,_⟩
 ·exact absurd h1 h0
 ·rw [hv] at e
  injection e with e1 _ _
  injection e1 with e1
  injection e1 with e1
  omega
theorem slk_kp {w w':World}{n:Nat}{M:Nat->Prop}{u:Value}{hs:List Hd}(h:SlK hdC 2 w u hs)(hf:FarM M hs u)(k:Kp n M w w')(hn:w.heap.size<=n):SlK hdC 2 w' u hs:=by
 rcases h with h | ⟨h0,b,off,cap,hv,e2,e3,h4,h5⟩
 ·exact .inl h
 ·exact .inr ⟨h0,b,off,cap,hv,e2,e3,Nat.lt_of_lt_of_le h4 k.size,fun i hi j u hu=>(k.cell (by omega) (hf h0 b off _ _ hv)).trans (h5 i hi j u hu)⟩
theorem FarM.to {w:World}{M M':Nat->Prop}{u:Value}{hs:List Hd}(hf:FarM M hs u)(h:SlK hdC 2 w u hs)(hM:∀ b,b<w.heap.size->M' b->M b):FarM M' hs u:=
 fun h0 b off n c e hm=>hf h0 b off n c e (hM b (slk_lt h h0 e) hm)
theorem Hs.kp [Prot]{w w':World}{n:Nat}{M M':Nat->Prop}{u:Value}{hs:List Hd}(h:Hs M w u hs)(k:Kp n M w w')(hn:w.heap.size<=n)(hM:∀ b,b<w.heap.size->M' b->M b):Hs M' w' u hs:=
 ⟨slk_kp h.1 h.2.px k hn,h.2.to h.1 fun b hb=>Or.imp (hM b hb) id⟩
def Hq (M:Nat->Prop)(w:World)(u:Value)(hs:List Hd):Prop:=SlK hdC 2 w u hs/\FarM M hs u
theorem Hq.same {w w':World}{n:Nat}{M:Nat->Prop}{u:Value}{hs:List Hd}(h:Hq M w u hs)(k:Kp n M w w')(hn:w.heap.size<=n):Hq M w' u hs:=⟨slk_kp h.1 h.2 k hn,h.2⟩
theorem Hq.below {w w':World}{M:Nat->Prop}{u:Value}{hs:List Hd}(h:Hq M w u hs)(k:Below w.heap.size w w'):Hq M w' u hs:=h.same (Kp.of_below (M:=M) k lr) lr
theorem Hs.same [Prot]{w w':World}{n:Nat}{M:Nat->Prop}{u:Value}{hs:List Hd}(h:Hs M w u hs)(k:Kp n M w w')(hn:w.heap.size<=n):Hs M w' u hs:=h.kp k hn fun _ _ e=>e
theorem Hs.below [Prot]{w w':World}{M:Nat->Prop}{u:Value}{hs:List Hd}(h:Hs M w u hs)(k:Below w.heap.size w w'):Hs M w' u hs:=h.same (Kp.of_below (M:=M) k lr) lr
theorem FarM.new {N:Nat}{M:Nat->Prop}{u:Value}{hs:List Hd}(hn:∀ b off n k,u = .slice (some ⟨b,off,none⟩) n k->N<=b)(hM:∀ b,M b->b<N):FarM M hs u:=
 fun _ b off n c e hm=>by have:=hn b off n c e;have:=hM b hm;omega
theorem FarM.newP [Prot]{N:Nat}{M:Nat->Prop}{u:Value}{hs:List Hd}(hn:∀ b off n k,u = .slice (some ⟨b,off,none⟩) n k->N<=b)(hM:∀ b,M b->b<N)(hX:∀ b,Prot.x b->b<N):FarM (Px M) hs u:=
 FarM.new hn fun b h=>h.elim (hM b) (hX b)
theorem Hs.nil [Prot](M:Nat->Prop)(w:World):Hs M w (.slice none 0 0) []:=⟨slk0 _,fun h=>absurd rfl h⟩
theorem Hs.shape [Prot]{w:World}{M:Nat->Prop}{u:Value}{hs:List Hd}(h:Hs M w u hs):∃ a c,u = .slice a hs.length c:=by
 obtain ⟨a,c,e,_⟩:=h.1.shape
 exact ⟨a,c,e⟩
abbrev envL (jb cb:Nat)(now:Int):List Value:=[.pointer (some ⟨jb,0,none⟩),.pointer (some ⟨cb,0,none⟩),.int .i64 now]
abbrev envA (jb cb:Nat)(now:Int):Value:=.agg #[.pointer (some ⟨jb,0,none⟩),.pointer (some ⟨cb,0,none⟩),.int .i64 now]
structure EnvIn [Prot](w:World)(s0 jb cb B:Nat)(vj vc:Value)(J:List Ck)(nx:Int)(lx:List Ee):Prop where
 mx:MaxAt w
 gm:0<B
 bs:B<=s0
 bj:B<=jb
 bc:B<=cb
 ls:s0<w.heap.size
 sj:s0≠jb
 sc:s0≠cb
 jc:jb≠cb
 jar:JarIn w jb B vj J nx
 ca:CaIn w cb B vc lx
 js:vj.ownBlock≠some s0
 jcb:vj.ownBlock≠some cb
 cs:vc.ownBlock≠some s0
 cj:vc.ownBlock≠some jb
 jr:∀ g,vj.ownBlock=some g->vc.ownBlock≠some g
 far:∀ x∈lx,FarM (Px (Mu s0 jb cb vj vc)) x.2.va x.1.vv/\FarM (Px (Mu s0 jb cb vj vc)) x.2.hd x.1.hv
 px:∀ b,Prot.x b->b<w.heap.size
section
variable [Prot] {w w' : World} {s0 jb cb B : Nat} {vj vc : Value} {J : List Ck} {nx : Int} {lx : List Ee}
theorem EnvIn.lj (h:EnvIn w s0 jb cb B vj vc J nx lx):jb<w.heap.size:=h.jar.at_.lt
theorem EnvIn.lc (h:EnvIn w s0 jb cb B vj vc J nx lx):cb<w.heap.size:=h.ca.at_.lt
theorem EnvIn.jl (h:EnvIn w s0 jb cb B vj vc J nx lx){g:Nat}(hg:vj.ownBlock=some g):g<w.heap.size:=(h.jar.own.lt g hg).2
theorem EnvIn.cl (h:EnvIn w s0 jb cb B vj vc J nx lx){g:Nat}(hg:vc.ownBlock=some g):g<w.heap.size:=(h.ca.own.lt g hg).2
theorem EnvIn.mlt (h:EnvIn w s0 jb cb B vj vc J nx lx):∀ b,Mu s0 jb cb vj vc b->b<w.heap.size:=by
 rintro b (rfl | rfl | rfl | e | e)
 ·exact h.ls
 ·exact h.lj
 ·exact h.lc
 ·exact h.jl e
 ·exact h.cl e
theorem EnvIn.mge (h:EnvIn w s0 jb cb B vj vc J nx lx):∀ b,Mu s0 jb cb vj vc b->B<=b:=by
 rintro b (rfl | rfl | rfl | e | e)
 ·exact h.bs
 ·exact h.bj
 ·exact h.bc
 ·exact own_base h.jar.own e
 ·exact own_base h.ca.own e
theorem EnvIn.bl (h:EnvIn w s0 jb cb B vj vc J nx lx):B<=w.heap.size:=Nat.le_of_lt (Nat.lt_of_le_of_lt h.bs h.ls)
theorem EnvIn.ms (h:EnvIn w s0 jb cb B vj vc J nx lx):Mu s0 jb cb vj vc s0:=Or.inl rfl
theorem EnvIn.but (h:EnvIn w s0 jb cb B vj vc J nx lx)(k:BelowBut w.heap.size s0 w w'):EnvIn w' s0 jb cb B vj vc J nx lx:=by
 have hkp:Kp w.heap.size (fun b=>b=s0) w w':=⟨k.os,k.tape,k.output,k.size,fun i hi hne=>k.block i hi hne⟩
 have hsub:∀ b,b=s0->Mu s0 jb cb vj vc b:=fun b e=>.inl e
 have hlow:Below B w w':=hkp.low h.bl (fun b e=>by subst e;exact h.bs)
 refine ⟨?_,h.gm,h.bs,h.bj,h.bc,Nat.lt_of_lt_of_le h.ls k.size,h.sj,h.sc,h.jc,?_,?_,h.js,h.jcb,h.cs,h.cj,h.jr,h.far,fun b hb=>Nat.lt_of_lt_of_le (h.px b hb) k.size⟩
 ·obtain ⟨m,hm⟩:=h.mx
  exact ⟨m,(hlow.cell (p:=⟨0,0,none⟩) h.gm).trans hm⟩
 ·exact ⟨h.jar.at_.kp hkp h.lj (fun e=>h.sj e.symm),own_kp h.jar.own hkp lr (fun g hg e=>h.js (by rw [hg,e])),h.jar.ne,Nat.le_trans h.jar.le k.size⟩
 ·refine ⟨h.ca.at_.kp hkp h.lc (fun e=>h.sc e.symm),own_kp h.ca.own hkp lr (fun g hg e=>h.cs (by rw [hg,e])),h.ca.ne,Nat.le_trans h.ca.le k.size,fun x hx=>?_,h.ca.far⟩
  have hr:=h.ca.rd x hx
  have hf:=h.far x hx
  exact ⟨hr.u,hr.st,hr.bo,hr.ti,slk_kp hr.va (fun h0 b off n c e hm=>hf.1 h0 b off n c e (.inl (hsub b hm))) hkp lr,slk_kp hr.hd (fun h0 b off n c e hm=>hf.2 h0 b off n c e (.inl (hsub b hm))) hkp lr⟩
theorem EnvIn.below (h:EnvIn w s0 jb cb B vj vc J nx lx)(k:Below w.heap.size w w'):EnvIn w' s0 jb cb B vj vc J nx lx:=h.but ⟨k.os,k.tape,k.output,k.size,fun i hi _=>k.block i hi⟩
theorem EnvIn.set (h:EnvIn w s0 jb cb B vj vc J nx lx)(o:Nat)(u:Value):EnvIn (w.setCell ⟨s0,o,none⟩ u) s0 jb cb B vj vc J nx lx:=h.but ((BelowBut.refl w.heap.size s0 w).setCell ⟨s0,o,none⟩ (.inl rfl) u)
theorem EnvIn.caTo (h:EnvIn w s0 jb cb B vj vc J nx lx){l':List Ee}(k:CaTo w cb B vc l' w')(hl:∀ y∈l',y∈lx\/NewE y w.heap.size):
 ∃ a c,EnvIn w' s0 jb cb B vj (.slice a l'.length c) J nx l'/\(∀ b,b<w.heap.size->Mu s0 jb cb vj (.slice a l'.length c) b->Mu s0 jb cb vj vc b)/\Kp w.heap.size (Mu s0 jb cb vj vc) w w':=by
 obtain ⟨a,c,hC,hto,hr⟩:=k.out
 have hkp:Kp w.heap.size (fun b=>b=cb\/vc.ownBlock=some b) w w':=⟨hr.os,hr.tape,hr.output,hr.size,fun i hi hne=>hr.block i hi (fun e=>hne (.inl e)) (fun e=>hne (.inr e))⟩
 have hsub:∀ b,(b=cb\/vc.ownBlock=some b)->Mu s0 jb cb vj vc b:=by
  rintro b (e | e)
  ·exact .inr (.inr (.inl e))
  ·exact .inr (.inr (.inr (.inr e)))
 have hM:∀ b,b<w.heap.size->Mu s0 jb cb vj (.slice a l'.length c) b->Mu s0 jb cb vj vc b:=by
  rintro b hb (e | e | e | e | e)
  ·exact .inl e
  ·exact .inr (.inl e)
  ·exact .inr (.inr (.inl e))
  ·exact .inr (.inr (.inr (.inl e)))
  ·rcases hto b e with e2 | e2
   ·exact .inr (.inr (.inr (.inr e2)))
   ·omega
 have hlow:Below B w w':=hkp.low h.bl (by
  rintro b (e | e)
  ·subst e;exact h.bc
  ·exact own_base h.ca.own e)
 refine ⟨a,c,⟨?_,h.gm,h.bs,h.bj,h.bc,Nat.lt_of_lt_of_le h.ls hr.size,h.sj,h.sc,h.jc,?_,hC,h.js,h.jcb,?_,?_,?_,fun y hy=>?_,fun b hb=>Nat.lt_of_lt_of_le (h.px b hb) hr.size⟩,hM,⟨hr.os,hr.tape,hr.output,hr.size,fun i hi hne=>hkp.block i hi (fun e=>hne (hsub i e))⟩⟩
 ·obtain ⟨m,hm⟩:=h.mx
  exact ⟨m,(hlow.cell (p:=⟨0,0,none⟩) h.gm).trans hm⟩
 ·refine ⟨h.jar.at_.kp hkp h.lj ?_,own_kp h.jar.own hkp lr ?_,h.jar.ne,Nat.le_trans h.jar.le hr.size⟩
  ·rintro (e | e)
   ·exact h.jc e
   ·exact h.cj e
  ·rintro g hg (e | e)
   ·exact h.jcb (by rw [hg,e])
   ·exact h.jr g hg e
 ·intro e
  rcases hto _ e with e2 | e2
  ·exact h.cs e2
  ·have:=h.ls;omega
 ·intro e
  rcases hto _ e with e2 | e2
  ·exact h.cj e2
  ·have:=h.lj;omega
 ·intro g hg e
  rcases hto _ e with e2 | e2
  ·exact h.jr g hg e2
  ·have:=h.jl hg;omega
 ·rcases hl y hy with h1 | h1
  ·have hf:=h.far y h1
   have hr2:=h.ca.rd y h1
   exact ⟨hf.1.to hr2.va fun b hb=>Or.imp (hM b hb) id,hf.2.to hr2.hd fun b hb=>Or.imp (hM b hb) id⟩
  ·have hF:=hC.far y hy
   refine ⟨fun h0 b off n c e hm=>?_,fun h0 b off n c e hm=>?_⟩
   ·have h2:=h1.1 b off n c e
    rcases hm with (e1 | e1 | e1 | e1 | e1) | e1
    ·have:=h.ls;omega
    ·have:=h.lj;omega
    ·exact (hF.va h0 b off n c e).1 e1
    ·have:=h.jl e1;omega
    ·exact (hF.va h0 b off n c e).2 e1
    ·have:=h.px b e1;omega
   ·have h2:=h1.2 b off n c e
    rcases hm with (e1 | e1 | e1 | e1 | e1) | e1
    ·have:=h.ls;omega
    ·have:=h.lj;omega
    ·exact (hF.hd h0 b off n c e).1 e1
    ·have:=h.jl e1;omega
    ·exact (hF.hd h0 b off n c e).2 e1
    ·have:=h.px b e1;omega
theorem EnvIn.jarTo (h:EnvIn w s0 jb cb B vj vc J nx lx){vj':Value}{J':List Ck}{nx':Int}(hJ:JarIn w' jb B vj' J' nx')(hto:OldNew vj vj' w.heap.size)(hr:RowBut w.heap.size jb vj.ownBlock w w'):
 EnvIn w' s0 jb cb B vj' vc J' nx' lx/\(∀ b,b<w.heap.size->Mu s0 jb cb vj' vc b->Mu s0 jb cb vj vc b)/\Kp w.heap.size (Mu s0 jb cb vj vc) w w':=by
 have hkp:Kp w.heap.size (fun b=>b=jb\/vj.ownBlock=some b) w w':=⟨hr.os,hr.tape,hr.output,hr.size,fun i hi hne=>hr.block i hi (fun e=>hne (.inl e)) (fun e=>hne (.inr e))⟩
 have hsub:∀ b,(b=jb\/vj.ownBlock=some b)->Mu s0 jb cb vj vc b:=by
  rintro b (e | e)
  ·exact .inr (.inl e)
  ·exact .inr (.inr (.inr (.inl e)))
 have hM:∀ b,b<w.heap.size->Mu s0 jb cb vj' vc b->Mu s0 jb cb vj vc b:=by
  rintro b hb (e | e | e | e | e)
  ·exact .inl e
  ·exact .inr (.inl e)
  ·exact .inr (.inr (.inl e))
  ·rcases hto b e with e2 | e2
   ·exact .inr (.inr (.inr (.inl e2)))
   ·omega
  ·exact .inr (.inr (.inr (.inr e)))
 have hlow:Below B w w':=hkp.low h.bl (by
  rintro b (e | e)
  ·subst e;exact h.bj
  ·exact own_base h.jar.own e)
 refine ⟨⟨?_,h.gm,h.bs,h.bj,h.bc,Nat.lt_of_lt_of_le h.ls hr.size,h.sj,h.sc,h.jc,hJ,?_,?_,?_,h.cs,h.cj,?_,fun y hy=>?_,fun b hb=>Nat.lt_of_lt_of_le (h.px b hb) hr.size⟩,hM,⟨hr.os,hr.tape,hr.output,hr.size,fun i hi hne=>hkp.block i hi (fun e=>hne (hsub i e))⟩⟩
 ·obtain ⟨m,hm⟩:=h.mx
  exact ⟨m,(hlow.cell (p:=⟨0,0,none⟩) h.gm).trans hm⟩
 ·have hne:∀ g,vc.ownBlock=some g->¬ (g=jb\/vj.ownBlock=some g):=by
   rintro g hg (e | e)
   ·exact h.cj (by rw [hg,e])
   ·exact h.jr g e hg
  refine ⟨h.ca.at_.kp hkp h.lc ?_,own_kp h.ca.own hkp lr hne,h.ca.ne,Nat.le_trans h.ca.le hr.size,fun x hx=>?_,h.ca.far⟩
  ·rintro (e | e)
   ·exact h.jc e.symm
   ·exact h.jcb e
  ·have hr2:=h.ca.rd x hx
   have hf:=h.far x hx
   exact ⟨hr2.u,hr2.st,hr2.bo,hr2.ti,slk_kp hr2.va (fun h0 b off n c e hm=>hf.1 h0 b off n c e (.inl (hsub b hm))) hkp lr,slk_kp hr2.hd (fun h0 b off n c e hm=>hf.2 h0 b off n c e (.inl (hsub b hm))) hkp lr⟩
 ·intro e
  rcases hto _ e with e2 | e2
  ·exact h.js e2
  ·have:=h.ls;omega
 ·intro e
  rcases hto _ e with e2 | e2
  ·exact h.jcb e2
  ·have:=h.lc;omega
 ·intro g hg e
  rcases hto g hg with e2 | e2
  ·exact h.jr g e2 e
  ·have:=h.cl e;omega
 ·have hf:=h.far y hy
  have hr2:=h.ca.rd y hy
  exact ⟨hf.1.to hr2.va fun b hb=>Or.imp (hM b hb) id,hf.2.to hr2.hd fun b hb=>Or.imp (hM b hb) id⟩
end
abbrev fsV (S:FS)(vh wh:Value):List Value:=fsC S.tk S.me S.ur S.og S.mo vh S.qb S.ck S.ph S.a S.b S.c S.d S.e S.f S.sm S.ho S.ch S.hi S.st wh S.sb S.er
def StIn [Prot](M:Nat->Prop)(w:World)(s0:Nat)(S:FS):Prop:=∃ (va:Option Addr) (vc:Nat) (wa:Option Addr) (wc:Nat),AtL w s0 (fsV S (.slice va S.qh.length vc) (.slice wa S.hs.length wc))/\Hs M w (.slice va S.qh.length vc) S.qh/\Hs M w (.slice wa S.hs.length wc) S.hs
abbrev evC (r:Value × Ev):List Value:=[.int .i64 r.2.k,.string r.2.me,.string r.2.ur,r.1,.string r.2.bo,.int .i64 r.2.st,.int .i64 r.2.er]
theorem evC_len (r:Value × Ev):(evC r).length=7:=rfl
structure Evs [Prot](M:Nat->Prop)(n:Nat)(w:World)(v:Value)(l:List (Value × Ev))(evs:List Ev):Prop where
 eq:l.map (·.2)=evs
 own:w.ownsRow n 48 7 v l.length (cellsK evC l)
 far:∀ g,v.ownBlock=some g->¬ M g
 hs:∀ r∈l,Hs M w r.1 r.2.hs
theorem Evs.kp [Prot]{M M':Nat->Prop}{n m:Nat}{w w':World}{v:Value}{l:List (Value × Ev)}{evs:List Ev}(h:Evs M n w v l evs)(k:Kp m M w w')(hm:w.heap.size<=m)(hM:∀ b,b<w.heap.size->M' b->M b):Evs M' n w' v l evs:=
 ⟨h.eq,own_kp h.own k hm h.far,fun g hg e=>h.far g hg (hM g (h.own.lt g hg).2 e),fun r hr=>(h.hs r hr).kp k hm hM⟩
theorem Evs.below [Prot]{M:Nat->Prop}{n:Nat}{w w':World}{v:Value}{l:List (Value × Ev)}{evs:List Ev}(h:Evs M n w v l evs)(k:Below w.heap.size w w'):Evs M n w' v l evs:=
 h.kp (Kp.of_below (M:=M) k lr) lr fun _ _ e=>e
theorem Evs.nil [Prot](M:Nat->Prop)(n:Nat)(w:World):Evs M n w (.slice none 0 0) [] []:=⟨rfl,World.ownsRow_nil _ _ _ _,fun g hg=>(by cases hg),fun r hr=>(by cases hr)⟩
structure FIn [Prot](w:World)(s0 jb cb B:Nat)(vj:Value)(J:List Ck)(nx:Int)(vc:Value)(lx:List Ee)(S:FS):Prop where
 env:EnvIn w s0 jb cb B vj vc J nx lx
 st:StIn (Mu s0 jb cb vj vc) w s0 S
def StepQ [Prot](w:World)(s0 jb cb B:Nat)(vj:Value)(J:List Ck)(nx:Int)(vc:Value)(o:Out)(x:Ending)(w':World):Prop:=
 ∃ (v:Value) (l:List (Value × Ev)) (vc':Value) (lx:List Ee),x = .returned v/\FIn w' s0 jb cb B vj J nx vc' lx o.s/\lx.map (·.2)=o.c/\Evs (Mu s0 jb cb vj vc') w.heap.size w' v l o.ev/\Kp w.heap.size (Mu s0 jb cb vj vc) w w'/\(∀ b,b<w.heap.size->Mu s0 jb cb vj vc' b->Mu s0 jb cb vj vc b)/\(o.s.ph=1\/o.s.ph=2->∃ a n,v = .slice a n n)
theorem own_lit {w:World}{base e size:Nat}(news:List Value)(m:Nat)(hb:base<=w.heap.size)(hm:m<=maxLen)(hs:news.length=m * size):(w.alloc (.cells news.toArray e)).ownsRow base e size (.slice (some ⟨w.heap.size,0,none⟩) m m) m news:=by
 have:=World.ownsRow_lit (base:=base) (e:=e) (size:=size) w news.toArray m hb hm (by simpa using hs)
 simpa using this
theorem Evs.one [Prot]{M:Nat->Prop}{n:Nat}{w:World}(u:Value)(ev:Ev)(hb:n<=w.heap.size)(hM:∀ b,M b->b<w.heap.size)(hu:Hs M w u ev.hs):
 Evs M n (w.alloc (.cells (evC (u,ev)).toArray 48)) (.slice (some ⟨w.heap.size,0,none⟩) 1 1) [(u,ev)] [ev]:=
 ⟨rfl,own_eq (own_lit (evC (u,ev)) 1 hb (by unfold maxLen;decide) rfl) rfl (by simp [cellsK]),fun g hg e=>by
  simp only [Value.ownBlock,Option.some.injEq] at hg
  have:=hM g e
  omega,fun r hr=>by
  obtain rfl:=List.mem_singleton.1 hr
  exact hu.below ((Below.refl _ w).alloc lr _)⟩
theorem StIn.kp [Prot]{M M':Nat->Prop}{n:Nat}{w w':World}{s0:Nat}{S:FS}(h:StIn M w s0 S)(k:Kp n M' w w')(hn:w.heap.size<=n)(hs:¬ M' s0)(hM:∀ b,b<w.heap.size->M' b->M b):StIn M w' s0 S:=by
 obtain ⟨va,vc,wa,wc,h1,h2,h3⟩:=h
 have hsub:∀ (hs:List Hd) (u:Value),Hs M w u hs->Hs M w' u hs:=fun hs u h=>⟨slk_kp h.1 (fun h0 b off n c e hm=>h.2 h0 b off n c e (.inl (hM b (slk_lt h.1 h0 e) hm))) k hn,h.2⟩
 exact ⟨va,vc,wa,wc,h1.kp k (Nat.lt_of_lt_of_le h1.lt hn) hs,hsub _ _ h2,hsub _ _ h3⟩
theorem StIn.below [Prot]{M:Nat->Prop}{w w':World}{s0:Nat}{S:FS}(h:StIn M w s0 S)(k:Below w.heap.size w w'):StIn M w' s0 S:=
 h.kp (M':=fun _=>False) (Kp.of_below k lr) lr id (fun _ _ e=>e.elim)
theorem FIn.below [Prot]{w w':World}{s0 jb cb B:Nat}{vj:Value}{J:List Ck}{nx:Int}{vc:Value}{lx:List Ee}{S:FS}(h:FIn w s0 jb cb B vj J nx vc lx S)(k:Below w.heap.size w w'):FIn w' s0 jb cb B vj J nx vc lx S:=⟨h.env.below k,h.st.below k⟩
theorem StepQ.pre [Prot]{w w1 w2:World}{s0 jb cb B:Nat}{vj:Value}{J:List Ck}{nx:Int}{vc vc1:Value}{o:Out}{x:Ending}(k:Kp w.heap.size (Mu s0 jb cb vj vc) w w1)(hM:∀ b,b<w.heap.size->Mu s0 jb cb vj vc1 b->Mu s0 jb cb vj vc b)(h:StepQ w1 s0 jb cb B vj J nx vc1 o x w2):StepQ w s0 jb cb B vj J nx vc o x w2:=by
 obtain ⟨v,l,vc',lx,h1,h2,h3,h4,h5,h6,h7⟩:=h
 exact ⟨v,l,vc',lx,h1,h2,h3,⟨h4.eq,own_mono h4.own k.size,h4.far,h4.hs⟩,k.trans h5 k.size hM,fun b hb e=>hM b hb (h6 b (Nat.lt_of_lt_of_le hb k.size) e),h7⟩
theorem StepQ.below [Prot]{w w1 w2:World}{s0 jb cb B:Nat}{vj:Value}{J:List Ck}{nx:Int}{vc:Value}{o:Out}{x:Ending}(k:Below w.heap.size w w1)(h:StepQ w1 s0 jb cb B vj J nx vc o x w2):StepQ w s0 jb cb B vj J nx vc o x w2:=h.pre (Kp.of_below k lr) fun _ _ e=>e
theorem StepQ.one [Prot]{w W:World}{s0 jb cb B:Nat}{vj:Value}{J:List Ck}{nx:Int}{vc vc':Value}{lx:List Ee}{o:Out}(E:EnvIn W s0 jb cb B vj vc' J nx lx)(St:StIn (Mu s0 jb cb vj vc') W s0 o.s)(hC:lx.map (·.2)=o.c)(K:Kp w.heap.size (Mu s0 jb cb vj vc) w W)
 (hM:∀ b,b<w.heap.size->Mu s0 jb cb vj vc' b->Mu s0 jb cb vj vc b) (u:Value) (ev:Ev) (ho:o.ev=[ev]) (hu:Hs (Mu s0 jb cb vj vc') W u ev.hs) (N:Nat) (hN:W.heap.size=N) :
 StepQ w s0 jb cb B vj J nx vc o (.returned (.slice (some ⟨N,0,none⟩) 1 1)) (W.alloc (.cells (evC (u,ev)).toArray 48)):=by
 subst hN
 have hal:=(Below.refl _ W).alloc lr (.cells (evC (u,ev)).toArray 48)
 exact ⟨_,_,vc',lx,rfl,⟨E.below hal,St.below hal⟩,hC,by rw [ho];exact Evs.one u ev K.size E.mlt hu,K.below hal K.size,hM,fun _=>⟨_,_,rfl⟩⟩
theorem StepQ.none [Prot]{w W:World}{s0 jb cb B:Nat}{vj:Value}{J:List Ck}{nx:Int}{vc vc':Value}{lx:List Ee}{o:Out}(E:EnvIn W s0 jb cb B vj vc' J nx lx)(St:StIn (Mu s0 jb cb vj vc') W s0 o.s)(hC:lx.map (·.2)=o.c)(K:Kp w.heap.size (Mu s0 jb cb vj vc) w W)
 (hM:∀ b,b<w.heap.size->Mu s0 jb cb vj vc' b->Mu s0 jb cb vj vc b) (ho:o.ev=[]):StepQ w s0 jb cb B vj J nx vc o (.returned (.slice none 0 0)) W:=
 ⟨_,[],vc',lx,rfl,⟨E,St⟩,hC,by rw [ho];exact Evs.nil _ _ _,K,hM,fun _=>⟨_,_,rfl⟩⟩
theorem sidx (p:ByteArray->Bool)(g:Nat)(cb:Array Value)(eg:∀ args w,(callFunc g args).run Tryz.prog w = .ok (.enter g args) w)(l:List ByteArray)(b cap:Nat)(w:World)
 (hp:∀ W d,d∈l->Below w.heap.size w W->Calls Tryz.prog g (#[.string d] ++ cb) W fun e W'=>e = .returned (.bool (p d))/\Below W.heap.size W W') (hn:l.length<=1000000) (hb:b<w.heap.size) (hc:∀ i (h:i<l.length),w.cell? ⟨b,i,none⟩=some (.string l[i])) (R:Int) (hR:idxI p l=R) :
 Calls Tryz.prog 241 #[.slice (some ⟨b,0,none⟩) l.length cap,.func (.func g) #[] cb] w fun e w'=>e = .returned (.int .i64 R)/\Below w.heap.size w w':=by
 have HR:=Lib.hid hR
 have HC:=Lib.hid hc
 have HP:=Lib.hid hp
 clear hR hc hp
 go_enter Tryz.func241,Tryz.ntmps241
 go_wp2
 go_loopw [5,8] (fun _ s8 wr=>∃ kk:Nat,kk<=l.length/\s8 = .int .i64 kk/\Below w.heap.size w wr/\∀ j (h:j<l.length),j<kk->p l[j]=false) (fun _ s8 _=>l.length - (intOf s8).toNat)
 case atStart=>exact ⟨0,Nat.zero_le _,rfl,Below.refl _ w,fun j _ hj=>absurd hj (Nat.not_lt_zero _)⟩
 case round=>
  obtain ⟨kk,hkk,rfl,BW,A⟩:=hrel
  have HA:=Lib.hid A
  clear A
  by_cases hlt:kk<l.length
  ·have hltz:(kk:Int)<(l.length:Int):=by omega
   have c0:wr.cell? ⟨b,kk,none⟩=some (.string l[kk]):=(BW.cell (p:=⟨b,kk,none⟩) hb).trans (HC.out kk hlt)
   have hcall:=HP.out wr l[kk] (List.getElem_mem hlt) BW
   obtain ⟨y,hy⟩:∃ y,l[kk]=y:=⟨_,rfl⟩
   rw [hy] at c0 hcall
   have HY:=Lib.hid hy
   clear hy
   have hBs:=BW.size
   cases hq:p y with
   | true =>
     rw [hq] at hcall
     have HQ:=Lib.hid hq
     have HCall:=Lib.hid hcall
     clear hq hcall
     go_wp2_with (go_at_fn g;refine HCall.out.mono ?_;rintro e w' ⟨rfl,hb'⟩)
     go_ret
     exact ⟨ret_int (by rw [<-HR.out];exact (idxI_hit p l kk hlt (by rw [HY.out];exact HQ.out) (fun j hj=>HA.out j (by omega) hj)).symm),BW.trans (hb'.mono hBs)⟩
   | false =>
     rw [hq] at hcall
     have HQ:=Lib.hid hq
     have HCall:=Lib.hid hcall
     clear hq hcall
     go_wp2_with (go_at_fn g;refine HCall.out.mono ?_;rintro e w' ⟨rfl,hb'⟩)
     go_roundw
     case rel=>
      refine ⟨kk+1,by omega,by go_num,BW.trans (hb'.mono hBs),fun j h hj=>?_⟩
      by_cases e:j=kk
      ·subst e;rw [HY.out];exact HQ.out
      ·exact HA.out j h (by omega)
     case measure=>simp [intOf];omega
  ·obtain rfl:kk=l.length:=by omega
   go_wp2
   go_ret
   exact ⟨ret_int (by rw [<-HR.out];exact (idxI_miss p l (fun j hj=>HA.out j hj hj)).symm),BW⟩
theorem scont (p:ByteArray->Bool)(g:Nat)(cb:Array Value)(eg:∀ args w,(callFunc g args).run Tryz.prog w = .ok (.enter g args) w)(l:List ByteArray)(b cap:Nat)(w:World)
 (hp:∀ W d,d∈l->Below w.heap.size w W->Calls Tryz.prog g (#[.string d] ++ cb) W fun e W'=>e = .returned (.bool (p d))/\Below W.heap.size W W') (hn:l.length<=1000000) (hb:b<w.heap.size) (hc:∀ i (h:i<l.length),w.cell? ⟨b,i,none⟩=some (.string l[i])) (R:Bool) (hR:l.any p=R) :
 Calls Tryz.prog 186 #[.slice (some ⟨b,0,none⟩) l.length cap,.func (.func g) #[] cb] w fun e w'=>e = .returned (.bool R)/\Below w.heap.size w w':=by
 cases R with
 | true=>
   have e:idxI p l=((l.findIdx p:Nat):Int):=by unfold idxI;rw [if_pos hR]
   obtain ⟨n,hn2⟩:∃ n,l.findIdx p=n:=⟨_,rfl⟩
   rw [hn2] at e
   have C:=Lib.hid (sidx p g cb eg l b cap w hp hn hb hc _ e)
   clear e hn2 hR hp hc
   go_enter Tryz.func186,Tryz.ntmps186
   go_wp2_with (go_at_call 241;with_reducible refine C.out.mono ?_;rintro e w1 ⟨rfl,hb1⟩)
   go_ret
   exact ⟨rfl,hb1⟩
 | false=>
   have e:idxI p l = -1:=by unfold idxI;rw [if_neg (by rw [hR];simp)]
   have C:=Lib.hid (sidx p g cb eg l b cap w hp hn hb hc _ e)
   clear e hR hp hc
   go_enter Tryz.func186,Tryz.ntmps186
   go_wp2_with (go_at_call 241;with_reducible refine C.out.mono ?_;rintro e w1 ⟨rfl,hb1⟩)
   go_ret
   exact ⟨rfl,hb1⟩
theorem hdr_one (h:Hd)(n:List UInt8):(hdrL [h] n).isSome=(lowL h.1.data.toList == lowL n):=by
 unfold hdrL hitH
 rw [List.find?_cons]
 cases (lowL h.1.data.toList == lowL n) <;> rfl
theorem is_is (h:Hd)(n:ByteArray)(w:World)(hz:h.1.size<=100000/\h.2.size<=100000)(hn:n.size<=100000)(R:Bool)(hR:isH h n=R):
 Calls Tryz.prog 71 #[hdA h,.string n] w fun e w'=>e = .returned (.bool R)/\Below w.heap.size w w':=by
 obtain ⟨hk,hv⟩:=h
 have hal:=(Below.refl _ w).alloc lr (.cells (hdC (hk,hv)).toArray 70)
 have hal2:=hal.alloc (by simp) (.cells (hdC (hk,hv)).toArray 70)
 have A1:=(AtL.new (w.alloc (.cells (hdC (hk,hv)).toArray 70)) (hdC (hk,hv)) 70)
 have hsl:SlK hdC 2 ((w.alloc (.cells (hdC (hk,hv)).toArray 70)).alloc (.cells (hdC (hk,hv)).toArray 70)) (.slice (some ⟨(w.alloc (.cells (hdC (hk,hv)).toArray 70)).heap.size,0,none⟩) 1 1) [(hk,hv)]:=
  .inr ⟨by simp,_,0,1,rfl,lr,by unfold maxLen;decide,A1.lt,fun i hi j u hu=>by
   obtain rfl:i=0:=by simpa using hi
   rw [show 0+0 * 2+j=j by omega]
   exact A1.c j hu⟩
 obtain ⟨V,hV⟩:∃ V,(hdrL [(hk,hv)] n.data.toList).getD ⟨#[]⟩=V:=⟨_,rfl⟩
 have CH:=Lib.hid (hdr_at [(hk,hv)] _ n _ hsl ⟨(by show 1<=1000000;decide),fun h hh=>by obtain rfl:=List.mem_singleton.1 hh;exact hz⟩ hn V R hV ((hdr_one _ _).trans hR))
 rw [show (w.alloc (.cells (hdC (hk,hv)).toArray 70)).heap.size=w.heap.size+1 by simp] at CH
 clear hV hR hsl A1
 go_enter Tryz.func71,Tryz.ntmps71
 go_wp2_with (go_at_call 15;(with_reducible refine CH.out.mono ?_);rintro e w1 ⟨rfl,hb1⟩)
 go_ret
 exact ⟨rfl,hal2.trans (hb1.mono hal2.size)⟩
theorem woclos_is (h:Hd)(B:Nat)(n:ByteArray)(w:World)(hA:AtL w B (hdC h))(hz:h.1.size<=100000/\h.2.size<=100000)(hn:n.size<=100000)(R:Bool)(hR:isH h n=R):
 Calls Tryz.prog 187 #[.string n,.pointer (some ⟨B,0,none⟩)] w fun e w'=>e = .returned (.bool R)/\Below w.heap.size w w':=by
 have CI:=Lib.hid (is_is h n w hz hn R hR)
 obtain ⟨hk,hv⟩:=h
 have c0:=hA.c 0 rfl
 have c1:=hA.c 1 rfl
 have bl:=hA.lt
 clear hA hR
 go_enter Tryz.func187,Tryz.ntmps187
 go_wp2_with (go_at_call 71;(with_reducible refine CI.out.mono ?_);rintro e w1 ⟨rfl,hb1⟩)
 go_ret
 exact ⟨rfl,hb1⟩
theorem without_is (hs:List Hd)(v:Value)(ns:List ByteArray)(b0:Nat)(w:World)(hv:SlK hdC 2 w v hs)(hz:HdSz hs)(hn:ns.length<=10)(hns:∀ n∈ns,n.size<=100000)(hb0:b0<w.heap.size)(hc:∀ i (h:i<ns.length),w.cell? ⟨b0,i,none⟩=some (.string ns[i]))(L:List Hd)(hL:woL hs ns=L):
 Calls Tryz.prog 125 #[v,.slice (some ⟨b0,0,none⟩) ns.length ns.length] w (HdsQ w L):=by
 have HZ:=Lib.hid hz.2
 have hhl:=hz.1
 obtain ⟨sa,sc,rfl,_⟩:=hv.shape
 have HC:=Lib.hid (hd_cells hv rfl)
 have CCo:=Lib.hid (fun (w':World) (h:Hd) (K:Nat) (hb:Below w.heap.size w w') (hA:AtL w' K (hdC h)) (hzh:h.1.size<=100000/\h.2.size<=100000) (R:Bool) (hR:ns.any (isH h)=R)=>
  scont (isH h) 187 #[.pointer (some ⟨K,0,none⟩)] (enters_of Tryz.func187 (by kernel_rfl) rfl) ns b0 ns.length w' (fun W d hd hbW=>woclos_is h K d W (hA.next hbW) hzh (hns d hd) _ rfl) (by omega) (Nat.lt_of_lt_of_le hb0 hb.size) (fun i hi=>(hb.cell (p:=⟨b0,i,none⟩) hb0).trans (hc i hi)) R hR)
 have HLL:=Lib.hid hL
 clear hv hc hns hL hz
 go_enter Tryz.func125,Tryz.ntmps125
 go_wp2_with fail
 go_loopw [5,10] (fun ov iv wr=>∃ (kk:Nat) (lo:List Hd),kk<=hs.length/\iv = .int .i64 kk/\Hid (lo=(hs.take kk).filter (fun h=>!(ns.any (isH h))))/\lo.length<=kk/\wr.ownsRow w.heap.size 70 2 ov lo.length (cellsK hdC lo)/\(lo=[]->ov = .slice none 0 0)/\Below w.heap.size w wr) (fun _ iv _=>hs.length - (intOf iv).toNat)
 case atStart=>exact ⟨0,[],Nat.zero_le _,rfl,Lib.hid rfl,lr,World.ownsRow_nil _ _ _ _,fun _=>rfl,Below.refl _ _⟩
 case round=>
  obtain ⟨kk,lo,hk,rfl,HL,hlk,hown,hnil,hbw⟩:=hrel
  have HN:=Lib.hid hnil
  clear hnil
  have hws:=hbw.size
  by_cases hlt:kk<hs.length
  ·obtain ⟨b1,off,rfl,hb1,hcell⟩:=HC.out (by omega)
   have cc:∀ j u,(hdC hs[kk])[j]? = some u->wr.cell? ⟨b1,off+kk * 2+j,none⟩=some u:=fun j u hu=>(brl hbw _ _ hb1).trans (hcell kk hlt j u hu)
   have hst:=keepg_snoc hs (fun h=>!(ns.any (isH h))) kk hlt _ rfl
   have hsz:=HZ.out _ (List.getElem_mem hlt)
   obtain ⟨y,hy⟩:∃ y,hs[kk]=y:=⟨_,rfl⟩
   rw [hy] at cc hst hsz
   rw [<-HL.out] at hst
   clear hy hcell
   obtain ⟨yn,yv⟩:=y
   have c0:=cc 0 _ rfl
   have c1:=cc 1 _ rfl
   simp only [Nat.add_zero] at c0
   clear cc
   have hki:(kk:Int)<(hs.length:Int):=by omega
   have hk0:(0:Int)<=(kk:Int):=by omega
   have hb1w:b1<wr.heap.size:=by omega
   obtain ⟨oa,oc,rfl,_⟩:=own_reads hown
   obtain ⟨R,hR⟩:∃ R,ns.any (isH (yn,yv))=R:=⟨_,rfl⟩
   have hal:=(Below.refl _ wr).alloc lr (.cells (hdC (yn,yv)).toArray 70)
   have KA:=AtL.new wr (hdC (yn,yv)) 70
   have hB1:=hbw.trans (hal.mono hws)
   have o1:=own_below hown hal lr
   have CC:=Lib.hid (CCo.out _ (yn,yv) _ hB1 KA hsz R hR)
   rw [hR] at hst
   have HST:=Lib.hid hst
   clear hst hR hsz
   cases R with
   | true=>
     go_wp2_with (go_at_call 186;(with_reducible refine CC.out.mono ?_);rintro e w4 ⟨rfl,hb4⟩;have o4:=own_below o1 hb4 lr;have hb4':=hB1.trans (hb4.mono hB1.size))
     go_roundw
     case rel=>exact ⟨kk+1,lo,by omega,by go_num,Lib.hid (by rw [HST.out];simp),by omega,o4,HN.out,hb4'⟩
     case measure=>simp [intOf];omega
   | false=>
     go_wp2_with (first
      | (go_at_call 186;(with_reducible refine CC.out.mono ?_);rintro e w4 ⟨rfl,hb4⟩;have o4:=own_below o1 hb4 lr;have hb4':=hB1.trans (hb4.mono hB1.size);have hz4:=hb4'.size;have K4:=KA.next hb4;have d0:=K4.c 0 rfl;have d1:=K4.c 1 rfl;have dl:=K4.lt)
      | (refine app2 slH w4 (by rfl) (.tmp 18) (.tmp 20) (by rfl) w.heap.size _ _ _ (by rfl) o4 [.string yn,.string yv] 1 w4.heap.size (by rfl) rfl (by rfl) (by intro u hu;simp at hu;rcases hu with rfl | rfl <;> rfl) (by decide) (by omega) (by omega) hz4 ?_;intro v5 w5 o5 g5 f5;obtain ⟨ub,uk,rfl,_,_,_⟩:=own_reads o5))
     go_roundw
     case rel=>exact ⟨kk+1,lo ++ [(yn,yv)],by omega,by go_num,Lib.hid (by rw [HST.out];simp),by simp;omega,own_eq o5 (by simp) (by rw [cellsK_app];rfl),(fun h=>absurd h (by simp)),below_own hb4' o4 g5 hz4 lr⟩
     case measure=>simp [intOf];omega
  ·obtain rfl:kk=hs.length:=by omega
   have hlo:lo=L:=by rw [HL.out,List.take_length,<-HLL.out];rfl
   obtain ⟨oa,oc,rfl,_⟩:=own_reads hown
   go_wp2
   go_ret
   exact ⟨_,rfl,by rw [<-hlo];exact hown,fun h=>HN.out (by rw [hlo];exact h),hbw⟩
end Go.Proofs.YtjdhaacmlpegoaaGreatDoor
