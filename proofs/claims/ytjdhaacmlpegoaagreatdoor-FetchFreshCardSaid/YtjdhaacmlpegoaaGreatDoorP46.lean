/- Part 46 of what the proof needs: TI XZ. -/
import Derived.Test.YtjdhaacmlpegoaaGreatDoorP41
import Derived.Deep.MidRow
import Derived.Test.YtjdhaacmlpegoaaGreatDoorP45
import Derived.Test.YtjdhaacmlpegoaaGreatDoorP01
set_option maxRecDepth 20000
set_option maxHeartbeats 16000000
namespace Go.Proofs.YtjdhaacmlpegoaaGreatDoor
open Go.RowKit
set_option linter.unusedSimpArgs false
set_option linter.unusedVariables false
theorem retct_run {P:Program}{fn:Func}{q T r:Nat}(hr:fn.results = #[.cell q T,.tmp r]){vs:List Value}(hz:∀ w,(Go.sizeOf T).run P w = .ok vs.length w)(ha:∀ w,(isAgg T).run P w = .ok true w)(tmps:Array Value)(W:World)(k:Nat)(x:Value)(h2:tmps.getD q undef = .pointer (some ⟨k,0,none⟩))(h3:tmps.getD r undef=x)(hA:AtL W k vs):
 (results fn tmps).run P W = .ok (.tuple #[.agg vs.toArray,x]) W:=by
 have hl:(loadCells ⟨k,0,none⟩ vs.length).run P W = .ok vs.toArray W:=run_loadCells_list (P:=P) W ⟨k,0,none⟩ vs (fun j v hv=>by rw [Addr.add_lit,Nat.zero_add];exact hA.c j hv)
 have hl2:(loadCellsFrom ⟨k,0,none⟩ 0 vs.length #[]).run P W = .ok vs.toArray W:=by simpa [loadCells] using hl
 rw [Array.getD_eq_getD_getElem?] at h2 h3
 simp [results,hr,h2,h3,go_sem,ha,hz,hl2]
theorem AtL.setsFrom {k:Nat}:∀ {W:World} {o:Nat} (pre rest vs:List Value),AtL W k (pre ++ rest)->pre.length=o->vs.length=rest.length->AtL (W.setCells k o vs) k (pre ++ vs)
 | W,o,pre,[],[],h,_,_=>h
 | W, o, pre, r :: rs, v :: vs, h, ho, hl => by
   have h1:AtL (W.setCell ⟨k,o,none⟩ v) k (pre ++ v :: rs):=by
    have h2:=h.set o v
    rw [List.set_append,if_neg (by omega),show o - pre.length=0 by omega] at h2
    exact h2
   have h3:AtL (W.setCell ⟨k,o,none⟩ v) k ((pre ++ [v]) ++ rs):=by simpa using h1
   have h4:=AtL.setsFrom (o:=o+1) (pre ++ [v]) rs vs h3 (by simp [ho]) (by simpa using hl)
   simpa [World.setCells] using h4
theorem AtL.sets {k:Nat}{W:World}{vs us:List Value}(h:AtL W k us)(hl:vs.length=us.length):AtL (W.setCells k 0 vs) k vs:=AtL.setsFrom [] us vs h rfl hl
theorem AtL.farSets {k q:Nat}{ls:List Value}(hk:k≠q):∀ {W:World} {o:Nat} (vs:List Value),AtL W q ls->AtL (W.setCells k o vs) q ls
 | _,_,[],h=>h
 | _,_,_ :: vs,h=>AtL.farSets hk vs (h.far _ _ hk)
theorem Below.sets {B k:Nat}{w:World}(hp:B<=k):∀ {W:World} {o:Nat} (vs:List Value),Below B w W->Below B w (W.setCells k o vs)
 | _,_,[],h=>h
 | _,_,_ :: vs,h=>Below.sets hp vs (h.setCell (p:=⟨k,_,none⟩) hp _)
theorem AtL.range {W:World}{k:Nat}{vs:List Value}(h:AtL W k vs):W.rangeAt k 0 vs:=fun j v hv=>by rw [Nat.zero_add];exact h.c j hv
theorem AtL.there {W:World}{k:Nat}{vs:List Value}(h:AtL W k vs)(n:Nat)(hn:n=vs.length):W.there k 0 n:=fun j hj=>by
 subst hn
 rw [Nat.zero_add]
 exact ⟨by rw [h.c j (List.getElem?_eq_getElem hj)];rfl,h.f j (List.getElem?_eq_getElem hj)⟩
theorem wpList_load_at {P:Program}{ops:Array Oper}{rest:List Oper}{op:Oper}{a:Act}{w:World}{Q:Exit->Act->World->Prop}(hgd:op.guard=none)(ty:TypeId)(x:Operand)(ho:op.op = .load ty x)(b:Nat)(hx:a.eval x = .pointer (some ⟨b,0,none⟩)){cs:List Value}(hA:AtL w b cs){d:TypeDesc}(hu:P.underlying ty=some d)(hd:d.isRow=true)(hi:(P.info? ty).map (·.size)=some cs.length)
 (h:wpList P ops Q rest (a.put op.dst (.agg cs.toArray)) w):wpList P ops Q (op :: rest) a w:=wpList_load_mid hgd ty x ho b 0 hx cs d hA.range hu hd hi h
theorem wpList_store_at {P:Program}{ops:Array Oper}{rest:List Oper}{op:Oper}{a:Act}{w:World}{Q:Exit->Act->World->Prop}(hgd:op.guard=none)(ty:TypeId)(x y:Operand)(ho:op.op = .store ty x y)(b:Nat)(cs:List Value)(hx:a.eval x = .pointer (some ⟨b,0,none⟩))(hy:a.eval y = .agg cs.toArray){us:List Value}(hA:AtL w b us)(hl:cs.length=us.length)(hi:(P.info? ty).map (·.size)=some cs.length)(h1:cs.all (·.oneCell')=true)
 (h:wpList P ops Q rest (a.put op.dst undef) (w.setCells b 0 cs)):wpList P ops Q (op :: rest) a w:=
 wpList_store_mid hgd ty x y ho b 0 cs.toArray hx hy (by simpa using hA.there _ hl) (by simpa using hi) (all_oneCell_toArray (List.all_eq_true.1 h1)) h
def MuP (jb cb:Nat)(vj vc:Value)(b:Nat):Prop:=b=jb\/b=cb\/vj.ownBlock=some b\/vc.ownBlock=some b
structure EnvP [Prot](w:World)(jb cb B:Nat)(vj vc:Value)(J:List Ck)(nx:Int)(lx:List Ee):Prop where
 mx:MaxAt w
 gm:0<B
 bj:B<=jb
 bc:B<=cb
 jc:jb≠cb
 jar:JarIn w jb B vj J nx
 ca:CaIn w cb B vc lx
 jcb:vj.ownBlock≠some cb
 cj:vc.ownBlock≠some jb
 jr:∀ g,vj.ownBlock=some g->vc.ownBlock≠some g
 far:∀ x∈lx,FarM (Px (MuP jb cb vj vc)) x.2.va x.1.vv/\FarM (Px (MuP jb cb vj vc)) x.2.hd x.1.hv
 px:∀ b,Prot.x b->b<w.heap.size
section
variable {w w' : World} {s0 jb cb B R : Nat} {vj vc : Value} {J : List Ck} {nx : Int} {lx : List Ee} {X : Nat → Prop}
theorem EnvP.lj [Prot](h:EnvP w jb cb B vj vc J nx lx):jb<w.heap.size:=h.jar.at_.lt
theorem EnvP.lc [Prot](h:EnvP w jb cb B vj vc J nx lx):cb<w.heap.size:=h.ca.at_.lt
theorem EnvP.mlt [Prot](h:EnvP w jb cb B vj vc J nx lx):∀ b,MuP jb cb vj vc b->b<w.heap.size:=by
 rintro b (rfl | rfl | e | e)
 ·exact h.lj
 ·exact h.lc
 ·exact (h.jar.own.lt b e).2
 ·exact (h.ca.own.lt b e).2
theorem EnvP.mk' [Prot](h:EnvP w jb cb B vj vc J nx lx)(k:Below w.heap.size w w')(h1:w.heap.size<=s0)(h2:s0<w'.heap.size)(hX:∀ b,X b->Prot.x b\/w.heap.size<=b)(hX2:∀ b,X b->b<w'.heap.size): @EnvIn ⟨X⟩ w' s0 jb cb B vj vc J nx lx:=by
 have hj:=h.lj
 have hc:=h.lc
 have hbj:=h.bj
 have far:∀ (hs:List Hd) (u:Value),SlK hdC 2 w u hs->FarM (Px (MuP jb cb vj vc)) hs u->FarM (@Px ⟨X⟩ (Mu s0 jb cb vj vc)) hs u:=fun hs u hs1 hf h0 b off n c e hm=>by
  have hb:=slk_lt hs1 h0 e
  rcases hm with (e1 | e1) | e1
  ·omega
  ·exact hf h0 b off n c e (.inl e1)
  ·rcases hX b e1 with e2 | e2
   ·exact hf h0 b off n c e (.inr e2)
   ·omega
 exact @EnvIn.mk ⟨X⟩ w' s0 jb cb B vj vc J nx lx (h.mx.below k lr) h.gm (by omega) h.bj h.bc h2 (by omega) (by omega) h.jc (h.jar.below k lr) (h.ca.below k lr) (fun e=>by have:=(h.jar.own.lt _ e).2;omega) h.jcb (fun e=>by have:=(h.ca.own.lt _ e).2;omega) h.cj h.jr
  (fun x hx=>⟨far _ _ (h.ca.rd x hx).va (h.far x hx).1,far _ _ (h.ca.rd x hx).hd (h.far x hx).2⟩) hX2
theorem EnvP.of [Prot](h : @EnvIn ⟨X⟩ w s0 jb cb B vj vc J nx lx)(hX:∀ b,Prot.x b->X b)(hR:X R)(hRM:¬ Mu s0 jb cb vj vc R)(hRB:B<=R)(k:Kp w.heap.size (fun b=>b=R) w w'):EnvP w' jb cb B vj vc J nx lx:=by
 obtain ⟨hmx,hgm,hbs,hbj,hbc,hls,hsj,hsc,hjc,hjar,hca,hjs,hjcb,hcs,hcj,hjr,hfar,hpx⟩:=h
 have lj:=hjar.at_.lt
 have lc:=hca.at_.lt
 have lG:0<w.heap.size:=by omega
 refine ⟨?_,hgm,hbj,hbc,hjc,⟨hjar.at_.kp k lj (fun e=>hRM (.inr (.inl e.symm))),own_kp hjar.own k lr (fun g hg e=>hRM (.inr (.inr (.inr (.inl (e ▸ hg)))))),hjar.ne,Nat.le_trans hjar.le k.size⟩,⟨hca.at_.kp k lc (fun e=>hRM (.inr (.inr (.inl e.symm)))),own_kp hca.own k lr (fun g hg e=>hRM (.inr (.inr (.inr (.inr (e ▸ hg)))))),hca.ne,Nat.le_trans hca.le k.size,fun x hx=>?_,hca.far⟩,hjcb,hcj,hjr,fun x hx=>⟨fun h0 b off n c e hm=>?_,fun h0 b off n c e hm=>?_⟩,fun b hb=>Nat.lt_of_lt_of_le (hpx b (hX b hb)) k.size⟩
 ·obtain ⟨m,hm⟩:=hmx
  exact ⟨m,(k.cell (b:=0) (o:=0) lG (fun e=>by have:=hgm;omega)).trans hm⟩
 ·have hr:=hca.rd x hx
  have hf:=hfar x hx
  exact ⟨hr.u,hr.st,hr.bo,hr.ti,slk_kp hr.va (fun h0 b off n c e hm=>hf.1 h0 b off n c e (.inr (by rw [show b=R from hm];exact hR))) k lr,slk_kp hr.hd (fun h0 b off n c e hm=>hf.2 h0 b off n c e (.inr (by rw [show b=R from hm];exact hR))) k lr⟩
 ·exact (hfar x hx).1 h0 b off n c e (hm.imp .inr (hX b))
 ·exact (hfar x hx).2 h0 b off n c e (hm.imp .inr (hX b))
theorem hs_of [Prot]{u:Value}{hs:List Hd}(h : @Hs ⟨X⟩ (Mu s0 jb cb vj vc) w u hs)(hX:∀ b,Prot.x b->X b)(hR:X R)(k:Kp w.heap.size (fun b=>b=R) w w'):Hs (MuP jb cb vj vc) w' u hs:=
 ⟨slk_kp h.1 (fun h0 b off n c e hm=>h.2 h0 b off n c e (.inr (by rw [show b=R from hm];exact hR))) k lr,fun h0 b off n c e hm=>h.2 h0 b off n c e (hm.imp .inr (hX b))⟩
theorem evs_of [Prot]{n:Nat}{v:Value}{l:List (Value × Ev)}{evs:List Ev}(h : @Evs ⟨X⟩ (Mu s0 jb cb vj vc) n w v l evs)(hX:∀ b,Prot.x b->X b)(hR:X R)(hn:R<n)(k:Kp w.heap.size (fun b=>b=R) w w'):Evs (MuP jb cb vj vc) n w' v l evs:=
 ⟨@Evs.eq ⟨X⟩ _ _ _ _ _ _ h,own_kp (@Evs.own ⟨X⟩ _ _ _ _ _ _ h) k lr (fun g hg e=>by have:=own_base (@Evs.own ⟨X⟩ _ _ _ _ _ _ h) hg;omega),fun g hg e=>@Evs.far ⟨X⟩ _ _ _ _ _ _ h g hg (.inr e),fun r hr=>hs_of (@Evs.hs ⟨X⟩ _ _ _ _ _ _ h r hr) hX hR k⟩
def BeginR [Prot](w:World)(jb cb B:Nat)(vj:Value)(J:List Ck)(nx:Int)(vc:Value)(o:Out)(x:Ending)(w':World):Prop:=
 ∃ (va : Option Addr) (vk : Nat) (wa : Option Addr) (wk : Nat) (v : Value) (l : List (Value × Ev)) (vc' : Value) (lx : List Ee), x = .returned (.tuple #[.agg (fsV o.s (.slice va o.s.qh.length vk) (.slice wa o.s.hs.length wk)).toArray, v]) ∧ EnvP w' jb cb B vj vc' J nx lx ∧ lx.map (·.2) = o.c ∧ Hs (MuP jb cb vj vc') w' (.slice va o.s.qh.length vk) o.s.qh ∧ Hs (MuP jb cb vj vc') w' (.slice wa o.s.hs.length wk) o.s.hs ∧
   Evs (MuP jb cb vj vc') w.heap.size w' v l o.ev/\Kp w.heap.size (MuP jb cb vj vc) w w'/\(∀ b,b<w.heap.size->MuP jb cb vj vc' b->MuP jb cb vj vc b)/\(o.s.ph=1\/o.s.ph=2->∃ a n,v = .slice a n n)
theorem BeginR.of [Prot]{w0 w6 w9:World}{o:Out}{x:Ending}(hX:∀ b,Prot.x b->X b)(hR:X R)(hRB:B<=R)(hR6:R<w6.heap.size)(h06:Below w0.heap.size w0 w6)(hs0:w0.heap.size<=s0)(hR0:w0.heap.size<=R)(hRs:R≠s0)(hm:∀ b,MuP jb cb vj vc b->b<w0.heap.size)(q : @StepQ ⟨X⟩ w6 s0 jb cb B vj J nx vc o x w9):
 ∃ (va:Option Addr) (vk:Nat) (wa:Option Addr) (wk:Nat) (v:Value),x = .returned v/\AtL w9 s0 (fsV o.s (.slice va o.s.qh.length vk) (.slice wa o.s.hs.length wk))/\¬ Mu s0 jb cb vj vc R/\Kp w6.heap.size (Mu s0 jb cb vj vc) w6 w9/\∀ w',Kp w9.heap.size (fun b=>b=R) w9 w'->BeginR w0 jb cb B vj J nx vc o (.returned (.tuple #[.agg (fsV o.s (.slice va o.s.qh.length vk) (.slice wa o.s.hs.length wk)).toArray,v])) w':=by
 obtain ⟨v,l,vc',lx',rfl,F9,hc9,ev9,K9,M9,hfull⟩:=q
 obtain ⟨E9,va,vk,wa,wk,S9,hq9,hh9⟩:=F9
 have hRM:∀ vc,(∀ b,b<w6.heap.size->Mu s0 jb cb vj vc b->Mu s0 jb cb vj vc b)->True:=fun _ _=>trivial
 have hn0:¬ Mu s0 jb cb vj vc R:=by
  rintro (e | e)
  ·exact hRs e
  ·have:=hm R e;omega
 have hn9:¬ Mu s0 jb cb vj vc' R:=fun e=>hn0 (M9 R hR6 e)
 refine ⟨va,vk,wa,wk,v,rfl,S9,hn0,K9,fun w' k=>⟨va,vk,wa,wk,v,l,vc',lx',rfl,EnvP.of E9 hX hR hn9 hRB k,hc9,hs_of hq9 hX hR k,hs_of hh9 hX hR k,?_,?_,fun b hb e=>?_,hfull⟩⟩
 ·have h:=evs_of ev9 hX hR hR6 k
  exact ⟨h.eq,own_mono h.own h06.size,h.far,h.hs⟩
 ·refine ⟨k.os.trans (K9.os.trans h06.os),k.tape.trans (K9.tape.trans h06.tape),k.output.trans (K9.output.trans h06.output),Nat.le_trans h06.size (Nat.le_trans K9.size k.size),fun b hb hn=>?_⟩
  have h1:=h06.block b hb
  have hb6:b<w6.heap.size:=Nat.lt_of_lt_of_le hb h06.size
  have h2:=K9.block b hb6 (by
   rintro (e | e)
   ·omega
   ·exact hn e)
  have h3:=k.block b (Nat.lt_of_lt_of_le hb6 K9.size) (by intro e;have e:b=R:=e;omega)
  rw [h3,h2,h1]
 ·rcases M9 b (Nat.lt_of_lt_of_le hb h06.size) (.inr e) with e2 | e2
  ·omega
  ·exact e2
end
abbrev fz:List Value:=fsC 0 ⟨#[]⟩ ⟨#[]⟩ ⟨#[]⟩ 0 (.slice none 0 0) ⟨#[]⟩ false 0 ⟨#[]⟩ ⟨#[]⟩ ⟨#[]⟩ ⟨#[]⟩ ⟨#[]⟩ ⟨#[]⟩ ⟨#[]⟩ 0 false false 0 (.slice none 0 0) ⟨#[]⟩ 0
theorem Kp.setsR {n R:Nat}{w:World}(o:Nat)(vs:List Value):Kp n (fun b=>b=R) w (w.setCells R o vs):=Kp.sets (M:=fun b=>b=R) (.inl rfl) vs (Kp.refl n _ w)
theorem Begin_is [Prot]{w:World}{jb cb B:Nat}{vj vc:Value}{J:List Ck}{nx:Int}{lx:List Ee}{n m:Nat}(E:EnvP w jb cb B vj vc J nx lx)(tk:Int)(me ur og:ByteArray)(mo:Int)(vq:Value)(qh:List Hd)(qb:ByteArray)(ck:Bool)(hq:SlK hdC 2 w vq qh)(hS:SOk (newS tk me ur og mo qh qb ck))(hJ:JOk J)(hC:COk n m (lx.map (·.2)))(hn:n<=880)(hm:m<=800)(now:Int)(o:Out)(ho:beginF J now (newS tk me ur og mo qh qb ck) (lx.map (·.2))=o):
 Calls Tryz.prog 30 #[.agg #[.int .i64 tk,.string me,.string ur,.string og,.int .i64 mo,vq,.string qb,.bool ck],envA jb cb now] w (BeginR w jb cb B vj J nx vc o):=by
 obtain ⟨qa,qc,rfl,_⟩:=hq.shape
 have hql:qh.length<=1000000:=by have:=hS.ql;have e:(newS tk me ur og mo qh qb ck).qh=qh:=rfl;rw [e] at this;omega
 have hcw:=E.lc
 have hBj:=E.bj
 have hlj:=E.lj
 have hal1:=(Below.refl _ w).alloc lr (.cells [.int .i64 tk,.string me,.string ur,.string og,.int .i64 mo,.slice qa qh.length qc,.string qb,.bool ck].toArray 30)
 have hal2:=hal1.alloc (by simp) (.cells [.pointer (some ⟨jb,0,none⟩),.pointer (some ⟨cb,0,none⟩),.int .i64 now].toArray 83)
 have hal3:=hal2.alloc (by simp;omega) (.cells fz.toArray 40)
 have RB3:=((AtL.new w [.int .i64 tk,.string me,.string ur,.string og,.int .i64 mo,.slice qa qh.length qc,.string qb,.bool ck] 30).alloc (.cells [.pointer (some ⟨jb,0,none⟩),.pointer (some ⟨cb,0,none⟩),.int .i64 now].toArray 83)).alloc (.cells fz.toArray 40)
 have VB3:=(AtL.new (w.alloc (.cells [.int .i64 tk,.string me,.string ur,.string og,.int .i64 mo,.slice qa qh.length qc,.string qb,.bool ck].toArray 30)) [.pointer (some ⟨jb,0,none⟩),.pointer (some ⟨cb,0,none⟩),.int .i64 now] 83).alloc (.cells fz.toArray 40)
 have RE3:=AtL.new ((w.alloc (.cells [.int .i64 tk,.string me,.string ur,.string og,.int .i64 mo,.slice qa qh.length qc,.string qb,.bool ck].toArray 30)).alloc (.cells [.pointer (some ⟨jb,0,none⟩),.pointer (some ⟨cb,0,none⟩),.int .i64 now].toArray 83)) fz 40
 rw [show (w.alloc (.cells [.int .i64 tk,.string me,.string ur,.string og,.int .i64 mo,.slice qa qh.length qc,.string qb,.bool ck].toArray 30)).heap.size=w.heap.size+1 by simp] at VB3
 rw [show ((w.alloc (.cells [.int .i64 tk,.string me,.string ur,.string og,.int .i64 mo,.slice qa qh.length qc,.string qb,.bool ck].toArray 30)).alloc (.cells [.pointer (some ⟨jb,0,none⟩),.pointer (some ⟨cb,0,none⟩),.int .i64 now].toArray 83)).heap.size=w.heap.size+1+1 by simp] at RE3
 have CCl:=Lib.hid (fun (w':World) (hb:Below w.heap.size w w')=>clo_is qh (.slice qa qh.length qc) w' (hq.below hb lr) hql)
 have CB:=Lib.hid (fun (X:Nat->Prop) (w':World) (s0:Nat) (F : @FIn ⟨X⟩ w' s0 jb cb B vj J nx vc lx (newS tk me ur og mo qh qb ck))=>@begin_is ⟨X⟩ w' s0 jb cb B vj J nx vc lx (newS tk me ur og mo qh qb ck) n m F hS hJ hC hn hm rfl now o ho)
 have HE:=Lib.hid E
 have r_:=RB3.o8
 have rl3:=RB3.lt
 clear hS hJ hC ho hq hql E
 go_enter Tryz.func30,Tryz.ntmps30
 go_upto_region 3 with (first
  | (go_at_call 69;(with_reducible refine (CCl.out _ hal3).mono ?_);rintro e4 w4 hq4;obtain ⟨vx,vk,rfl,hs4,hb4,hn4⟩:=cloq_open hq4;have RB4:=RB3.next hb4;have VB4:=VB3.next hb4;have RE4:=RE3.next hb4;have hB4:=hal3.trans (hb4.mono hal3.size);clear r_;have r_:=RB4.o8;have g_:=RB4.of8;have rl4:=RB4.lt;have Z6:=AtL.new (w4.setCell ⟨w.heap.size,5,none⟩ (.slice vx qh.length vk)) fz 40;rw [World.size_setCell] at Z6)
  | (refine wpList_store_at rfl 40 _ _ rfl w4.heap.size (fsV (newS tk me ur og mo qh qb ck) (.slice vx qh.length vk) (.slice none 0 0)) rfl rfl Z6 rfl (by kernel_rfl) rfl ?_)
  | fail)
 have RB5:=RB4.set 5 (.slice vx qh.length vk)
 have VB5:=VB4.far ⟨w.heap.size,5,none⟩ (.slice vx qh.length vk) (by simp)
 have RE5:=RE4.far ⟨w.heap.size,5,none⟩ (.slice vx qh.length vk) (by show w.heap.size≠w.heap.size+1+1;omega)
 have hB5:=hB4.setCell (p:=⟨w.heap.size,5,none⟩) lr (.slice vx qh.length vk)
 have hs4z:=hB4.size
 have hws4:=RE4.lt
 have hB6:=Below.sets (k:=w4.heap.size) hs4z (o:=0) (fsV (newS tk me ur og mo qh qb ck) (.slice vx qh.length vk) (.slice none 0 0)) (hB5.alloc (by rw [World.size_setCell];exact hB4.size) (.cells fz.toArray 40))
 have VB6:=AtL.farSets (k:=w4.heap.size) (by omega) (o:=0) (fsV (newS tk me ur og mo qh qb ck) (.slice vx qh.length vk) (.slice none 0 0)) (VB5.alloc (.cells fz.toArray 40))
 have RE6:=AtL.farSets (k:=w4.heap.size) (by omega) (o:=0) (fsV (newS tk me ur og mo qh qb ck) (.slice vx qh.length vk) (.slice none 0 0)) (RE5.alloc (.cells fz.toArray 40))
 have S6:=AtL.sets (vs:=(fsV (newS tk me ur og mo qh qb ck) (.slice vx qh.length vk) (.slice none 0 0))) Z6 rfl
 have K46:=Kp.sets (n:=w4.heap.size) (M:=fun b=>b=w.heap.size) (k:=w4.heap.size) (.inr lr) (o:=0) (fsV (newS tk me ur og mo qh qb ck) (.slice vx qh.length vk) (.slice none 0 0)) (((Kp.refl w4.heap.size (fun b=>b=w.heap.size) w4).setCell ⟨w.heap.size,5,none⟩ (.inl rfl) (.slice vx qh.length vk)).below ((Below.refl _ _).alloc lr (.cells fz.toArray 40)) (by rw [World.size_setCell];exact lr))
 have hs6:=slk_kp hs4 (fun _ b off n k e (hm:b=w.heap.size)=>by have:=hn4 b off n k e;simp at this;omega) K46 lr
 obtain ⟨w6,hw6⟩:∃ w6:World,((w4.setCell ⟨w.heap.size,5,none⟩ (.slice vx qh.length vk)).alloc (.cells fz.toArray 40)).setCells w4.heap.size 0 (fsV (newS tk me ur og mo qh qb ck) (.slice vx qh.length vk) (.slice none 0 0))=w6:=⟨_,rfl⟩
 obtain ⟨s0,hs0⟩:∃ s0,w4.heap.size=s0:=⟨_,rfl⟩
 have hws:w.heap.size+1+1<s0:=by omega
 rw [hw6] at hB6 VB6 RE6 S6 hs6
 rw [hs0] at S6
 rw [hw6,hs0]
 have F6 : @FIn ⟨fun b=>Prot.x b\/b=w.heap.size+1+1⟩ w6 s0 jb cb B vj J nx vc lx (newS tk me ur og mo qh qb ck):=by
  have hEn:=HE.out.mk' (X:=fun b=>Prot.x b\/b=w.heap.size+1+1) hB6 (by omega) S6.lt (fun b h=>h.imp id fun e=>by omega) (fun b h=>by
   rcases h with h | h
   ·have:=HE.out.px b h;have:=hB6.size;omega
   ·rw [h];exact RE6.lt)
  refine @FIn.mk ⟨fun b=>Prot.x b\/b=w.heap.size+1+1⟩ _ _ _ _ _ _ _ _ _ _ _ hEn ⟨vx,vk,none,0,S6,⟨hs6,fun _ b off n k e hm=>?_⟩,@Hs.nil ⟨fun b=>Prot.x b\/b=w.heap.size+1+1⟩ _ _⟩
  have h1:=hn4 b off n k e
  have h2:b<s0:=by rw [<-hs0];exact slk_lt hs4 ‹_› e
  simp at h1
  rcases hm with (h | h) | h | h
  ·omega
  ·have:=HE.out.mlt b h;omega
  ·have:=HE.out.px b h;omega
  ·omega
 have CB6:=Lib.hid (CB.out _ w6 s0 F6)
 have HB6:=Lib.hid hB6
 have HM:=Lib.hid HE.out.mlt
 clear hw6 hs0 Z6 hws4 VB3 VB4 VB5 RE3 RE4 RE5 RB3 RB4 hB4 hB5 hB6 hb4 hs4 hn4 hal1 hal2 hal3 rl3 rl4 r_ g_ F6 CB K46 hs6 RB5 S6
 have v_:=VB6.o3
 have vl6:=VB6.lt
 go_wp2_with (first
  | (go_at_call 70;(with_reducible refine CB6.out.mono ?_);rintro e9 w9 hq9;obtain ⟨va9,vk9,wa9,wk9,v9,rfl,S9,hn9,K9,HFIN⟩:=BeginR.of (fun b h=>.inl h) (.inr rfl) (by omega) RE6.lt HB6.out (by omega) (by omega) (by omega) HM.out hq9;have HF:=Lib.hid HFIN;clear HFIN;have RE9:=RE6.kp K9 RE6.lt hn9)
  | (refine wpList_load_at rfl 40 _ rfl s0 rfl S9 Tryz.underlying40 rfl (by kernel_rfl) ?_)
  | (refine wpList_store_at rfl 40 _ _ rfl (w.heap.size+1+1) (fsV o.s (.slice va9 o.s.qh.length vk9) (.slice wa9 o.s.hs.length wk9)) rfl rfl RE9 rfl (by kernel_rfl) rfl ?_)
  | fail)
 have A:=AtL.sets (vs:=fsV o.s (.slice va9 o.s.qh.length vk9) (.slice wa9 o.s.hs.length wk9)) RE9 rfl
 exact bodyPost_ret (retct_run (vs:=fsV o.s (.slice va9 o.s.qh.length vk9) (.slice wa9 o.s.hs.length wk9)) Tryz.results30 Tryz.sizeOf40 Tryz.isAgg40 _ _ _ _ rfl rfl A) rfl (HF.out _ (Kp.setsR 0 _))
end Go.Proofs.YtjdhaacmlpegoaaGreatDoor
