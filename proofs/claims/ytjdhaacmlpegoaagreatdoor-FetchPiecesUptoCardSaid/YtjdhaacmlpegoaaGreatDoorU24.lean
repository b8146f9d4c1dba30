/- Part 24 of what the proof needs: YJ YO YL0 YL YP YQ YR. -/
import Derived.Test.YtjdhaacmlpegoaaGreatDoorU23
set_option maxRecDepth 20000
set_option maxHeartbeats 16000000
set_option linter.unusedSimpArgs false
set_option linter.unusedVariables false
namespace Go.Proofs.YtjdhaacmlpegoaaGreatDoor
open Go.RowKit
section
variable {w w' : World} {s0 jb cb B : Nat} {vj vc : Value} {J : List Ck} {nx : Int} {lx : List Ee} {X X' M : Nat → Prop}
theorem hs_re {N:Nat->Prop}{u:Value}{hs:List Hd}(h : @Hs ⟨X⟩ N w u hs)(k:Kp w.heap.size M w w')(hM:∀ b,b<w.heap.size->M b->X b)(hX:∀ b,X' b->X b\/w.heap.size<=b): @Hs ⟨X'⟩ N w' u hs:=
 ⟨slk_kp h.1 (fun h0 b off n c e hm=>h.2 h0 b off n c e (.inr (hM b (slk_lt h.1 h0 e) hm))) k lr,fun h0 b off n c e hm=>by
  rcases hm with hm | hm
  ·exact h.2 h0 b off n c e (.inl hm)
  ·rcases hX b hm with h1 | h1
   ·exact h.2 h0 b off n c e (.inr h1)
   ·have:=slk_lt h.1 h0 e;omega⟩
theorem env_re (h : @EnvIn ⟨X⟩ w s0 jb cb B vj vc J nx lx)(k:Kp w.heap.size M w w')(hM:∀ b,b<w.heap.size->M b->X b)(hN:∀ b,M b->¬ Mu s0 jb cb vj vc b)(hB:∀ b,M b->B<=b)(hX:∀ b,X' b->X b\/w.heap.size<=b)(hX2:∀ b,X' b->b<w'.heap.size): @EnvIn ⟨X'⟩ w' s0 jb cb B vj vc J nx lx:=by
 obtain ⟨hmx,hgm,hbs,hbj,hbc,hls,hsj,hsc,hjc,hjar,hca,hjs,hjcb,hcs,hcj,hjr,hf,hpx⟩:=h;have lG:0<w.heap.size:=by omega
 have hn:∀ {hs:List Hd} {u:Value},SlK hdC 2 w u hs->FarM (@Px ⟨X⟩ (Mu s0 jb cb vj vc)) hs u->SlK hdC 2 w' u hs/\FarM (@Px ⟨X'⟩ (Mu s0 jb cb vj vc)) hs u:=fun h1 h2=>@hs_re w w' X X' M (Mu s0 jb cb vj vc) _ _ ⟨h1,h2⟩ k hM hX;refine @EnvIn.mk ⟨X'⟩ w' s0 jb cb B vj vc J nx lx ?_ hgm hbs hbj hbc (Ko hls k.size) hsj hsc hjc ⟨hjar.at_.kp k hjar.at_.lt (fun e=>hN _ e (.inr (.inl rfl))),own_kp hjar.own k lr (fun g hg e=>hN g e (.inr (.inr (.inr (.inl hg))))),hjar.ne,Kg hjar.le k.size⟩ ⟨hca.at_.kp k hca.at_.lt (fun e=>hN _ e (.inr (.inr (.inl rfl)))),own_kp hca.own k lr (fun g hg e=>hN g e (.inr (.inr (.inr (.inr hg))))),hca.ne,Kg hca.le k.size,fun x hx=>?_,hca.far⟩ hjs hjcb hcs hcj hjr (fun x hx=>⟨(hn (hca.rd x hx).va (hf x hx).1).2,(hn (hca.rd x hx).hd (hf x hx).2).2⟩) hX2
 ·obtain ⟨m,hm⟩:=hmx;exact ⟨m,(k.cell (b:=0) (o:=0) lG (fun e=>by have:=hB _ e;omega)).trans hm⟩
 ·have hr:=hca.rd x hx;exact ⟨hr.u,hr.st,hr.bo,hr.ti,(hn hr.va (hf x hx).1).1,(hn hr.hd (hf x hx).2).1⟩
theorem fin_re {S:FSt}(h : @FIn ⟨X⟩ w s0 jb cb B vj J nx vc lx S)(k:Kp w.heap.size M w w')(hM:∀ b,b<w.heap.size->M b->X b)(hN:∀ b,M b->¬ Mu s0 jb cb vj vc b)(hB:∀ b,M b->B<=b)(hX:∀ b,X' b->X b\/w.heap.size<=b)(hX2:∀ b,X' b->b<w'.heap.size): @FIn ⟨X'⟩ w' s0 jb cb B vj J nx vc lx S:=by obtain ⟨E,va,vk,wa,wk,S0,hq,hh⟩:=h;exact @FIn.mk ⟨X'⟩ _ _ _ _ _ _ _ _ _ _ _ (env_re E k hM hN hB hX hX2) ⟨va,vk,wa,wk,S0.kp k S0.lt (fun e=>hN _ e (.inl rfl)),hs_re hq k hM hX,hs_re hh k hM hX⟩
end
def RX (w:World)(fl:Bool)(v:Value)(b:Nat):Prop:=b<w.heap.size+4\/(fl=true/\v.ownBlock=some b)
abbrev wz:List Value:=[.slice none 0 0,.int .i64 0,.slice none 0 0,.int .i64 0]
structure RunF (w:World)(jb cb V:Nat)(now:Int)(Lw:List Value)(wx:World):Prop where
 b:Below w.heap.size w wx
 v:AtL wx V (envL jb cb now)
 w0:AtL wx w.heap.size Lw
 r6:AtL wx (w.heap.size+2) fz
 r8:AtL wx (w.heap.size+3) wz
def RunA (w:World)(jb cb s1 V:Nat)(now:Int)(Lw:List Value)(r:Rn)(v:Value)(wx:World):Prop:=
 ∃ (fl:Bool) (vj vc:Value) (lx:List Ee) (l:List (Value × Ev)),@FIn ⟨RX w fl v⟩ wx s1 jb cb (w.heap.size+4) vj r.j.1 r.j.2 vc lx r.s/\lx.map (·.2)=r.c/\@Evs ⟨RX w fl v⟩ (Mu s1 jb cb vj vc) (V+1) wx v l r.ev/\RunF w jb cb V now Lw wx/\¬ Mu s1 jb cb vj vc V/\w.heap.size+4<=V/\(fl=true\/(∃ a n,v = .slice a n n)\/(r.s.ph=3\/r.s.ph=4))
def RunB (w:World)(jb cb s1 V:Nat)(now:Int)(Lw:List Value)(s:FSt)(j:List Ck × Int)(c:List En)(ev ev2:List Ev)(v v2:Value)(wx:World):Prop:=
 ∃ (fl:Bool) (vj vc:Value) (lx:List Ee) (l l2:List (Value × Ev)),@FIn ⟨RX w fl v⟩ wx s1 jb cb (w.heap.size+4) vj j.1 j.2 vc lx s/\lx.map (·.2)=c/\@Evs ⟨RX w fl v⟩ (Mu s1 jb cb vj vc) (V+1) wx v l ev/\@Evs ⟨RX w fl v⟩ (Mu s1 jb cb vj vc) (V+1) wx v2 l2 ev2/\RunF w jb cb V now Lw wx/\¬ Mu s1 jb cb vj vc V/\w.heap.size+4<=V/\(fl=true\/(∃ a n,v = .slice a n n)\/((s.ph=3\/s.ph=4)/\ev2=[]))
section
variable {w wx w' : World} {jb cb s1 V : Nat} {now : Int} {Lw : List Value} {r : Rn} {v v2 v' : Value} {fl : Bool}
theorem RunF.kp {M:Nat->Prop}(h:RunF w jb cb V now Lw wx)(k:Kp wx.heap.size M wx w')(hM:∀ b,M b->w.heap.size+4<=b/\b≠V):RunF w jb cb V now Lw w':=
 ⟨⟨k.os.trans h.b.os,k.tape.trans h.b.tape,k.output.trans h.b.output,Kg h.b.size k.size,fun b hb=>(k.block b (Ko hb h.b.size) (fun e=>by have:=(hM b e).1;omega)).trans (h.b.block b hb)⟩,h.v.kp k h.v.lt (fun e=>(hM V e).2 rfl),h.w0.kp k h.w0.lt (fun e=>by have:=(hM _ e).1;omega),h.r6.kp k h.r6.lt (fun e=>by have:=(hM _ e).1;omega),h.r8.kp k h.r8.lt (fun e=>by have:=(hM _ e).1;omega)⟩
theorem RunA.below (h:RunA w jb cb s1 V now Lw r v wx)(k:Below wx.heap.size wx w'):RunA w jb cb s1 V now Lw r v w':=by obtain ⟨fl,vj,vc,lx,l,F,hc,E,R,hV,hN,hf⟩:=h;exact ⟨fl,vj,vc,lx,l,@FIn.below ⟨RX w fl v⟩ _ _ _ _ _ _ _ _ _ _ _ _ F k,hc,@Evs.below ⟨RX w fl v⟩ _ _ _ _ _ _ _ E k,R.kp (Kp.of_below (M:=fun _=>False) k lr) (fun b e=>e.elim),hV,hN,hf⟩
theorem RunA.head {vj vc:Value}{lx:List Ee}{l:List (Value × Ev)}{j:List Ck × Int}{o:Out}(F : @FIn ⟨RX w fl v⟩ wx s1 jb cb (w.heap.size+4) vj r.j.1 r.j.2 vc lx r.s)(E : @Evs ⟨RX w fl v⟩ (Mu s1 jb cb vj vc) (V+1) wx v l r.ev)(R:RunF w jb cb V now Lw wx)(hV:¬ Mu s1 jb cb vj vc V)(hN:w.heap.size+4<=V)(hf:fl=true\/(∃ a n,v = .slice a n n)\/(r.s.ph=3\/r.s.ph=4))(hd:r.s.ph=3\/r.s.ph=4->o.s=r.s/\o.ev=[]){x:Ending}(q : @HeadQ ⟨RX w fl v⟩ wx s1 jb cb (w.heap.size+4) vj vc j o x w'):
 ∃ v2,x = .returned v2/\RunB w jb cb s1 V now Lw o.s j o.c r.ev o.ev v v2 w':=by
 obtain ⟨v2,l2,vj',vc',lx',h1,h2,h3,h4,h5,h6⟩:=q;have hVl:=R.v.lt;refine ⟨v2,h1,fl,vj',vc',lx',l,l2,h2,h3,@Evs.kp ⟨RX w fl v⟩ _ _ _ _ _ _ _ _ _ E h5 lr h6,?_,R.kp h5 (fun b e=>⟨@EnvIn.mge ⟨RX w fl v⟩ _ _ _ _ _ _ _ _ _ _ (@FIn.env ⟨RX w fl v⟩ _ _ _ _ _ _ _ _ _ _ _ F) b e,fun e2=>hV (e2 ▸ e)⟩),fun e=>hV (h6 V hVl e),hN,?_⟩
 ·exact @Evs.mk ⟨RX w fl v⟩ _ _ _ _ _ _ (@Evs.eq ⟨RX w fl v⟩ _ _ _ _ _ _ h4) (own_mono (@Evs.own ⟨RX w fl v⟩ _ _ _ _ _ _ h4) (by omega)) (@Evs.far ⟨RX w fl v⟩ _ _ _ _ _ _ h4) (@Evs.hs ⟨RX w fl v⟩ _ _ _ _ _ _ h4)
 ·rcases hf with h | h | h
  ·exact .inl h
  ·exact .inr (.inl h)
  ·obtain ⟨e1,e2⟩:=hd h;exact .inr (.inr ⟨by rw [e1];exact h,e2⟩)
theorem step_head {X:Nat->Prop}{s0 B:Nat}{vj vc:Value}{J:List Ck}{nx:Int}{o:Out}{x:Ending}(q : @StepQ ⟨X⟩ wx s0 jb cb B vj J nx vc o x w'): @HeadQ ⟨X⟩ wx s0 jb cb B vj vc (J,nx) o x w':=by obtain ⟨v,l,vc',lx,h1,h2,h3,h4,h5,h6,_⟩:=q;exact ⟨v,l,vj,vc',lx,h1,h2,h3,h4,h5,h6⟩
theorem RunB.app {s:FSt}{j:List Ck × Int}{c:List En}{ev ev2:List Ev}{l l2:List (Value × Ev)}{vj vc:Value}{lx:List Ee}(F : @FIn ⟨RX w fl v⟩ wx s1 jb cb (w.heap.size+4) vj j.1 j.2 vc lx s)(hc:lx.map (·.2)=c)(E : @Evs ⟨RX w fl v⟩ (Mu s1 jb cb vj vc) (V+1) wx v l ev)(E2 : @Evs ⟨RX w fl v⟩ (Mu s1 jb cb vj vc) (V+1) wx v2 l2 ev2)(R:RunF w jb cb V now Lw wx)(hV:¬ Mu s1 jb cb vj vc V)(hN:w.heap.size+4<=V)(hf:fl=true\/(∃ a n,v = .slice a n n)\/((s.ph=3\/s.ph=4)/\ev2=[]))
 (ho:w'.ownsRow (V+1) 48 7 v' (l.length+l2.length) (cellsK evC l ++ cellsK evC l2)) (g:(fl=true/\wx.grownBy w' v.ownBlock/\∀ b,v'.ownBlock=some b->v.ownBlock=some b\/wx.heap.size<=b)\/(Below wx.heap.size wx w'/\(v'=v\/∀ b,v'.ownBlock=some b->wx.heap.size<=b))):RunA w jb cb s1 V now Lw ⟨s,j,c,ev ++ ev2⟩ v' w':=by
 have Eo:=@Evs.own ⟨RX w fl v⟩ _ _ _ _ _ _ E
 have hE:=@Evs.far ⟨RX w fl v⟩ _ _ _ _ _ _ E
 have hb:∀ b,v.ownBlock=some b->V+1<=b:=fun b h=>own_base Eo h
 -- the blocks that were written,and what is kept free from here on
 obtain ⟨M,fl',k,hM,hMv,hX,hv,hf'⟩:∃ (M:Nat->Prop) (fl':Bool),Kp wx.heap.size M wx w'/\(∀ b,M b->RX w fl v b)/\(∀ b,M b->v.ownBlock=some b)/\(∀ b,RX w fl' v' b->RX w fl v b\/wx.heap.size<=b)/\(∀ b,v'.ownBlock=some b->v.ownBlock=some b\/wx.heap.size<=b)/\(fl'=true\/(∃ a n,v' = .slice a n n)\/(s.ph=3\/s.ph=4)):=by
  rcases g with ⟨rfl,g,hv⟩ | ⟨k,rfl | hv⟩
  ·refine ⟨fun b=>v.ownBlock=some b,true,⟨g.os,g.tape,g.output,g.size,fun i hi hm=>g.block i hi (fun e=>hm e.symm)⟩,fun b h=>.inr ⟨rfl,h⟩,fun b h=>h,fun b h=>?_,hv,.inl rfl⟩
   rcases h with h | ⟨_,h⟩
   ·exact .inl (.inl h)
   ·exact (hv b h).imp (fun h=>.inr ⟨rfl,h⟩) id
  ·exact ⟨fun _=>False,fl,Kp.of_below k lr,fun b h=>h.elim,fun b h=>h.elim,fun b h=>.inl h,fun b h=>.inl h,hf.imp id (Or.imp id And.left)⟩
  ·refine ⟨fun _=>False,true,Kp.of_below k lr,fun b h=>h.elim,fun b h=>h.elim,fun b h=>?_,fun b h=>.inr (hv b h),.inl rfl⟩
   rcases h with h | ⟨_,h⟩
   ·exact .inl (.inl h)
   ·exact .inr (hv b h)
 have hX2:∀ b,RX w fl' v' b->b<w'.heap.size:=fun b h=>by
  rcases h with h | ⟨_,h⟩
  ·have:=R.v.lt;have:=k.size;omega
  ·exact (ho.lt b h).2
 refine ⟨fl',vj,vc,lx,l ++ l2,fin_re F k (fun b _ h=>hM b h) (fun b h=>hE b (hMv b h)) (fun b h=>by have:=hb b (hMv b h);omega) hX hX2,hc,?_,R.kp k (fun b h=>⟨by have:=hb b (hMv b h);omega,fun e=>by have:=hb b (hMv b h);omega⟩),hV,hN,hf'⟩
 refine @Evs.mk ⟨RX w fl' v'⟩ _ _ _ _ _ _ ?_ (own_eq ho (by rw [Kw]) (by rw [cellsK_app])) (fun b h e=>?_) (fun r hr=>?_)
 ·rw [Zi,@Evs.eq ⟨RX w fl v⟩ _ _ _ _ _ _ E,@Evs.eq ⟨RX w fl v⟩ _ _ _ _ _ _ E2]
 ·rcases hv b h with h1 | h1
  ·exact hE b h1 e
  ·have:=@EnvIn.mlt ⟨RX w fl v⟩ _ _ _ _ _ _ _ _ _ _ (@FIn.env ⟨RX w fl v⟩ _ _ _ _ _ _ _ _ _ _ _ F) b e;omega
 ·rcases Kz.1 hr with h1 | h1
  ·exact hs_re (@Evs.hs ⟨RX w fl v⟩ _ _ _ _ _ _ E r h1) k (fun b _ h=>hM b h) hX
  ·exact hs_re (@Evs.hs ⟨RX w fl v⟩ _ _ _ _ _ _ E2 r h1) k (fun b _ h=>hM b h) hX
end
theorem run_append_zero {P:Program}{w:World}(base:Nat)(t ty e:TypeId)(i:TypeInfo)(size:Nat)(ht:P.underlying t=some (.slice e))(hi:P.info? e=some i)
 (v:Value) (n:Nat) (xs:List Value) (hown:w.ownsRow base e size v n xs) (A:Option Addr) (c:Nat):(Builtin.append_ #[t,t] ty #[v,.slice A 0 c]).run P w = .ok v w:=by
 have hfc:(Builtin.firstCells i.size 0 (.slice A 0 c)).run P w = .ok #[] w:=by
  cases A with
  | none=>rfl
  | some ad=>exact run_firstCells_some (P:=P) w i.size 0 ad 0 c [] (by simp) (by simp)
 have hst:∀ p:Addr,(storeCells p []).run P w = .ok () w:=fun p=>by simp [storeCells]
 rcases hown.2 with ⟨rfl,rfl⟩ | ⟨g,cap,cur,rfl,_,_,hnc,_⟩
 ·simp [Builtin.append_,run_underlying ht,sizeOf,typeInfo,hi,Builtin.lenOf,hfc]
 ·simp [Builtin.append_,run_underlying ht,sizeOf,typeInfo,hi,Builtin.lenOf,hfc,hnc,hst]
theorem StepQ.shp [Prot]{w w':World}{s0 jb cb B:Nat}{vj:Value}{J:List Ck}{nx:Int}{vc:Value}{o:Out}{x:Ending}(h:StepQ w s0 jb cb B vj J nx vc o x w'):∃ a n c,x = .returned (.slice a n c):=by obtain ⟨v,l,vc',lx',h1,_,_,h4,_⟩:=h;obtain ⟨a,c,rfl,_⟩:=own_reads h4.own;exact ⟨a,_,c,h1⟩
theorem Lost_is [Prot]{w:World}{s0 jb cb B:Nat}{vj:Value}{J:List Ck}{nx:Int}{vc:Value}{lx:List Ee}{S:FSt}(F:FIn w s0 jb cb B vj J nx vc lx S):
 Calls Tryz.prog 36 #[.pointer (some ⟨s0,0,none⟩)] w (StepQ w s0 jb cb B vj J nx vc ⟨(stopF 17 S).1,lx.map (·.2),(stopF 17 S).2⟩):=by
 have CS:=Kb (stop_is F 17);clear F;go_enter Tryz.func36,Tryz.ntmps36;go_wp2_with ((with_reducible refine CS.out.mono ?_);rintro e1 w1 hq1;have HQ:=Kb hq1;obtain ⟨sa,sn,sc,rfl⟩:=hq1.shp;clear hq1)
 go_ret;exact HQ.out
theorem Abort_is [Prot]{w:World}{s0 jb cb B:Nat}{vj:Value}{J:List Ck}{nx:Int}{vc:Value}{lx:List Ee}{S:FSt}(F:FIn w s0 jb cb B vj J nx vc lx S):
 Calls Tryz.prog 37 #[.pointer (some ⟨s0,0,none⟩)] w (StepQ w s0 jb cb B vj J nx vc ⟨(stopF 18 S).1,lx.map (·.2),(stopF 18 S).2⟩):=by
 have CS:=Kb (stop_is F 18);clear F;go_enter Tryz.func37,Tryz.ntmps37;go_wp2_with ((with_reducible refine CS.out.mono ?_);rintro e1 w1 hq1;have HQ:=Kb hq1;obtain ⟨sa,sn,sc,rfl⟩:=hq1.shp;clear hq1)
 go_ret;exact HQ.out
theorem step_appS {P:Program}{T E size bytes:Nat}(ty:SlTy P T E size bytes)(W:World){ops:Array Oper}{o:Oper}{a:Act}{K:Act->World->Prop}{Q:Exit->Act->World->Prop}{Ep:Prop}
 (hgd:o.guard=none) (s x:Operand) (ho:o.op = .call { callee:=.builtin .append,args:=#[s,x],argTypes:=#[T,T] })
 (B:Nat) (v:Value) (hs:a.eval s=v) (hown:W.ownsRow B E size v 0 []) (news:List Value) (ad:Addr) (m c:Nat)
 (hx:a.eval x = .slice (some ad) m c) (hc:∀ j u,news[j]? = some u->W.cell? (ad.add j)=some u) (hl:news.length=m * size) (h1:∀ u∈news,u.oneCell'=true)
 (hm:0<m) (hb:m * bytes<=140737488355328) (hn:m<=140737488355328) (hB:B<=W.heap.size)
 (h:∀ g cap w',w'.ownsRow B E size (.slice (some ⟨g,0,none⟩) m cap) m news->W.grownBy w' v.ownBlock->(v.ownBlock=some g\/g=W.heap.size)->K (a.put o.dst (.slice (some ⟨g,0,none⟩) m cap)) w') :
 if Region.wanted o (yielded ops a.tmps)=true then Oper.wp P o a W K Q else Ep:=by obtain ⟨hu,⟨i,z,hi,hz,h2,h3,h4⟩,hp⟩:=ty;refine step_append_lies _ hgd s x T ho B E i z size bytes hu hi hz h2 h3 h4 hp v 0 [] hs hown ad m c news hx hl hc h1 hm (by unfold maxLen;omega) (by rw [Jm];exact hb) hB W.heap.size rfl fun g cap w' a1 a2 a3 _=>?_;rw [Jm] at a1 ⊢;exact h g cap w' a1 a2 a3
def JarN (w1:World)(l:List Ck)(nx:Int)(c9:Value)(w':World):Prop:=∃ (jb:Nat) (v':Value),.pointer (some ⟨jb,0,none⟩)=c9/\w1.heap.size<=jb/\JarIn w' jb w1.heap.size v' l nx/\Below w1.heap.size w1 w'
theorem JarN.drew {w1 w2:World}{l:List Ck}{nx:Int}{c:Value}(h:JarN w1 l nx c w2):JarN w1 l nx c w2.drew:=by obtain ⟨jb,v,h1,h2,h3,h4⟩:=h;exact ⟨jb,v,h1,h2,h3.below (Kc w2).drew lr,h4.drew⟩
theorem jarn_mk {w1 w2:World}{l:List Ck}{nx:Int}{v:Value}(ho:w2.ownsRow w1.heap.size 88 9 v l.length (cellsK ckL l))(hb:Below w1.heap.size w1 w2):
 JarN w1 l nx (.pointer (some ⟨w2.heap.size,0,none⟩)) (w2.alloc (.cells #[v,.int .i64 nx] 24)):=by have hal:=(Kc w2).alloc lr (.cells #[v,.int .i64 nx] 24);refine ⟨_,v,rfl,hb.size,⟨AtL.new w2 [v,.int .i64 nx] 24,own_below ho hal lr,fun e=>?_,Kg hb.size hal.size⟩,hb.trans (hal.mono hb.size)⟩;have:=(ho.lt _ e).2;omega
theorem cell_set2 {W:World}{b k o:Nat}{u x y:Value}(h:W.cell? ⟨b,o,none⟩=some u)(hk:b≠k):((W.setCell ⟨k,0,none⟩ x).setCell ⟨k,1,none⟩ y).cell? ⟨b,o,none⟩=some u:=
 (World.cell?_setCell_other _ _ _ _ (fun q=>hk (Kq Addr.block q).symm)).trans ((World.cell?_setCell_other _ _ _ _ (fun q=>hk (Kq Addr.block q).symm)).trans h)
theorem jarn_mk2 {w1 w2:World}{l:List Ck}{nx:Int}{v:Value}{jb:Nat}(hj:w1.heap.size<=jb)(hA:AtL w2 jb [v,.int .i64 nx])(ho:w2.ownsRow w1.heap.size 88 9 v l.length (cellsK ckL l))(hn:v.ownBlock≠some jb)(hb:Below w1.heap.size w1 w2):JarN w1 l nx (.pointer (some ⟨jb,0,none⟩)) w2:=⟨jb,v,rfl,hj,⟨hA,ho,hn,hb.size⟩,hb⟩
theorem jarn_s {w1 w2:World}{l:List Ck}{nx:Int}{v:Value}{jb:Nat}{x y:Value}(hj:w1.heap.size<=jb)(hA:AtL w2 jb [x,y])(ho:w2.ownsRow w1.heap.size 88 9 v l.length (cellsK ckL l))(hn:v.ownBlock≠some jb)(hb:Below w1.heap.size w1 w2):JarN w1 l nx (.pointer (some ⟨jb,0,none⟩)) ((w2.setCell ⟨jb,0,none⟩ v).setCell ⟨jb,1,none⟩ (.int .i64 nx)):=
 jarn_mk2 hj ((hA.set 0 v).set 1 (.int .i64 nx)) (ownsRow_setCell_other (a:=⟨jb,1,none⟩) (ownsRow_setCell_other (a:=⟨jb,0,none⟩) ho hn v) hn _) hn ((hb.setCell (p:=⟨jb,0,none⟩) hj _).setCell (p:=⟨jb,1,none⟩) hj _)
theorem jarn_e (w1:World)(nx:Int):JarN w1 [] nx (.pointer (some ⟨w1.heap.size,0,none⟩)) ((w1.alloc (.cells #[.slice (some ⟨w1.heap.size+1,0,none⟩) 0 0,.int .i64 nx] 24)).alloc (.cells #[] 88)).drew:=by
 have ho:=own_z0 (w1.alloc (.cells #[.slice (some ⟨w1.heap.size+1,0,none⟩) 0 0,.int .i64 nx] 24)) 88 9;have hs:(w1.alloc (.cells #[.slice (some ⟨w1.heap.size+1,0,none⟩) 0 0,.int .i64 nx] 24)).heap.size=w1.heap.size+1:=by simp
 rw [hs] at ho;exact jarn_mk2 lr ((AtL.new w1 [.slice (some ⟨w1.heap.size+1,0,none⟩) 0 0,.int .i64 nx] 24).alloc (.cells #[] 88)).drew (own_below (own_mono ho (by omega)) (Kc _).drew lr) (by simp [Value.ownBlock]) (((Kc w1).alloc lr _).alloc (by rw [hs];omega) _).drew
theorem jar_o1 (w1:World):(w1.alloc (.cells #[] 88)).drew.ownsRow w1.heap.size 88 9 (.slice (some ⟨w1.heap.size,0,none⟩) 0 0) 0 []:=own_zero w1 88 9
theorem jar_o2 (w1:World):((w1.alloc (.cells #[] 88)).alloc (.cells #[.slice none 0 0,.int .i64 0] 24)).drew.ownsRow w1.heap.size 88 9 (.slice (some ⟨w1.heap.size,0,none⟩) 0 0) 0 []:=own_below (own_z0 w1 88 9) ((Kc _).alloc lr _).drew lr
theorem jar_o3 (w1:World):((w1.alloc (.cells #[.slice none 0 0,.int .i64 0] 24)).alloc (.cells #[] 88)).drew.ownsRow w1.heap.size 88 9 (.slice (some ⟨w1.heap.size+1,0,none⟩) 0 0) 0 []:=by
 have ho:=own_z0 (w1.alloc (.cells #[.slice none 0 0,.int .i64 0] 24)) 88 9;have hs:(w1.alloc (.cells #[.slice none 0 0,.int .i64 0] 24)).heap.size=w1.heap.size+1:=by simp
 rw [hs] at ho;exact own_below (own_mono ho (by omega)) (Kc _).drew lr
def RunQ (w:World)(now:Int)(r:Rn)(x:Ending)(w':World):Prop:=
 ∃ (va : Option Addr) (vk : Nat) (wa : Option Addr) (wk : Nat) (ea : Option Addr) (ek : Nat) (l : List (Value × Ev)) (ja : Option Addr) (jk : Nat) (ca : Option Addr) (ck : Nat) (lx : List Ee), x = .returned (.tuple #[.agg (fsV r.s (.slice va r.s.qh.length vk) (.slice wa r.s.hs.length wk)).toArray, .slice ea l.length ek, .agg #[.slice ja r.j.1.length jk, .int .i64 r.j.2, .slice ca lx.length ck, .int .i64 now]]) ∧
   (SlK hdC 2 w' (.slice va r.s.qh.length vk) r.s.qh/\SlK hdC 2 w' (.slice wa r.s.hs.length wk) r.s.hs)/\(w'.ownsRow w.heap.size 48 7 (.slice ea l.length ek) l.length (cellsK evC l)/\l.map (·.2)=r.ev/\∀ y∈l,SlK hdC 2 w' y.1 y.2.hs)/\SlK ckL 9 w' (.slice ja r.j.1.length jk) r.j.1/\(SlK eeC 6 w' (.slice ca lx.length ck) lx/\(∀ x∈lx,Rd w' x.1 x.2)/\lx.map (·.2)=r.c)/\Below w.heap.size w w'
theorem env_new {Wb jb J0:Nat}{w1 w2 w6:World}{vj:Value}{J:List Ck}{nx:Int}{ea:Option Addr}{n ek:Nat}{l2:List Ee}(hM:MaxAt w6)(hG:0<Wb+4)(hj:JarIn w1 jb (Wb+4) vj J nx)(hjb:Wb+4<=jb)(h1:Wb+4<=w1.heap.size)(RI:RowIn w2 J0 w1.heap.size (.slice ea n ek) l2)(hnew:∀ y∈l2,NewE y w1.heap.size)(hb:Below w1.heap.size w1 w2)(hA:AtL w6 w2.heap.size [.slice ea n ek])(hb6:Below w2.heap.size w2 w6):
 @EnvP ⟨fun b=>b<Wb+4⟩ w6 jb w2.heap.size (Wb+4) vj (.slice ea n ek) J nx l2:=by
 have hjl:=hj.at_.lt;have hs:=hb.size;have ho:∀ g,(Value.slice ea n ek).ownBlock=some g->w1.heap.size<=g/\g<w2.heap.size:=fun g hg=>⟨own_base RI.own hg,(RI.own.lt g hg).2⟩
 have hv:∀ g,vj.ownBlock=some g->g<w1.heap.size:=fun g hg=>(hj.own.lt g hg).2;have b26:Below w1.heap.size w1 w6:=hb.trans (hb6.mono hs);have far:∀ (hs:List Hd) (u:Value),SlK hdC 2 w2 u hs->FarV hs u J0 (Value.slice ea n ek).ownBlock->(∀ b off m c,u = .slice (some ⟨b,off,none⟩) m c->w1.heap.size<=b)->FarM (@Px ⟨fun b=>b<Wb+4⟩ (MuP jb w2.heap.size vj (.slice ea n ek))) hs u:=fun hs u hs1 hf hn h0 b off m c e hm=>by
  have hb1:=hn b off m c e;have hb2:=slk_lt hs1 h0 e;rcases hm with (e1 | e1 | e1 | e1) | e1
  ·omega
  ·omega
  ·have:=hv b e1;omega
  ·exact (hf h0 b off m c e).2 e1
  ·have e1:b<Wb+4:=e1;omega
 refine @EnvP.mk ⟨fun b=>b<Wb+4⟩ w6 jb w2.heap.size (Wb+4) vj (.slice ea n ek) J nx l2 hM hG hjb (by omega) (by omega) (hj.below b26 lr) ⟨hA,own_below (own_mono RI.own h1) hb6 lr,fun e=>by have:=(ho _ e).2;omega,by have:=hb6.size;omega,fun x hx=>(RI.rd x hx).below hb6 lr,fun x hx=>⟨fun h0 b off m c e=>?_,fun h0 b off m c e=>?_⟩⟩ (fun e=>by have:=hv _ e;omega) (fun e=>by have:=(ho _ e).1;omega) (fun g hg e=>by have:=hv g hg;have:=(ho g e).1;omega) (fun x hx=>⟨far _ _ (RI.rd x hx).va (RI.far x hx).va (hnew x hx).1,far _ _ (RI.rd x hx).hd (RI.far x hx).hd (hnew x hx).2⟩) (fun b hb2=>by have hb2:b<Wb+4:=hb2;have:=hb6.size;omega)
 ·have:=slk_lt (RI.rd x hx).va h0 e;exact ⟨by omega,((RI.far x hx).va h0 b off m c e).2⟩
 ·have:=slk_lt (RI.rd x hx).hd h0 e;exact ⟨by omega,((RI.far x hx).hd h0 b off m c e).2⟩
theorem EnvP.low {X:Nat->Prop}{R:Nat}{w w':World}{jb cb B:Nat}{vj vc:Value}{J:List Ck}{nx:Int}{lx:List Ee}(h : @EnvP ⟨X⟩ w jb cb B vj vc J nx lx)(hX:X R)(hR:R<B)(hg:R≠0)(k:Kp w.heap.size (fun b=>b=R) w w'): @EnvP ⟨X⟩ w' jb cb B vj vc J nx lx:=by
 obtain ⟨hmx,hgm,hbj,hbc,hjc,hjar,hca,hjcb,hcj,hjr,hf,hpx⟩:=h;have lG:0<w.heap.size:=by have:=hjar.at_.lt;omega
 have hn:∀ {hs:List Hd} {u:Value},SlK hdC 2 w u hs->FarM (@Px ⟨X⟩ (MuP jb cb vj vc)) hs u->SlK hdC 2 w' u hs:=fun h1 h2=>slk_kp h1 (fun h0 b off n c e hm=>h2 h0 b off n c e (.inr (by rw [show b=R from hm];exact hX))) k lr;refine @EnvP.mk ⟨X⟩ w' jb cb B vj vc J nx lx ?_ hgm hbj hbc hjc ⟨hjar.at_.kp k hjar.at_.lt (fun e=>by omega),own_kp hjar.own k lr (fun g hg e=>by have:=own_base hjar.own hg;omega),hjar.ne,Kg hjar.le k.size⟩ ⟨hca.at_.kp k hca.at_.lt (fun e=>by omega),own_kp hca.own k lr (fun g hg e=>by have:=own_base hca.own hg;omega),hca.ne,Kg hca.le k.size,fun x hx=>?_,hca.far⟩ hjcb hcj hjr hf (fun b hb=>Ko (hpx b hb) k.size)
 ·obtain ⟨m,hm⟩:=hmx;exact ⟨m,(k.cell (b:=0) (o:=0) lG (fun e=>hg e.symm)).trans hm⟩
 ·have hr:=hca.rd x hx;exact ⟨hr.u,hr.st,hr.bo,hr.ti,hn hr.va (hf x hx).1,hn hr.hd (hf x hx).2⟩
theorem RunA.start {w w6 w7 w8:World}{jb cb V:Nat}{now:Int}{Lw:List Value}{vj vc0 vc:Value}{J:List Ck}{nx:Int}{lx:List Ee}{o:Out}{va wa ea:Option Addr}{vk wk ek:Nat}{l:List (Value × Ev)}
 (E7 : @EnvP ⟨fun b=>b<w.heap.size+4⟩ w7 jb cb (w.heap.size+4) vj vc J nx lx) (hc:lx.map (·.2)=o.c) (hq : @Hs ⟨fun b=>b<w.heap.size+4⟩ (MuP jb cb vj vc) w7 (.slice va o.s.qh.length vk) o.s.qh) (hh : @Hs ⟨fun b=>b<w.heap.size+4⟩ (MuP jb cb vj vc) w7 (.slice wa o.s.hs.length wk) o.s.hs) (ev : @Evs ⟨fun b=>b<w.heap.size+4⟩ (MuP jb cb vj vc) w6.heap.size w7 (.slice ea l.length ek) l o.ev) (K:Kp w6.heap.size (MuP jb cb vj vc0) w6 w7) (hM:∀ b,b<w6.heap.size->MuP jb cb vj vc b->MuP jb cb vj vc0 b)
 (hfull:o.s.ph=1\/o.s.ph=2->∃ a n,Value.slice ea l.length ek = .slice a n n) (hph:o.s.ph=1\/o.s.ph=3\/o.s.ph=4) (RF:RunF w jb cb V now Lw w6) (hV6:V<w6.heap.size) (hVM:¬ MuP jb cb vj vc0 V) (hVN:w.heap.size+4<=V) (hB0:∀ b,MuP jb cb vj vc0 b->w.heap.size+4<=b) (h8:Below w7.heap.size w7 w8) (S8:AtL w8 w7.heap.size (fsV o.s (.slice va o.s.qh.length vk) (.slice wa o.s.hs.length wk))) :
 RunA w jb cb w7.heap.size V now Lw ⟨o.s,(J,nx),o.c,o.ev⟩ (.slice ea l.length ek) w8:=by
 have hX:∀ b,RX w false (.slice ea l.length ek) b->b<w.heap.size+4:=fun b h=>by
  rcases h with h | ⟨h,_⟩
  ·exact h
  ·cases h
 have hw7:w.heap.size+4<=w7.heap.size:=by have:=K.size;omega
 have hmu:∀ b,b<w7.heap.size->Mu w7.heap.size jb cb vj vc b->MuP jb cb vj vc b:=fun b hb e=>by
  rcases e with e | e
  ·omega
  ·exact e
 have hs2:∀ (u:Value) (hs:List Hd),@Hs ⟨fun b=>b<w.heap.size+4⟩ (MuP jb cb vj vc) w7 u hs->@Hs ⟨RX w false (.slice ea l.length ek)⟩ (Mu w7.heap.size jb cb vj vc) w8 u hs:=fun u hs h=>⟨h.1.below h8 lr,fun h0 b off n c e hm=>by
  rcases hm with hm | hm
  ·exact h.2 h0 b off n c e (.inl (hmu b (slk_lt h.1 h0 e) hm))
  ·exact h.2 h0 b off n c e (.inr (hX b hm))⟩
 have En:=@EnvP.mk' w7 w8 w7.heap.size jb cb (w.heap.size+4) vj vc J nx lx (RX w false (.slice ea l.length ek)) ⟨fun b=>b<w.heap.size+4⟩ E7 h8 lr S8.lt (fun b h=>.inl (hX b h)) (fun b h=>by have:=hX b h;have:=h8.size;omega);have RF8:RunF w jb cb V now Lw w8:=(RF.kp K (fun b e=>⟨hB0 b e,fun e2=>hVM (e2 ▸ e)⟩)).kp (Kp.of_below (M:=fun _=>False) h8 lr) (fun b e=>e.elim);refine ⟨false,vj,vc,lx,l,@FIn.mk ⟨RX w false (.slice ea l.length ek)⟩ _ _ _ _ _ _ _ _ _ _ _ En ⟨va,vk,wa,wk,S8,hs2 _ _ hq,hs2 _ _ hh⟩,hc,?_,RF8,fun e=>?_,hVN,?_⟩
 ·refine @Evs.mk ⟨RX w false (.slice ea l.length ek)⟩ _ _ _ _ _ _ (@Evs.eq ⟨fun b=>b<w.heap.size+4⟩ _ _ _ _ _ _ ev) (own_below (own_mono (@Evs.own ⟨fun b=>b<w.heap.size+4⟩ _ _ _ _ _ _ ev) hV6) h8 lr) (fun g hg e=>?_) (fun r hr=>hs2 _ _ (@Evs.hs ⟨fun b=>b<w.heap.size+4⟩ _ _ _ _ _ _ ev r hr));exact @Evs.far ⟨fun b=>b<w.heap.size+4⟩ _ _ _ _ _ _ ev g hg (hmu g ((@Evs.own ⟨fun b=>b<w.heap.size+4⟩ _ _ _ _ _ _ ev).lt g hg).2 e)
 ·exact hVM (hM V hV6 (hmu V (by have:=K.size;omega) e))
 ·rcases hph with h | h | h
  ·exact .inr (.inl (hfull (.inl h)))
  ·exact .inr (.inr (.inl h))
  ·exact .inr (.inr (.inr h))
theorem BeginR.run {w w6 w7:World}{jb cb V:Nat}{now:Int}{Lw:List Value}{vj vc0:Value}{J:List Ck}{nx:Int}{o:Out}{x:Ending}
 (hph:o.s.ph=1\/o.s.ph=3\/o.s.ph=4) (RF:RunF w jb cb V now Lw w6) (hV6:V<w6.heap.size) (hVM:¬ MuP jb cb vj vc0 V) (hVN:w.heap.size+4<=V) (hB0:∀ b,MuP jb cb vj vc0 b->w.heap.size+4<=b) (q : @BeginR ⟨fun b=>b<w.heap.size+4⟩ w6 jb cb (w.heap.size+4) vj J nx vc0 o x w7) :
 ∃ (va:Option Addr) (vk:Nat) (wa:Option Addr) (wk:Nat) (ea:Option Addr) (n ek:Nat),x = .returned (.tuple #[.agg (fsV o.s (.slice va o.s.qh.length vk) (.slice wa o.s.hs.length wk)).toArray,.slice ea n ek])/\w6.heap.size<=w7.heap.size/\∀ w8,Below w7.heap.size w7 w8->AtL w8 w7.heap.size (fsV o.s (.slice va o.s.qh.length vk) (.slice wa o.s.hs.length wk))->RunA w jb cb w7.heap.size V now Lw ⟨o.s,(J,nx),o.c,o.ev⟩ (.slice ea n ek) w8:=by obtain ⟨va,vk,wa,wk,vE,lE,vc7,lx7,rfl,E7,hc7,hqq7,hhh7,ev7,K7,hM7,hf7⟩:=q;obtain ⟨ea7,ek7,rfl,_⟩:=own_reads (@Evs.own ⟨fun b=>b<w.heap.size+4⟩ _ _ _ _ _ _ ev7);exact ⟨va,vk,wa,wk,ea7,lE.length,ek7,rfl,K7.size,fun w8 h8 S8=>RunA.start E7 hc7 hqq7 hhh7 ev7 K7 hM7 hf7 hph RF hV6 hVM hVN hB0 h8 S8⟩
def OpP (w:World)(jb cb s1 V:Nat)(now:Int)(Lw:List Value)(r r':Rn)(v:Value)(x:Ending)(w':World):Prop:=
 ∃ (a:Option Addr) (n c:Nat) (ev2:List Ev),x = .returned (.slice a n c)/\r'.ev=r.ev ++ ev2/\RunB w jb cb s1 V now Lw r'.s r'.j r'.c r.ev ev2 v (.slice a n c) w'
section
variable {w wx w' : World} {jb cb s1 V : Nat} {now : Int} {Lw : List Value} {r : Rn} {v : Value}
theorem OpP.of {s:FSt}{j:List Ck × Int}{c:List En}{ev2:List Ev}{x:Ending}{r':Rn}(hr:r'=⟨s,j,c,r.ev ++ ev2⟩)(h:∃ v2,x = .returned v2/\RunB w jb cb s1 V now Lw s j c r.ev ev2 v v2 w'):OpP w jb cb s1 V now Lw r r' v x w':=by obtain ⟨v2,h1,hB⟩:=h;obtain ⟨fl,vj,vc,lx,l,l2,F,hc,E,E2,R,hV,hN,hf⟩:=id hB;obtain ⟨a,c2,rfl,_⟩:=own_reads (@Evs.own ⟨RX w fl v⟩ _ _ _ _ _ _ E2);subst hr;exact ⟨a,_,c2,ev2,h1,rfl,hB⟩
theorem run_data (h:RunA w jb cb s1 V now Lw r v wx){i:Nat}(hk:ROk i r)(o:Op4)(ho:OpOk o)(h5:o.k % 5=1):
 Calls Tryz.prog 34 #[.pointer (some ⟨s1,0,none⟩),.string o.bo,envA jb cb now] wx (OpP w jb cb s1 V now Lw r (opF now o r) v):=by
 obtain ⟨fl,vj,vc,lx,l,F,hc,E,R,hV,hN,hf⟩:=h;have hr:opF now o r=⟨(dataF o.bo r.s).1,r.j,r.c,r.ev ++ (dataF o.bo r.s).2⟩:=by unfold opF;rw [Ke (by omega),Kf h5]
 refine (@data_is ⟨RX w fl v⟩ _ _ _ _ _ _ _ _ _ _ _ F o.bo (by have:=ho.bo;omega) (by have:=hk.s.sb;omega) now).mono fun x w' q=>?_;rw [hc] at q;exact OpP.of hr (RunA.head F E R hV hN hf (fun hp=>by unfold dataF;rw [Ke (by omega)];exact ⟨rfl,rfl⟩) (step_head q))
theorem run_end (h:RunA w jb cb s1 V now Lw r v wx){i:Nat}(hk:ROk i r)(hi:i<=45)(o:Op4)(h5:o.k % 5=2):
 Calls Tryz.prog 35 #[.pointer (some ⟨s1,0,none⟩),envA jb cb now] wx (OpP w jb cb s1 V now Lw r (opF now o r) v):=by
 obtain ⟨fl,vj,vc,lx,l,F,hc,E,R,hV,hN,hf⟩:=h;have hr:opF now o r=⟨(endF now r.s r.c).s,r.j,(endF now r.s r.c).c,r.ev ++ (endF now r.s r.c).ev⟩:=by unfold opF;rw [Ke (by omega),Ke (by omega),Kf h5]
 refine (@end_is ⟨RX w fl v⟩ _ _ _ _ _ _ _ _ _ _ _ _ _ F hk.s (by rw [hc];exact hk.c) (by omega) (by omega) now _ (by rw [hc])).mono fun x w' q=>?_;exact OpP.of hr (RunA.head F E R hV hN hf (fun hp=>by unfold endF;rw [Ke (by omega)];exact ⟨rfl,rfl⟩) (step_head q))
theorem run_Lost (h:RunA w jb cb s1 V now Lw r v wx)(o:Op4)(h5:o.k % 5=3):
 Calls Tryz.prog 36 #[.pointer (some ⟨s1,0,none⟩)] wx (OpP w jb cb s1 V now Lw r (opF now o r) v):=by
 obtain ⟨fl,vj,vc,lx,l,F,hc,E,R,hV,hN,hf⟩:=h;have hr:opF now o r=⟨(stopF 17 r.s).1,r.j,r.c,r.ev ++ (stopF 17 r.s).2⟩:=by unfold opF;rw [Ke (by omega),Ke (by omega),Ke (by omega)];first | rw [Kf (by omega)] | rw [Ke (by omega)]
 refine (@Lost_is ⟨RX w fl v⟩ _ _ _ _ _ _ _ _ _ _ _ F).mono fun x w' q=>?_;rw [hc] at q;exact OpP.of hr (RunA.head F E R hV hN hf (fun hp=>by unfold stopF;rw [Ke (by omega)];exact ⟨rfl,rfl⟩) (step_head q))
theorem run_Abort (h:RunA w jb cb s1 V now Lw r v wx)(o:Op4)(h5:o.k % 5=4):
 Calls Tryz.prog 37 #[.pointer (some ⟨s1,0,none⟩)] wx (OpP w jb cb s1 V now Lw r (opF now o r) v):=by
 obtain ⟨fl,vj,vc,lx,l,F,hc,E,R,hV,hN,hf⟩:=h;have hr:opF now o r=⟨(stopF 18 r.s).1,r.j,r.c,r.ev ++ (stopF 18 r.s).2⟩:=by unfold opF;rw [Ke (by omega),Ke (by omega),Ke (by omega)];first | rw [Kf (by omega)] | rw [Ke (by omega)]
 refine (@Abort_is ⟨RX w fl v⟩ _ _ _ _ _ _ _ _ _ _ _ F).mono fun x w' q=>?_;rw [hc] at q;exact OpP.of hr (RunA.head F E R hV hN hf (fun hp=>by unfold stopF;rw [Ke (by omega)];exact ⟨rfl,rfl⟩) (step_head q))
theorem run_head (h:RunA w jb cb s1 V now Lw r v wx){i:Nat}(hk:ROk i r)(hi:i<=45)(o:Op4)(ho:OpOk o)(hset:(∃ h∈o.hs,isH h scN=true)->SetC)(h5:o.k % 5=0){w5:World}(hb:Below wx.heap.size wx w5){u:Value}(hu:SlK hdC 2 w5 u o.hs)(hn:∀ b off n k,u = .slice (some ⟨b,off,none⟩) n k->wx.heap.size<=b):
 Calls Tryz.prog 31 #[.pointer (some ⟨s1,0,none⟩),.int .i64 o.st,u,envA jb cb now] w5 (fun x w'=>OpP w jb cb s1 V now Lw r (opF now o r) v x w'/\∀ b vs,AtL w5 b vs->wx.heap.size<=b\/b=V->AtL w' b vs):=by
 obtain ⟨fl,vj,vc,lx,l,F0,hc,E0,R0,hV,hN,hf⟩:=h;have hpx:=@EnvIn.px ⟨RX w fl v⟩ _ _ _ _ _ _ _ _ _ _ (@FIn.env ⟨RX w fl v⟩ _ _ _ _ _ _ _ _ _ _ _ F0);have hml:=@EnvIn.mlt ⟨RX w fl v⟩ _ _ _ _ _ _ _ _ _ _ (@FIn.env ⟨RX w fl v⟩ _ _ _ _ _ _ _ _ _ _ _ F0);have F:=@FIn.below ⟨RX w fl v⟩ _ _ _ _ _ _ _ _ _ _ _ _ F0 hb;have E:=@Evs.below ⟨RX w fl v⟩ _ _ _ _ _ _ _ E0 hb;have R:=R0.kp (Kp.of_below (M:=fun _=>False) hb lr) (fun b e=>e.elim);have hr:opF now o r=⟨(headA now o.st o.hs r.s r.j r.c).2.s,(headA now o.st o.hs r.s r.j r.c).1,(headA now o.st o.hs r.s r.j r.c).2.c,r.ev ++ (headA now o.st o.hs r.s r.j r.c).2.ev⟩:=by unfold opF;rw [Kf h5]
 refine (@head_is ⟨RX w fl v⟩ _ _ _ _ _ _ _ _ _ _ _ _ _ F hk.s hk.j (by rw [hc];exact hk.c) (by omega) (by omega) (by omega) hk.n1 (by have:=hk.n2;omega) o.st u o.hs ⟨hu,@FarM.newP ⟨RX w fl v⟩ _ _ _ _ hn hml hpx⟩ ho.hs hset now _ (by rw [hc])).mono fun x w' q=>?_;refine ⟨OpP.of hr (RunA.head F E R hV hN hf (fun hp=>by unfold headA;rw [Ke (by omega)];exact ⟨rfl,rfl⟩) q),fun b vs hA hb2=>?_⟩;obtain ⟨_,_,_,_,_,_,_,_,_,hk5,_⟩:=q;refine hA.kp hk5 hA.lt fun e=>?_;rcases hb2 with hb2 | rfl
 ·have:=hml b e;omega
 ·exact hV e
theorem RunA.olt (h:RunA w jb cb s1 V now Lw r v wx){g:Nat}(e:v.ownBlock=some g):g<wx.heap.size:=by obtain ⟨fl,vj,vc,lx,l,F,hc,E,R,hV,hN,hf⟩:=h;exact ((@Evs.own ⟨RX w fl v⟩ _ _ _ _ _ _ E).lt g e).2
theorem RunA.obase (h:RunA w jb cb s1 V now Lw r v wx){g:Nat}(e:v.ownBlock=some g):V+1<=g:=by obtain ⟨fl,vj,vc,lx,l,F,hc,E,R,hV,hN,hf⟩:=h;exact own_base (@Evs.own ⟨RX w fl v⟩ _ _ _ _ _ _ E) e
theorem xv_mk {W:World}{X V:Nat}{a b c d e f g:Value}(hX:AtL W X [a,b,c,d])(hV:AtL W V [e,f,g]):(W.cell? ⟨X,1,none⟩=some b/\W.cell? ⟨X,2,none⟩=some c)/\W.cell? ⟨V,0,none⟩=some e/\W.cell? ⟨V,1,none⟩=some f/\W.cell? ⟨V,2,none⟩=some g:=⟨⟨hX.c 1 rfl,hX.c 2 rfl⟩,hV.c 0 rfl,hV.c 1 rfl,hV.c 2 rfl⟩
theorem app_res {P:Program}{T E size bytes:Nat}(ty:SlTy P T E size bytes)(W:World)(t:TypeId)
 (B:Nat) (v:Value) (n:Nat) (xs:List Value) (hown:W.ownsRow B E size v n xs) (fl:Bool) (news:List Value) (A:Option Addr) (m c:Nat) (hf:fl=true\/(∃ a n',v = .slice a n' n')\/m=0)
 (hl:news.length=m * size) (hc:(A=none/\m=0)\/∃ ad,A=some ad/\∀ j u,news[j]? = some u->W.cell? (ad.add j)=some u) (h1:∀ u∈news,u.oneCell'=true)
 (hb:(n+m) * bytes<=140737488355328) (hn:n+m<=140737488355328) (hB:B<=W.heap.size) :
 ∃ v' w',(Builtin.append_ #[T,T] t #[v,.slice A m c]).run P W = .ok v' w'/\w'.ownsRow B E size v' (n+m) (xs ++ news)/\((fl=true/\W.grownBy w' v.ownBlock/\∀ g,v'.ownBlock=some g->v.ownBlock=some g\/W.heap.size<=g)\/(Below W.heap.size W w'/\(v'=v\/∀ g,v'.ownBlock=some g->W.heap.size<=g))):=by
 by_cases hm:m=0
 ·subst hm;obtain rfl:news=[]:=Ja (by simpa using hl);obtain ⟨hu,⟨i,z,hi,hz,h2,h3,h4⟩,hp⟩:=ty;exact ⟨v,W,run_append_zero (P:=P) (w:=W) B T t E i size hu hi v n xs hown A c,by simpa using hown,.inr ⟨Kc W,.inl rfl⟩⟩
 ·cases fl with
  | true=>
    obtain ⟨hu,⟨i,z,hi,hz,h2,h3,h4⟩,hp⟩:=ty;rcases hc with ⟨_,h0⟩ | ⟨ad,rfl,hc⟩
    ·exact absurd h0 hm
    ·obtain ⟨v',w',hr,k2,k3,g,k4,k5⟩:=run_append_where (P:=P) W B T t E i z size bytes hu hi hz h2 h3 h4 hp v n xs hown ad m c news hl hc h1 (by unfold maxLen;omega) hb hB (by omega);exact ⟨v',w',hr,k2,.inl ⟨rfl,k3,fun g' hg=>by rw [k4] at hg;injection hg with hg;subst hg;exact k5⟩⟩
  | false=>
    have hcap:∃ a n',v = .slice a n' n':=by
     rcases hf with e | e | e
     ·cases e
     ·exact e
     ·exact absurd e hm
    obtain ⟨v',w',hr,k2,k3,k4⟩:=run_app_full ty W B v n xs hown hcap A m c news hl hc h1 hb hn hB t;refine ⟨v',w',hr,k2,.inr ⟨k3,?_⟩⟩;rcases k4 with ⟨e,_⟩ | ⟨g,cap,rfl,h4⟩
    ·exact .inl e
    ·refine .inr fun b hb2=>?_;simp only [Value.ownBlock,Js] at hb2;omega
theorem RunB.stepW {P:Program}{T bytes:Nat}(ty:SlTy P T 48 7 bytes)(hby:bytes<=1000){s:FSt}{j:List Ck × Int}{c:List En}{ev ev2:List Ev}{a2:Option Addr}{n2 c2:Nat}(h:RunB w jb cb s1 V now Lw s j c ev ev2 v (.slice a2 n2 c2) wx)(hlen:(ev ++ ev2).length<=1000)
 {o:Oper} {a:Act} {K:Act->World->Prop} {Q:Exit->Act->World->Prop} (sO xO:Operand) (ho:o.op = .call { callee:=.builtin .append,args:=#[sO,xO],argTypes:=#[T,T] }) (hs:a.eval sO=v) (hx:a.eval xO = .slice a2 n2 c2)
 (k:∀ v' w',RunA w jb cb s1 V now Lw ⟨s,j,c,ev ++ ev2⟩ v' w'->(∀ b vs,AtL wx b vs->v.ownBlock≠some b->AtL w' b vs)->K (a.put o.dst v') w'):Oper.wp P o a wx K Q:=by
 obtain ⟨fl,vj,vc,lx,l,l2,F,hc,E,E2,R,hV,hN,hf⟩:=h;have o1:=@Evs.own ⟨RX w fl v⟩ _ _ _ _ _ _ E;have o2:=@Evs.own ⟨RX w fl v⟩ _ _ _ _ _ _ E2;have q1:=@Evs.eq ⟨RX w fl v⟩ _ _ _ _ _ _ E;have q2:=@Evs.eq ⟨RX w fl v⟩ _ _ _ _ _ _ E2;have n1:l.length=ev.length:=by rw [<-q1,Za]
 have n2':l2.length=ev2.length:=by rw [<-q2,Za]
 rw [Kw] at hlen;obtain ⟨a',c',he,_,_,hcell⟩:=own_reads o2;injection he with e1 e2 e3;subst e1 e2 e3;have hmul:(l.length+l2.length) * bytes<=1000 * 1000:=Nat.mul_le_mul (by omega) hby;have k1:fl=true\/(∃ a n',v = .slice a n' n')\/l2.length=0:=by
  rcases hf with h | h | h
  ·exact .inl h
  ·exact .inr (.inl h)
  ·exact .inr (.inr (by rw [n2',h.2];rfl))
 have k2:(a2=none/\l2.length=0)\/∃ ad,a2=some ad/\∀ j u,(cellsK evC l2)[j]? = some u->wx.cell? (ad.add j)=some u:=by
  rcases hcell with h | ⟨g,rfl,_,_,h⟩
  ·exact .inl h
  ·exact .inr ⟨_,rfl,fun i u hu=>by rw [add_none,Jm];exact h i u hu⟩
 obtain ⟨v',w',hr,h1,h2⟩:=app_res ty wx o.type (V+1) v l.length (cellsK evC l) o1 fl (cellsK evC l2) a2 l2.length c2 k1 (cellsK_len evC_len l2) k2 (@one7 ⟨RX w fl v⟩ _ _ l2 (@Evs.hs ⟨RX w fl v⟩ _ _ _ _ _ _ E2)) (by omega) (by omega) (by have:=R.v.lt;omega);unfold Oper.wp execOp;simp only [ho,resolve,invoke,builtin,Sem.run_bind,Sem.run_pure,Result.andThen_ok,List.map_toArray,Jw,Zt,hs,hx,hr];exact k v' w' (RunB.app F hc E E2 R hV hN hf h1 h2) (fun b vs hA hne=>by
  rcases h2 with ⟨_,g,_⟩ | ⟨g,_⟩
  ·exact hA.grown g hne
  ·exact hA.next g)
theorem RunB.step {P:Program}{T bytes:Nat}(ty:SlTy P T 48 7 bytes)(hby:bytes<=1000){s:FSt}{j:List Ck × Int}{c:List En}{ev ev2:List Ev}{a2:Option Addr}{n2 c2:Nat}(h:RunB w jb cb s1 V now Lw s j c ev ev2 v (.slice a2 n2 c2) wx)(hlen:(ev ++ ev2).length<=1000)
 {ops:Array Oper} {rest:List Oper} {o:Oper} {a:Act} {Q:Exit->Act->World->Prop} (hgd:o.guard=none) (sO xO:Operand) (ho:o.op = .call { callee:=.builtin .append,args:=#[sO,xO],argTypes:=#[T,T] }) (hs:a.eval sO=v) (hx:a.eval xO = .slice a2 n2 c2)
 (k:∀ v' w',RunA w jb cb s1 V now Lw ⟨s,j,c,ev ++ ev2⟩ v' w'->(∀ b vs,AtL wx b vs->v.ownBlock≠some b->AtL w' b vs)->wpList P ops Q rest (a.put o.dst v') w'):wpList P ops Q (o :: rest) a wx:=
 wpList_plain hgd fun _ hK=>RunB.stepW ty hby h hlen sO xO ho hs hx fun v' w' h1 h2=>hK _ _ (k v' w' h1 h2)
theorem RunB.stepR {P:Program}{T bytes:Nat}(ty:SlTy P T 48 7 bytes)(hby:bytes<=1000){s:FSt}{j:List Ck × Int}{c:List En}{ev ev2:List Ev}{a2:Option Addr}{n2 c2:Nat}(h:RunB w jb cb s1 V now Lw s j c ev ev2 v (.slice a2 n2 c2) wx)(hlen:(ev ++ ev2).length<=1000)
 {ops:Array Oper} {o:Oper} {a:Act} {K:Act->World->Prop} {Q:Exit->Act->World->Prop} {Ep:Prop} (hgd:o.guard=none) (sO xO:Operand) (ho:o.op = .call { callee:=.builtin .append,args:=#[sO,xO],argTypes:=#[T,T] }) (hs:a.eval sO=v) (hx:a.eval xO = .slice a2 n2 c2)
 (k:∀ v' w',RunA w jb cb s1 V now Lw ⟨s,j,c,ev ++ ev2⟩ v' w'->(∀ b vs,AtL wx b vs->v.ownBlock≠some b->AtL w' b vs)->K (a.put o.dst v') w'):if Region.wanted o (yielded ops a.tmps)=true then Oper.wp P o a wx K Q else Ep:=by rw [Kf (by simp [Region.wanted,hgd])];exact RunB.stepW ty hby h hlen sO xO ho hs hx k
end
theorem RunA.fin {w wx:World}{jb cb s1 V:Nat}{now:Int}{Lw:List Value}{r:Rn}{v:Value}(h:RunA w jb cb s1 V now Lw r v wx):
 ∃ (va : Option Addr) (vk : Nat) (wa : Option Addr) (wk : Nat) (ea : Option Addr) (n ek : Nat) (ja : Option Addr) (jk : Nat) (ca : Option Addr) (n2 ck : Nat), v = .slice ea n ek ∧ AtL wx s1 (fsV r.s (.slice va r.s.qh.length vk) (.slice wa r.s.hs.length wk)) ∧ AtL wx jb [.slice ja r.j.1.length jk, .int .i64 r.j.2] ∧ AtL wx cb [.slice ca n2 ck] ∧ AtL wx w.heap.size Lw ∧ AtL wx (w.heap.size + 2) fz ∧ AtL wx (w.heap.size + 3) wz ∧ (w.heap.size + 4 ≤ s1 ∧ w.heap.size + 4 ≤ jb ∧ w.heap.size + 4 ≤ cb) ∧
   ∀ w',Kp wx.heap.size (fun b=>b=w.heap.size+2\/b=w.heap.size+3) wx w'->RunQ w now r (.returned (.tuple #[.agg (fsV r.s (.slice va r.s.qh.length vk) (.slice wa r.s.hs.length wk)).toArray,.slice ea n ek,.agg #[.slice ja r.j.1.length jk,.int .i64 r.j.2,.slice ca n2 ck,.int .i64 now]])) w':=by
 obtain ⟨fl,vj,vc,lx,l,F,hc,E,R,hV,hN,hf⟩:=h;obtain ⟨E2,va,vk,wa,wk,S2,hq2,hh2⟩:=F;have J2:=@EnvIn.jar ⟨RX w fl v⟩ _ _ _ _ _ _ _ _ _ _ E2;have C2:=@EnvIn.ca ⟨RX w fl v⟩ _ _ _ _ _ _ _ _ _ _ E2;have hbs:=@EnvIn.bs ⟨RX w fl v⟩ _ _ _ _ _ _ _ _ _ _ E2;have hbj:=@EnvIn.bj ⟨RX w fl v⟩ _ _ _ _ _ _ _ _ _ _ E2;have hbc:=@EnvIn.bc ⟨RX w fl v⟩ _ _ _ _ _ _ _ _ _ _ E2;have hfar:=@EnvIn.far ⟨RX w fl v⟩ _ _ _ _ _ _ _ _ _ _ E2;have Eo:=@Evs.own ⟨RX w fl v⟩ _ _ _ _ _ _ E;have Eq:=@Evs.eq ⟨RX w fl v⟩ _ _ _ _ _ _ E;have Eh:=@Evs.hs ⟨RX w fl v⟩ _ _ _ _ _ _ E;obtain ⟨ea,ek,rfl,_⟩:=own_reads Eo;obtain ⟨ja,jk,rfl,_⟩:=own_reads J2.own;obtain ⟨ca,ck,rfl,_⟩:=own_reads C2.own;refine ⟨va,vk,wa,wk,ea,l.length,ek,ja,jk,ca,lx.length,ck,rfl,S2,J2.at_,C2.at_,R.w0,R.r6,R.r8,⟨hbs,hbj,hbc⟩,fun w' k=>?_⟩;have hMX:∀ b,b<wx.heap.size->(b=w.heap.size+2\/b=w.heap.size+3)->RX w fl (.slice ea l.length ek) b:=fun b _ h=>.inl (by omega);have hs2:∀ {u:Value} {hs:List Hd} {N:Nat->Prop},@Hs ⟨RX w fl (.slice ea l.length ek)⟩ N wx u hs->SlK hdC 2 w' u hs:=fun h=>(hs_re h k hMX (fun b hb=>.inl hb)).1;have hEo:=own_kp Eo k lr (fun g hg e=>by have:=own_base Eo hg;omega);have hJo:=own_kp J2.own k lr (fun g hg e=>by have:=own_base J2.own hg;omega);have hCo:=own_kp C2.own k lr (fun g hg e=>by have:=own_base C2.own hg;omega);refine ⟨va,vk,wa,wk,ea,ek,l,ja,jk,ca,ck,lx,rfl,⟨hs2 hq2,hs2 hh2⟩,⟨own_mono hEo (by omega),Eq,fun y hy=>hs2 (Eh y hy)⟩,SlK.of_own ckL_len hJo,⟨SlK.of_own eelen hCo,fun x hx=>?_,hc⟩,?_⟩
 ·have hr:=C2.rd x hx;exact ⟨hr.u,hr.st,hr.bo,hr.ti,hs2 ⟨hr.va,(hfar x hx).1⟩,hs2 ⟨hr.hd,(hfar x hx).2⟩⟩
 ·exact ⟨k.os.trans R.b.os,k.tape.trans R.b.tape,k.output.trans R.b.output,Kg R.b.size k.size,fun b hb=>(k.block b (Ko hb R.b.size) (fun e=>by omega)).trans (R.b.block b hb)⟩
def EndS (s1 R6 jb cb Wb:Nat)(LS:List Value)(a b c d:Value)(w':World):Prop:=(w'.rangeAt s1 0 LS/\w'.there R6 0 23)/\(w'.cell? ⟨jb,0,none⟩=some a/\w'.cell? ⟨jb,1,none⟩=some b)/\w'.cell? ⟨cb,0,none⟩=some c/\w'.cell? ⟨Wb,3,none⟩=some d
theorem endS_mk {W:World}{s1 R6 jb cb Wb:Nat}{LS us:List Value}{a b c d e f g:Value}(h1:AtL W s1 LS)(h2:AtL W R6 us)(hl:us.length=23)(h3:AtL W jb [a,b])(h4:AtL W cb [c])(h5:AtL W Wb [e,f,g,d]):EndS s1 R6 jb cb Wb LS a b c d W:=
 ⟨⟨h1.range,h2.there 23 hl.symm⟩,⟨h3.c 0 rfl,h3.c 1 rfl⟩,h4.c 0 rfl,h5.c 3 rfl⟩
theorem held_store {P:Program}{md:Region.Mode}{ops:Array Oper}{Q:Exit->Act->World->Prop}{S:World->Prop}{fuel:Nat}{listed:Array Bool}{a:Act}{w:World}(i:Nat)(o:Oper)(ty:TypeId)(x y:Operand)(b k:Nat)(LS:List Value)
 (hr:Region.ready md ops listed=[i]) (hi:ops[i]? = some o) (hw:Region.wanted o (yielded ops a.tmps)=true) (ho:o.op = .store ty x y) (hx:a.eval x = .pointer (some ⟨b,k,none⟩)) (hy:a.eval y = .agg LS.toArray)
 (ht:w.there b k LS.length) (hs:(P.info? ty).map (·.size)=some LS.length) (h1:∀ v∈LS,v.oneCell'=true) (hS:S (w.setCells b k LS)) (h:S (w.setCells b k LS)->wpAnyH P md ops Q S fuel (listed.setIfInBounds i true) (a.put o.dst undef) (w.setCells b k LS)):wpAnyH P md ops Q S (fuel+1) listed a w:=by refine wpAnyH_ready hr (by simp) (AllReadyH.cons hi (fun K hK=>?_) AllReadyH.nil);rw [Kf hw];refine wp_store_mid ty x y ho b k LS.toArray hx hy (by simpa using ht) (by simpa using hs) (all_oneCell_toArray h1) ?_;rw [List.toList_toArray];exact hK.out _ _ hS h
theorem retctc_run {P:Program}{fn:Func}{q T r q2 T2:Nat}(hr:fn.results = #[.cell q T,.tmp r,.cell q2 T2]){vs us:List Value}(hz:∀ w,(Go.sizeOf T).run P w = .ok vs.length w)(ha:∀ w,(isAgg T).run P w = .ok true w)(hz2:∀ w,(Go.sizeOf T2).run P w = .ok us.length w)(ha2:∀ w,(isAgg T2).run P w = .ok true w)(tmps:Array Value)(W:World)(k k2:Nat)(x:Value)(h2:tmps.getD q undef = .pointer (some ⟨k,0,none⟩))(h3:tmps.getD r undef=x)(h4:tmps.getD q2 undef = .pointer (some ⟨k2,0,none⟩))(hA:AtL W k vs)(hB:AtL W k2 us):
 (results fn tmps).run P W = .ok (.tuple #[.agg vs.toArray,x,.agg us.toArray]) W:=by
 have hl:(loadCells ⟨k,0,none⟩ vs.length).run P W = .ok vs.toArray W:=run_loadCells_list (P:=P) W ⟨k,0,none⟩ vs (fun j v hv=>by rw [Addr.add_lit,Jm];exact hA.c j hv);have hl2:(loadCellsFrom ⟨k,0,none⟩ 0 vs.length #[]).run P W = .ok vs.toArray W:=by simpa [loadCells] using hl
 have hm:(loadCells ⟨k2,0,none⟩ us.length).run P W = .ok us.toArray W:=run_loadCells_list (P:=P) W ⟨k2,0,none⟩ us (fun j v hv=>by rw [Addr.add_lit,Jm];exact hB.c j hv);have hm2:(loadCellsFrom ⟨k2,0,none⟩ 0 us.length #[]).run P W = .ok us.toArray W:=by simpa [loadCells] using hm
 rw [Xg] at h2 h3 h4;simp [results,hr,h2,h3,h4,go_sem,ha,hz,hl2,ha2,hz2,hm2]
theorem Kp.sets' {n:Nat}{M:Nat->Prop}{w W:World}(h:Kp n M w W){k:Nat}(hp:M k\/n<=k)(o:Nat)(vs:List Value):Kp n M w (W.setCells k o vs):=Kp.sets hp vs h
theorem M25{p:Prop}(h:p:=by
 go_roundw;case rel=>exact ⟨k+1,by omega,by go_num,Kb (by rw [HSN.out];have h:=HA5.out;rw [<-HQE.out] at h;exact h)⟩
 case measure=>simp [intOf];omega
 ):p:=h
theorem run_is (w:World)(vj:Value)(J:List Ck)(nx:Int)(vc:Value)(lx:List Ee)(now tk:Int)(me ur og:ByteArray)(mo:Int)(vq:Value)(qh:List Hd)(qb:ByteArray)(ck:Bool)(vo:Value)(lo:List (Value × Op4))(hM:MaxAt w)(hG:0<w.heap.size)
 (HW:WIn w vj J vc lx) (HQ:QIn w ur og vq qh qb) (HO:OIn w vo lo)
 (hS:SOk (newS tk me ur og mo qh qb ck)) (hJ:JOk J) (hn1:0<=nx) (hn2:nx<=1125899906842624) (hC:COk 20 100 (lx.map (·.2))) (hop:∀ x∈lo,OpOk x.2/\x.2.k<256) (hlo:lo.length<=40) (hset:∀ x∈lo,(∃ h∈x.2.hs,isH h scN=true)->SetC) (r:Rn) (hR:runF now (lo.map (·.2)) (startF now (newS tk me ur og mo qh qb ck) (J,nx) (lx.map (·.2)))=r) :
 Calls Tryz.prog 13 #[.agg #[vj,.int .i64 nx,vc,.int .i64 now],.agg #[.int .i64 tk,.string me,.string ur,.string og,.int .i64 mo,vq,.string qb,.bool ck],vo] w (RunQ w now r):=by
 obtain ⟨hj,hc,hr,hzj,hzc⟩:=HW;obtain ⟨hq,hzq,hz1a,hz1b,hz1c⟩:=HQ;obtain ⟨ho,hoh,hzo⟩:=HO;have HCO:=Kb (slk_at ho);obtain ⟨ja,jc,rfl,_⟩:=hj.shape;obtain ⟨ca,cc,rfl,_⟩:=hc.shape;obtain ⟨oa,oc,rfl,_⟩:=ho.shape;obtain ⟨qa,qc,rfl,_⟩:=hq.shape;have hb0:Below w.heap.size w ((((w.alloc (.cells [.slice ja J.length jc,.int .i64 nx,.slice ca lx.length cc,.int .i64 now].toArray 27)).alloc (.cells [.int .i64 tk,.string me,.string ur,.string og,.int .i64 mo,.slice qa qh.length qc,.string qb,.bool ck].toArray 30)).alloc (.cells fz.toArray 40)).alloc (.cells wz.toArray 27)):=((((Kc w).alloc lr _).alloc (by simp) _).alloc (by simp;omega) _).alloc (by simp;omega) _;have W0:=((((AtL.new w [.slice ja J.length jc,.int .i64 nx,.slice ca lx.length cc,.int .i64 now] 27).alloc (.cells [.int .i64 tk,.string me,.string ur,.string og,.int .i64 mo,.slice qa qh.length qc,.string qb,.bool ck].toArray 30)).alloc (.cells fz.toArray 40)).alloc (.cells wz.toArray 27))
 have Q0:=((AtL.new (w.alloc (.cells [.slice ja J.length jc,.int .i64 nx,.slice ca lx.length cc,.int .i64 now].toArray 27)) [.int .i64 tk,.string me,.string ur,.string og,.int .i64 mo,.slice qa qh.length qc,.string qb,.bool ck] 30).alloc (.cells fz.toArray 40)).alloc (.cells wz.toArray 27);have R6:=(AtL.new ((w.alloc (.cells [.slice ja J.length jc,.int .i64 nx,.slice ca lx.length cc,.int .i64 now].toArray 27)).alloc (.cells [.int .i64 tk,.string me,.string ur,.string og,.int .i64 mo,.slice qa qh.length qc,.string qb,.bool ck].toArray 30)) fz 40).alloc (.cells wz.toArray 27);have R8:=AtL.new (((w.alloc (.cells [.slice ja J.length jc,.int .i64 nx,.slice ca lx.length cc,.int .i64 now].toArray 27)).alloc (.cells [.int .i64 tk,.string me,.string ur,.string og,.int .i64 mo,.slice qa qh.length qc,.string qb,.bool ck].toArray 30)).alloc (.cells fz.toArray 40)) wz 27;obtain ⟨w0,hw0⟩:∃ w0:World,((((w.alloc (.cells [.slice ja J.length jc,.int .i64 nx,.slice ca lx.length cc,.int .i64 now].toArray 27)).alloc (.cells [.int .i64 tk,.string me,.string ur,.string og,.int .i64 mo,.slice qa qh.length qc,.string qb,.bool ck].toArray 30)).alloc (.cells fz.toArray 40)).alloc (.cells wz.toArray 27))=w0:=⟨_,rfl⟩
 have hsz0:w0.heap.size=w.heap.size+4:=by rw [<-hw0];simp
 rw [hw0] at hb0 W0 Q0 R6 R8;rw [show (w.alloc (.cells [.slice ja J.length jc,.int .i64 nx,.slice ca lx.length cc,.int .i64 now].toArray 27)).heap.size=w.heap.size+1 by simp] at Q0;rw [show ((w.alloc (.cells [.slice ja J.length jc,.int .i64 nx,.slice ca lx.length cc,.int .i64 now].toArray 27)).alloc (.cells [.int .i64 tk,.string me,.string ur,.string og,.int .i64 mo,.slice qa qh.length qc,.string qb,.bool ck].toArray 30)).heap.size=w.heap.size+1+1 by simp] at R6;rw [show (((w.alloc (.cells [.slice ja J.length jc,.int .i64 nx,.slice ca lx.length cc,.int .i64 now].toArray 27)).alloc (.cells [.int .i64 tk,.string me,.string ur,.string og,.int .i64 mo,.slice qa qh.length qc,.string qb,.bool ck].toArray 30)).alloc (.cells fz.toArray 40)).heap.size=w.heap.size+1+1+1 by simp] at R8;have hj0:=hj.below hb0 lr;have hJl:=hJ.len;have hqn:qh.length<=1000000:=by have:=hS.ql;have e:(newS tk me ur og mo qh qb ck).qh=qh:=rfl;rw [e] at this;omega
 have CE:=Kb (fun (w':World) (hb:Below w.heap.size w w') (hs:w.heap.size<w'.heap.size)=>entries_is lx (.slice ca lx.length cc) w' w.heap.size hs (hc.below hb lr) (fun x hx=>(hr x hx).below hb lr) (fun x hx=>by have h:=hC.ok x.2 (Zc hx);have:=h.hd.len;have:=h.va.1;omega) (by have:=hC.len;rw [Za] at this;omega) _ rfl);have CQ:=Kb (fun (w':World) (hb:Below w.heap.size w w')=>lcp4_is qh (.slice qa qh.length qc) w' (hq.below hb lr) hqn);have HM:=Kb hM;have HB0:=Kb hb0;have HHS:=Kb hS;have HHJ:=Kb hJ;have HHC:=Kb hC;have HOP:=Kb hop;have HSE:=Kb hset;have HOH:=Kb hoh;have HRR:=Kb hR;have HNX:=Kb (And.intro hn1 hn2);clear hj hc hr hq ho hM hS hJ hC hop hset hoh hR hzj hzc hzq hz1a hz1b hz1c hzo hn1 hn2 hqn;obtain ⟨Wb,hWb⟩:=Ka w.heap.size;have HWB:=Kb hWb;rw [hWb] at W0 Q0 R6 R8 hsz0 hG;have a0:=W0.c 0 rfl;have a1:=W0.c 1 rfl;have a2:=W0.c 2 rfl;have a3:=W0.c 3 rfl;have al:=W0.lt;have HONE:=Kb (one9s J);have hb9:Below w0.heap.size w0 (w0.alloc (.cells #[] 88)):=(Kc w0).alloc lr _;have HSZ0:=Kb hsz0;clear hb0 hsz0;go_enter Tryz.func13,Tryz.ntmps13;go_upto_region 1 with fail;go_cut [9] from 16 to 24 (fun c9 w'=>JarN w0 J nx c9 w')
 case first=>
  by_cases h0:J=[]
  ·subst h0
   go_region_held3 (fun w'=>w'.cell? ⟨Wb,0,none⟩=some (.slice ja 0 jc)/\w'.cell? ⟨Wb,1,none⟩=some (.int .i64 nx)) (go_keep)
    (first
      | (refine step_app00 slC _ (by rfl) (.tmp 16) (.tmp 19) (by rfl) w0.heap.size ja jc (by rfl) (by rfl) ?_)
      | (refine step_app00 slC _ (by rfl) (.tmp 16) (.tmp 19) (by rfl) (w0.heap.size+1) ja jc (by rfl) (by rfl) ?_)
      | fail)
   all_goals go_wp2_with fail;go_meet;case rel=>first | (have h:=jarn_mk (nx:=nx) (l:=[]) (own_z0 w0 88 9) hb9;have h:=h.drew;rw [show (w0.alloc (.cells #[] 88)).heap.size=w0.heap.size+1 by simp] at h;exact h) | exact jarn_e w0 nx | fail
  ·have hpos:0<J.length:=Xf.2 h0;obtain ⟨b,off,rfl,hb1,hcell⟩:∃ b off:Nat,ja=some ⟨b,off,none⟩/\b<w0.heap.size/\∀ j u,(cellsK ckL J)[j]? = some u->w0.cell? ((⟨b,off,none⟩:Addr).add j)=some u:=by
    rcases hj0 with ⟨h,_⟩ | ⟨_,b,off,c,e,_,_,h4,h5⟩
    ·exact absurd h h0
    ·injection e with e1 _ _;refine ⟨b,off,e1,h4,fun j u hu=>?_⟩;obtain ⟨i,hi,q,rfl,hq⟩:=cellsK_inv ckL_len J j u hu;rw [add_none,<-Nat.add_assoc];exact h5 i hi q u hq
   have HC:=Kb (fun (W:World) (hB:Below w0.heap.size w0 W)=>(fun j u hu=>by have h:=hcell j u hu;rw [add_none] at h ⊢;exact (brl hB _ _ hb1).trans h:∀ j u,(cellsK ckL J)[j]? = some u->W.cell? ((⟨b,off,none⟩:Addr).add j)=some u));have HLC:=Kb (cellsK_len ckL_len J);have b1:Below w0.heap.size w0 (w0.alloc (.cells #[] 88)).drew:=hb9.drew;have b2:Below w0.heap.size w0 ((w0.alloc (.cells #[] 88)).alloc (.cells #[.slice none 0 0,.int .i64 0] 24)).drew:=(hb9.alloc hb9.size _).drew;have hbj:=(Kc w0).alloc lr (.cells #[.slice none 0 0,.int .i64 0] 24);have b3:Below w0.heap.size w0 ((w0.alloc (.cells #[.slice none 0 0,.int .i64 0] 24)).alloc (.cells #[] 88)).drew:=(hbj.alloc hbj.size _).drew;have j2:=(AtL.new (w0.alloc (.cells #[] 88)) [.slice none 0 0,.int .i64 0] 24).drew;have j3:=((AtL.new w0 [.slice none 0 0,.int .i64 0] 24).alloc (.cells #[] 88)).drew;rw [show (w0.alloc (.cells #[] 88)).heap.size=w0.heap.size+1 by simp] at j2;clear hcell h0 hj0 hbj
   go_region_held3 (fun w'=>w'.cell? ⟨Wb,0,none⟩=some (.slice (some ⟨b,off,none⟩) J.length jc)/\w'.cell? ⟨Wb,1,none⟩=some (.int .i64 nx)) (first | go_keep | exact ⟨a0b,a1b⟩ | exact ⟨cell_set2 a0b (by omega),cell_set2 a1b (by omega)⟩)
    (first
      | (refine step_appS slC _ (by rfl) (.tmp 16) (.tmp 19) (by rfl) w0.heap.size _ (by rfl) (jar_o1 w0) (cellsK ckL J) ⟨b,off,none⟩ J.length jc (by rfl) (HC.out _ b1) HLC.out HONE.out hpos (by omega) (by omega) b1.size ?_;intro g cap2 w2 o2 g2 at2;have hB2:Below w0.heap.size w0 w2:=b1.grown g2 b1.size (fun k hk=>by simp only [Value.ownBlock,Js] at hk;omega);have a0b:=(brl hB2 _ _ al).trans a0;have a1b:=(brl hB2 _ _ al).trans a1;have HO2:=Kb o2;clear o2 g2 at2)
      | (refine step_appS slC _ (by rfl) (.tmp 16) (.tmp 19) (by rfl) w0.heap.size _ (by rfl) (jar_o2 w0) (cellsK ckL J) ⟨b,off,none⟩ J.length jc (by rfl) (HC.out _ b2) HLC.out HONE.out hpos (by omega) (by omega) b2.size ?_;intro g cap2 w2 o2 g2 at2;have hB2:Below w0.heap.size w0 w2:=b2.grown g2 b2.size (fun k hk=>by simp only [Value.ownBlock,Js] at hk;omega);have a0b:=(brl hB2 _ _ al).trans a0;have a1b:=(brl hB2 _ _ al).trans a1;have HO2:=Kb o2;have J2:=j2.grown g2 (by simp [Value.ownBlock]);have i0:=J2.c 0 rfl;have i1:=J2.c 1 rfl;have f0:=J2.f 0 rfl;have f1:=J2.f 1 rfl;have il:=J2.lt;have hjg:(Value.slice (some ⟨g,0,none⟩) J.length cap2).ownBlock≠some (w0.heap.size+1):=(fun e=>by simp only [Value.ownBlock,Js] at e at2;simp at at2;omega);have HJ2:=Kb J2;clear o2 g2 at2 J2)
      | (refine step_appS slC _ (by rfl) (.tmp 16) (.tmp 19) (by rfl) w0.heap.size _ (by rfl) (jar_o3 w0) (cellsK ckL J) ⟨b,off,none⟩ J.length jc (by rfl) (HC.out _ b3) HLC.out HONE.out hpos (by omega) (by omega) b3.size ?_;intro g cap2 w2 o2 g2 at2;have hB2:Below w0.heap.size w0 w2:=b3.grown g2 b3.size (fun k hk=>by simp only [Value.ownBlock,Js] at hk;omega);have a0b:=(brl hB2 _ _ al).trans a0;have a1b:=(brl hB2 _ _ al).trans a1;have HO2:=Kb o2;have J2:=j3.grown g2 (by simp [Value.ownBlock]);have i0:=J2.c 0 rfl;have i1:=J2.c 1 rfl;have f0:=J2.f 0 rfl;have f1:=J2.f 1 rfl;have il:=J2.lt;have hjg:(Value.slice (some ⟨g,0,none⟩) J.length cap2).ownBlock≠some w0.heap.size:=(fun e=>by simp only [Value.ownBlock,Js] at e at2;simp at at2;omega);have HJ2:=Kb J2;clear o2 g2 at2 J2)
      | (trace "none fits";fail)
      | fail)
   all_goals go_wp2_with fail;go_meet;case rel=>first | exact jarn_mk HO2.out hB2 | exact (jarn_mk HO2.out hB2).drew | exact jarn_s (by omega) HJ2.out HO2.out hjg hB2 | fail
 case rest=>
  obtain ⟨jb,v',rfl,hjb,HJ1,hb1⟩:=hcut;rw [HSZ0.out] at hjb HJ1;obtain ⟨xja,xjc,rfl,_⟩:=own_reads HJ1.own;have HB1:=Kb (HB0.out.trans (hb1.mono HB0.out.size));have hs1:Wb+4<=wc.heap.size:=by have:=hb1.size;have:=HSZ0.out;omega
  have W1:=W0.next hb1;have Q1:=Q0.next hb1;have R61:=R6.next hb1;have R81:=R8.next hb1;clear a0 a1 a2 a3 al hb9 hj0 W0 Q0 R6 R8;have a0:=W1.c 0 rfl;have a1:=W1.c 1 rfl;have a2:=W1.c 2 rfl;have a3:=W1.c 3 rfl;have q_:=Q1.o8;have al:=W1.lt;have ql:=Q1.lt;have hB1s:w.heap.size<=wc.heap.size:=HB1.out.size;have hs1w:w.heap.size<wc.heap.size:=by have:=HWB.out;omega
  go_upto_region 5 with (first
   | ((with_reducible refine (CE.out wc HB1.out hs1w).mono ?_);rintro e2 w2 hq2;obtain ⟨ea,ek,l2,rfl,RI2,hnw2,hes2,hb2⟩:=hq2;have W2:=W1.next hb2;have Q2:=Q1.next hb2;have R62:=R61.next hb2;have R82:=R81.next hb2;have ha3:=(Kc w2).alloc lr (.cells [.slice ea l2.length ek].toArray 79);have ha4:=ha3.alloc (by simp) (.cells (envL jb w2.heap.size now).toArray 83);have hB4:=HB1.out.trans ((hb2.trans (ha4.mono hb2.size)).mono hB1s);have K4:=(AtL.new w2 [.slice ea l2.length ek] 79).alloc (.cells (envL jb w2.heap.size now).toArray 83);have V4:=AtL.new (w2.alloc (.cells [.slice ea l2.length ek].toArray 79)) (envL jb w2.heap.size now) 83;clear a0 a1 a2 a3 q_;have a0:=W2.c 0 rfl;have a1:=W2.c 1 rfl;have a2:=W2.c 2 rfl;have a3:=W2.c 3 rfl;have q_:=Q2.o8;have al2:=W2.lt;have ql2:=Q2.lt)
   | ((with_reducible refine (CQ.out _ hB4).mono ?_);rintro e5 w5 hq5;obtain ⟨xa,xk,rfl,hs5,hb5,hn5⟩:=cloq_open hq5;have W5:=(W2.next ha4).next hb5;have Q5:=(Q2.next ha4).next hb5;have R65:=(R62.next ha4).next hb5;have R85:=(R82.next ha4).next hb5;have K5:=K4.next hb5;have V5:=V4.next hb5;clear a0 a1 a2 a3 q_;have q_:=Q5.o8;have g0:=Q5.f 0 rfl;have g1:=Q5.f 1 rfl;have g2:=Q5.f 2 rfl;have g3:=Q5.f 3 rfl;have g4:=Q5.f 4 rfl;have g5:=Q5.f 5 rfl;have g6:=Q5.f 6 rfl;have g7:=Q5.f 7 rfl;have ql5:=Q5.lt)
   | fail)
  have hB5:=Kd hB4 hb5;have hb25:=ha4.trans (hb5.mono ha4.size);rw [show (w2.alloc (.cells [.slice ea l2.length ek].toArray 79)).heap.size=w2.heap.size+1 by simp] at V5;have hG4:0<Wb+4:=by omega
  have E5:=env_new (HM.out.below hB5 lr) hG4 HJ1 hjb hs1 RI2 hnw2 hb2 K5 hb25;have k56:Kp w5.heap.size (fun b=>b=Wb+1) w5 (w5.setCell ⟨Wb+1,5,none⟩ (.slice xa qh.length xk)):=(Kp.refl w5.heap.size (fun b=>b=Wb+1) w5).setCell ⟨Wb+1,5,none⟩ (.inl rfl) (.slice xa qh.length xk);have E6:=EnvP.low (R:=Wb+1) E5 (show Wb+1<Wb+4 by omega) (by omega) (by omega) k56;have Q6:AtL (w5.setCell ⟨Wb+1,5,none⟩ (.slice xa qh.length xk)) (Wb+1) [.int .i64 tk,.string me,.string ur,.string og,.int .i64 mo,.slice xa qh.length xk,.string qb,.bool ck]:=Q5.set 5 (.slice xa qh.length xk);have hls2:Wb+4<=w2.heap.size:=Kg hs1 hb2.size;have V6:=V5.far ⟨Wb+1,5,none⟩ (.slice xa qh.length xk) (show Wb+1≠w2.heap.size+1 by omega);have W6:=W5.far ⟨Wb+1,5,none⟩ (.slice xa qh.length xk) (show Wb+1≠Wb by omega);have R66:=R65.far ⟨Wb+1,5,none⟩ (.slice xa qh.length xk) (show Wb+1≠Wb+1+1 by omega);have R86:=R85.far ⟨Wb+1,5,none⟩ (.slice xa qh.length xk) (show Wb+1≠Wb+1+1+1 by omega);have hB6:Below w.heap.size w (w5.setCell ⟨Wb+1,5,none⟩ (.slice xa qh.length xk)):=hB5.setCell (p:=⟨Wb+1,5,none⟩) (by show w.heap.size<=Wb+1;have:=HWB.out;omega) (.slice xa qh.length xk);have hs4:Wb+4<=w5.heap.size:=Kg hls2 hb25.size;have hq6:=slk_cell hs5 ⟨Wb+1,5,none⟩ (.slice xa qh.length xk) (fun b' off n k e=>by have h1:=hn5 b' off n k e;have h2:=ha4.size;show b'≠Wb+1;omega);have hsz6:(w5.setCell ⟨Wb+1,5,none⟩ (.slice xa qh.length xk)).heap.size=w5.heap.size:=World.size_setCell _ _ _;obtain ⟨w6,hw6⟩:=Ka (w5.setCell ⟨Wb+1,5,none⟩ (.slice xa qh.length xk));rw [hw6] at E6 Q6 V6 W6 R66 R86 hB6 hq6 hsz6;rw [hw6];obtain ⟨o,ho⟩:=Ka (beginF J now (newS tk me ur og mo qh qb ck) (lx.map (·.2)));have CB:=Kb (@Begin_is ⟨fun b=>b<Wb+4⟩ w6 jb w2.heap.size (Wb+4) _ _ J nx l2 20 100 E6 tk me ur og mo (.slice xa qh.length xk) qh qb ck hq6 HHS.out HHJ.out (by rw [hes2];exact HHC.out) (by omega) (by omega) now o (by rw [hes2];exact ho));have hph:o.s.ph=1\/o.s.ph=3\/o.s.ph=4:=by rw [<-ho];exact (beginF_send J now (S:=newS tk me ur og mo qh qb ck) (lx.map (·.2)) rfl).1
  have HPH:=Kb hph;have HO:=Kb ho;have hVM:¬ MuP jb w2.heap.size (.slice xja J.length xjc) (.slice ea l2.length ek) (w2.heap.size+1):=by
   have h1:=HJ1.at_.lt;have h2:=hb2.size;rintro (e | e | e | e)
   ·omega
   ·omega
   ·have:=(HJ1.own.lt _ e).2;omega
   ·have:=(RI2.own.lt _ e).2;omega
  have hVB:∀ b,MuP jb w2.heap.size (.slice xja J.length xjc) (.slice ea l2.length ek) b->Wb+4<=b:=by
   rintro b (e | e | e | e)
   ·omega
   ·omega
   ·exact own_base HJ1.own e
   ·have:=own_base RI2.own e;omega
  have hV6:w2.heap.size+1<w6.heap.size:=by have:=V6.lt;exact this
  have RF6:Hid (RunF w jb w2.heap.size (w2.heap.size+1) now [.slice ja J.length jc,.int .i64 nx,.slice ca lx.length cc,.int .i64 now] w6):=Kb (by have e:=HWB.out;subst e;exact ⟨hB6,V6,W6,R66,R86⟩);have HRUN:Hid (∀ (x:Ending) (w7:World),@BeginR ⟨fun b=>b<Wb+4⟩ w6 jb w2.heap.size (Wb+4) (.slice xja J.length xjc) J nx (.slice ea l2.length ek) o x w7->∃ (L:List Value) (ea:Option Addr) (n ek:Nat),x = .returned (.tuple #[.agg L.toArray,.slice ea n ek])/\w6.heap.size<=w7.heap.size/\(L.length=23/\L.all (·.oneCell')=true)/\RunA w jb w2.heap.size w7.heap.size (w2.heap.size+1) now [.slice ja J.length jc,.int .i64 nx,.slice ca lx.length cc,.int .i64 now] ⟨o.s,(J,nx),o.c,o.ev⟩ (.slice ea n ek) ((w7.alloc (.cells fz.toArray 40)).setCells w7.heap.size 0 L)):=Kb (by have e:=HWB.out;subst e;intro x w7 q;obtain ⟨va,vk,wa,wk,ea,n,ek,h1,h2,h3⟩:=BeginR.run hph RF6.out hV6 hVM (by omega) hVB q;exact ⟨fsV o.s (.slice va o.s.qh.length vk) (.slice wa o.s.hs.length wk),ea,n,ek,h1,h2,⟨rfl,rfl⟩,h3 _ (Below.sets (k:=w7.heap.size) lr (o:=0) _ ((Kc w7).alloc lr (.cells fz.toArray 40))) (AtL.sets (AtL.new w7 fz 40) rfl)⟩);clear RF6;clear hw6 ho hph hVM hVB E5 k56 W5 Q5 R65 R85 K5 V5 hB5 hb25 q_ g0 g1 g2 g3 g4 g5 g6 g7 ql5 E6 hq6 RI2 hnw2 hes2 hb2 W2 Q2 R62 R82 ha3 ha4 hB4 K4 V4 hs5 hb5 hn5 al2 ql2 W1 Q1 R61 R81 al ql W6 R66 R86 HJ1 hb1;have q_:=Q6.o8;have ql6:=Q6.lt;have v0:=V6.c 0 rfl;have v1:=V6.c 1 rfl;have v2:=V6.c 2 rfl;have vl6:=V6.lt
  go_upto_region 6 with (first
   | ((with_reducible refine CB.out.mono ?_);rintro e7 w7 hq7;obtain ⟨L,ea7,en7,ek7,rfl,hs67,hl7,HA7⟩:=HRUN.out _ _ hq7;have HL:=Kb hl7;have HA7:=Kb HA7;have Z8:=AtL.new w7 fz 40;clear hq7 hl7)
   | (refine wpList_store_at rfl 40 _ _ rfl w7.heap.size L rfl rfl Z8 HL.out.1 (by rw [HL.out.1];kernel_rfl) HL.out.2 ?_)
   | fail)
  obtain ⟨w8,hw8⟩:∃ w8:World,(w7.alloc (.cells fz.toArray 40)).setCells w7.heap.size 0 L=w8:=⟨_,rfl⟩
  obtain ⟨s1,hs1e⟩:=Ka w7.heap.size;obtain ⟨cb,hcb⟩:=Ka w2.heap.size;obtain ⟨r0,hr0⟩:∃ r0:Rn,(⟨o.s,(J,nx),o.c,o.ev⟩:Rn)=r0:=⟨_,rfl⟩
  rw [hw8,hs1e,hcb,hr0] at HA7;rw [hw8,hs1e,hcb];have hst:startF now (newS tk me ur og mo qh qb ck) (J,nx) (lx.map (·.2))=r0:=by rw [<-hr0,<-HO.out];rfl
  have hok0:=startF_ok (now:=now) HHS.out rfl (j:=(J,nx)) HHJ.out HNX.out.1 HNX.out.2 HHC.out;rw [hst] at hok0;have HOK0:=Kb hok0;have HRR2:Hid (runF now (lo.map (·.2)) r0=r):=Kb (by rw [<-hst];exact HRR.out);have hwb:w.heap.size+4<=cb+1:=by have:=HWB.out;omega
  clear hw8 hs1e hcb hr0 hst hok0 HO HRR q_ v0 v1 v2 ql6 vl6 Q6 V6 Z8 HL HRUN CB hs67 hsz6 HPH hB6 hV6 hG4 hls2 hs4 hs1 hs1w hB1s hjb hG;go_wp2_with fail;go_loopw [13,44] (fun v iv wr=>∃ k:Nat,k<=lo.length/\iv = .int .i64 k/\Hid (RunA w jb cb s1 (cb+1) now [.slice ja J.length jc,.int .i64 nx,.slice ca lx.length cc,.int .i64 now] (runF now ((lo.take k).map (·.2)) r0) v wr)) (fun _ iv _=>lo.length - (intOf iv).toNat);case atStart=>exact ⟨0,Kh _,rfl,HA7⟩
  case round=>
   obtain ⟨k,hk,rfl,HR⟩:=hrel;by_cases hlt:k<lo.length
   ·have hokk:=runF_ok (now:=now) ((lo.take k).map (·.2)) 0 r0 (fun y hy=>by obtain ⟨z,hz,rfl⟩:=List.mem_map.1 hy;exact (HOP.out z (Xk hz)).1) (by rw [Za,Jk];omega) HOK0.out;rw [Za,Jk,Zd hk,Jm] at hokk;have hsn:runF now ((lo.take (k+1)).map (·.2)) r0=opF now lo[k].2 (runF now ((lo.take k).map (·.2)) r0):=by rw [Jf hlt,Zi,Jw,Zt,runF_snoc]
    obtain ⟨rk,hrk⟩:=Ka (runF now ((lo.take k).map (·.2)) r0);rw [hrk] at hokk hsn HR;obtain ⟨b0,off,cap,he,hb0',hcell⟩:=HCO.out (by omega);injection he with e1 e2 e3;have hop1:=HOP.out _ (Ky hlt);have hoh1:=HOH.out _ (Ky hlt);have hse1:=HSE.out _ (Ky hlt);have hbw:Below w.heap.size w wr:=by obtain ⟨_,_,_,_,_,_,_,_,RF,_⟩:=HR.out;exact RF.b
    have hcel:∀ j u,(opC lo[k])[j]? = some u->wr.cell? ⟨b0,off+k * 4+j,none⟩=some u:=fun j u hu=>(brl hbw _ _ hb0').trans (hcell k hlt j u hu);obtain ⟨y,hy⟩:=Ka (lo[k]);rw [hy] at hcel hop1 hoh1 hsn hse1;obtain ⟨yv,⟨ek,est,ehs,ebo⟩⟩:=y;have HSE1:=Kb hse1;clear hse1;simp only at hop1 hoh1;obtain ⟨ha,hk2,rfl,_⟩:=hoh1.shape;have c0:=hcel 0 _ rfl;have c1:=hcel 1 _ rfl;have c2:=hcel 2 _ rfl;have c3:=hcel 3 _ rfl;simp only [Ku] at c0;simp only at c0 c1 c2 c3;have HSN:=Kb hsn;have HOKK:=Kb hokk;have HOP1:=Kb hop1;have HOH1:=Kb hoh1;have HBW:=Kb hbw;have hki:(k:Int)<(lo.length:Int):=by omega
    have X0:=AtL.new wr [.int .u8 ek,.int .i64 est,.slice ha ehs.length hk2,.string ebo] 32;have HAR:=Kb (HR.out.below ((Kc wr).alloc lr (.cells [.int .u8 ek,.int .i64 est,.slice ha ehs.length hk2,.string ebo].toArray 32)));have HRW:=HR;clear hcel hop1 hoh1 hsn hokk hrk hcell hbw hy HR;subst e1 e3;clear e2;go_upto_region 11 with fail;obtain ⟨wa,hwa⟩:∃ wa:World,wr.alloc (.cells #[.int .u8 ek,.int .i64 est,.slice ha ehs.length hk2,.string ebo] 32)=wa:=⟨_,rfl⟩
    obtain ⟨Xb,hXb⟩:=Ka wr.heap.size;have hX0:AtL wa Xb [.int .u8 ek,.int .i64 est,.slice ha ehs.length hk2,.string ebo]:=by rw [<-hwa,<-hXb];exact X0
    have hAR:RunA w jb cb s1 (cb+1) now [.slice ja J.length jc,.int .i64 nx,.slice ca lx.length cc,.int .i64 now] rk u13 wa:=by rw [<-hwa];exact HAR.out
    have hwra:Below wr.heap.size wr wa:=by rw [<-hwa];exact (Kc wr).alloc lr _
    have V0:AtL wa (cb+1) (envL jb cb now):=by obtain ⟨_,_,_,_,_,_,_,_,RF,_⟩:=hAR;exact RF.v
    have HBA:Hid (Below w.heap.size w wa):=by obtain ⟨_,_,_,_,_,_,_,_,RF,_⟩:=hAR;exact Kb RF.b
    rw [hwa,hXb];have HXB:=Kb hXb;have hlen:∀ r':Rn,r'=opF now ⟨ek,est,ehs,ebo⟩ rk->r'.ev.length<=1000:=fun r' e=>by rw [e];have:=(opF_ok (now:=now) HOP1.out.1 (by omega) HOKK.out).e;omega
    have HLEN:=Kb hlen;have HA:=Kb hAR;have HWRA:=Kb hwra;clear X0 HAR hwa hXb hAR hlen hwra c0 c1 c2 c3;have x_:=hX0.o4;have v0:=V0.c 0 rfl;have v1:=V0.c 1 rfl;have v2:=V0.c 2 rfl;have xl:=hX0.lt;have vl:=V0.lt;have hmod:ek % 5=0\/ek % 5=1\/ek % 5=2\/ek % 5=3\/ek % 5=4:=by omega
    rcases hmod with h5 | h5 | h5 | h5 | h5
    ·have e0:((ek:Int) % 5 == 0)=true:=Ju.2 (by omega);have CHd:=Kb (fun (w4:World) (hb:Below wr.heap.size wr w4) (u:Value) (hu:SlK hdC 2 w4 u ehs) (hn:∀ b off n k,u = .slice (some ⟨b,off,none⟩) n k->wr.heap.size<=b)=>run_head HRW.out HOKK.out (by omega) ⟨ek,est,ehs,ebo⟩ HOP1.out.1 HSE1.out h5 hb hu hn);have CP:=Kb (fun (w':World) (hb:Below w.heap.size w w')=>lcp4_is ehs (.slice ha ehs.length hk2) w' (HOH1.out.below hb lr) (Kg HOP1.out.1.hs.len (by decide)));have hnX:u13.ownBlock≠some Xb:=fun e=>by have h1:=HRW.out.olt e;have h2:=HXB.out;omega
     have hnV:u13.ownBlock≠some (cb+1):=fun e=>by have h1:=HRW.out.obase e;omega
     have hXr:wr.heap.size<=Xb:=Jl HXB.out;have hws:=HBA.out.size;have hdr:Below wr.heap.size wr wa.drew:=HWRA.out.drew;have hdr2:Below w.heap.size w wa.drew:=HBA.out.drew;clear h5;go_upto_region 12 with fail;clear x_ v0 v1 v2
     go_region_held3 (fun w'=>(w'.cell? ⟨Xb,1,none⟩=some (.int .i64 est)/\w'.cell? ⟨Xb,2,none⟩=some (.slice ha ehs.length hk2))/\w'.cell? ⟨cb+1,0,none⟩=some (.pointer (some ⟨jb,0,none⟩))/\w'.cell? ⟨cb+1,1,none⟩=some (.pointer (some ⟨cb,0,none⟩))/\w'.cell? ⟨cb+1,2,none⟩=some (.int .i64 now))
      (first | with_reducible exact xv_mk X6 V6 | with_reducible exact xv_mk X5 V5 | with_reducible exact xv_mk X4 V4 | exact xv_mk hX0.drew V0.drew | go_keep)
      (first
        | (go_at_call 33;have T1:=CP.out wa.drew hdr2;(with_reducible refine T1.mono ?_);rintro e4 w4 hq4;obtain ⟨xa2,xk2,rfl,hs4,hb4,hn4⟩:=cloq_open hq4;have X4:=hX0.drew.next hb4;have V4:=V0.drew.next hb4;have xl4:=X4.lt;have vl4:=V4.lt;have hdr4:Below wr.heap.size wr w4:=hdr.trans (hb4.mono hdr.size);have hn4':∀ b off n k,Value.slice xa2 ehs.length xk2 = .slice (some ⟨b,off,none⟩) n k->wr.heap.size<=b:=(fun b off n k e=>Kg hdr.size (hn4 b off n k e));have HS4:=Kb hs4;have HN4:=Kb hn4';clear hs4 hn4 hn4' hb4 hq4)
        | (go_at_call 31;have T2:=CHd.out w4 hdr4 _ HS4.out HN4.out;(with_reducible refine T2.mono ?_);rintro e5 w5 hq5;have X5:=hq5.2 Xb _ X4 (.inl hXr);have V5:=hq5.2 (cb+1) _ V4 (.inr rfl);obtain ⟨⟨qa,qn,qc,qe,rfl,hqe,hB5⟩,-⟩:=hq5;have xl5:=X5.lt;have vl5:=V5.lt;have HB4:=Kb hB5;have HQE:=Kb hqe;clear hB5 hqe)
        | (refine RunB.stepR slEv (by decide) HB4.out (by rw [<-HQE.out];exact HLEN.out _ rfl) (by rfl) (.tmp 56) (.tmp 63) (by rfl) (by rfl) (by rfl) ?_;intro v6 w6 hA6 hfr6;have X6:=hfr6 Xb _ X5 hnX;have V6:=hfr6 (cb+1) _ V5 hnV;have xl6:=X6.lt;have vl6:=V6.lt;have HA5:=Kb hA6;clear hA6 hfr6)
        | fail)
     all_goals
      go_wp2_with fail;go_roundw;case rel=>exact ⟨k+1,by omega,by go_num,Kb (by rw [HSN.out];have h:=HA5.out;rw [<-HQE.out] at h;exact h)⟩
      case measure=>simp [intOf];omega
    ·have HC:=Kb (run_data HA.out HOKK.out ⟨ek,est,ehs,ebo⟩ HOP1.out.1 h5);have e0:((ek:Int) % 5 == 0)=false:=Ki.2 (by omega);have e1:((ek:Int) % 5 == 1)=true:=Ju.2 (by omega);clear h5
     go_wp2_with (first
      | ((with_reducible refine HC.out.mono ?_);rintro e4 w4 hq4;obtain ⟨qa,qn,qc,qe,rfl,hqe,hB4⟩:=hq4;have HB4:=Kb hB4;have HQE:=Kb hqe;clear hB4 hqe)
      | (refine RunB.step slEv (by decide) HB4.out (by rw [<-HQE.out];exact HLEN.out _ rfl) (by rfl) (.tmp 67) (.tmp 71) (by rfl) (by rfl) (by rfl) ?_;intro v5 w5 hA5 _;have HA5:=Kb hA5;clear hA5)
      | fail)
     exact M25
    ·have HC:=Kb (run_end HA.out HOKK.out (by omega) ⟨ek,est,ehs,ebo⟩ h5);have e0:((ek:Int) % 5 == 0)=false:=Ki.2 (by omega);have e1:((ek:Int) % 5 == 1)=false:=Ki.2 (by omega);have e2:((ek:Int) % 5 == 2)=true:=Ju.2 (by omega);clear h5
     go_wp2_with (first
      | ((with_reducible refine HC.out.mono ?_);rintro e4 w4 hq4;obtain ⟨qa,qn,qc,qe,rfl,hqe,hB4⟩:=hq4;have HB4:=Kb hB4;have HQE:=Kb hqe;clear hB4 hqe)
      | (refine RunB.step slEv (by decide) HB4.out (by rw [<-HQE.out];exact HLEN.out _ rfl) (by rfl) (.tmp 75) (.tmp 77) (by rfl) (by rfl) (by rfl) ?_;intro v5 w5 hA5 _;have HA5:=Kb hA5;clear hA5)
      | fail)
     exact M25
    ·have HC:=Kb (run_Lost HA.out ⟨ek,est,ehs,ebo⟩ h5);have e0:((ek:Int) % 5 == 0)=false:=Ki.2 (by omega);have e1:((ek:Int) % 5 == 1)=false:=Ki.2 (by omega);have e2:((ek:Int) % 5 == 2)=false:=Ki.2 (by omega);have e3:((ek:Int) % 5 == 3)=true:=Ju.2 (by omega);clear h5
     go_wp2_with (first
      | ((with_reducible refine HC.out.mono ?_);rintro e4 w4 hq4;obtain ⟨qa,qn,qc,qe,rfl,hqe,hB4⟩:=hq4;have HB4:=Kb hB4;have HQE:=Kb hqe;clear hB4 hqe)
      | (refine RunB.step slEv (by decide) HB4.out (by rw [<-HQE.out];exact HLEN.out _ rfl) (by rfl) (.tmp 81) (.tmp 82) (by rfl) (by rfl) (by rfl) ?_;intro v5 w5 hA5 _;have HA5:=Kb hA5;clear hA5)
      | fail)
     exact M25
    ·have HC:=Kb (run_Abort HA.out ⟨ek,est,ehs,ebo⟩ h5);have e0:((ek:Int) % 5 == 0)=false:=Ki.2 (by omega);have e1:((ek:Int) % 5 == 1)=false:=Ki.2 (by omega);have e2:((ek:Int) % 5 == 2)=false:=Ki.2 (by omega);have e3:((ek:Int) % 5 == 3)=false:=Ki.2 (by omega);clear h5
     go_wp2_with (first
      | ((with_reducible refine HC.out.mono ?_);rintro e4 w4 hq4;obtain ⟨qa,qn,qc,qe,rfl,hqe,hB4⟩:=hq4;have HB4:=Kb hB4;have HQE:=Kb hqe;clear hB4 hqe)
      | (refine RunB.step slEv (by decide) HB4.out (by rw [<-HQE.out];exact HLEN.out _ rfl) (by rfl) (.tmp 51) (.tmp 52) (by rfl) (by rfl) (by rfl) ?_;intro v5 w5 hA5 _;have HA5:=Kb hA5;clear hA5)
      | fail)
     exact M25
   ·obtain rfl:k=lo.length:=by omega
    rw [Jq,HRR2.out] at HR;obtain ⟨sva,svk,swa,swk,fea,fn,fek,fja,fjk,fca,fn2,fck,hv,S2,J2,C2,W2,R6,R8,⟨hg1,hg2,hg3⟩,HQ⟩:=HR.out.fin;subst hv;rw [HWB.out] at W2 R6 R8 hg1 hg2 hg3;have R6:AtL wr (Wb+1+1) fz:=R6;have R8:AtL wr (Wb+1+1+1) wz:=R8;have HQF:Hid (∀ w',Kp wr.heap.size (fun b=>b=Wb+1+1\/b=Wb+1+1+1) wr w'->RunQ w now r (.returned (.tuple #[.agg (fsV r.s (.slice sva r.s.qh.length svk) (.slice swa r.s.hs.length swk)).toArray,.slice fea fn fek,.agg #[.slice fja r.j.1.length fjk,.int .i64 r.j.2,.slice fca fn2 fck,.int .i64 now]])) w'):=Kb (by have e:=HWB.out;subst e;exact HQ);obtain ⟨LS,hLS⟩:=Ka (fsV r.s (.slice sva r.s.qh.length svk) (.slice swa r.s.hs.length swk));have hll:LS.length=23:=by rw [<-hLS];rfl
    have HONE2:=Kb (show ∀ v∈LS,v.oneCell'=true by rw [<-hLS];exact Jv.1 rfl);rw [hLS] at S2 HQF;have S3:=S2.drew;have J3:=J2.drew;have C3:=C2.drew;have W3:=W2.drew;have R63:=R6.drew;have R83:=R8.drew;have n1:Wb+1+1≠s1:=by omega
    have n2:Wb+1+1≠jb:=by omega
    have n3:Wb+1+1≠cb:=by omega
    have n4:Wb+1+1≠Wb:=by omega
    have n5:Wb+1+1≠Wb+1+1+1:=by omega
    have m1:Wb+1+1+1≠s1:=by omega
    have m2:Wb+1+1+1≠jb:=by omega
    have m3:Wb+1+1+1≠cb:=by omega
    have m4:Wb+1+1+1≠Wb:=by omega
    have S4:=AtL.farSets n1 (o:=0) LS S3;have J4:=AtL.farSets n2 (o:=0) LS J3;have C4:=AtL.farSets n3 (o:=0) LS C3;have W4:=AtL.farSets n4 (o:=0) LS W3;have R84:=AtL.farSets n5 (o:=0) LS R83;have R64:=AtL.sets (vs:=LS) R63 hll;clear hLS HQ S2 J2 C2 W2 R6 R8;go_upto_region 20 with fail;have d_:=R83.o4;have g0:=R83.f 0 rfl;have g1:=R83.f 1 rfl;have g2:=R83.f 2 rfl;have g3:=R83.f 3 rfl;have e0:=R84.c 0 rfl;have e1:=R84.c 1 rfl;have e2:=R84.c 2 rfl;have e3:=R84.c 3 rfl;have h0:=R84.f 0 rfl;have h1:=R84.f 1 rfl;have h2:=R84.f 2 rfl;have h3:=R84.f 3 rfl;have rl3:=R83.lt;have rl4:=R84.lt;have huS:=Tryz.underlying40;have hiS:(Tryz.prog.info? 40).map (·.size)=some LS.length:=by rw [hll];kernel_rfl
    have hone:=HONE2.out;refine wp_region_held_drew (S:=(fun w'=>(w'.rangeAt s1 0 LS/\w'.there (Wb+1+1) 0 23)/\(w'.cell? ⟨jb,0,none⟩=some (.slice fja r.j.1.length fjk)/\w'.cell? ⟨jb,1,none⟩=some (.int .i64 r.j.2))/\w'.cell? ⟨cb,0,none⟩=some (.slice fca fn2 fck)/\w'.cell? ⟨Wb,3,none⟩=some (.int .i64 now))) (by kernel_rfl) (endS_mk S3 R63 rfl J3 C3 W3) (fun hHeld=>?_)
    refine' wpAnyH_take (i:=0) (oi:=_) (v:=_) (by simp only [List.getElem?_toArray,Xl,List.getElem?_cons_zero];rfl) (by kernel_rfl) (by kernel_rfl) (by kernel_rfl) (by intro _ _ _ h;exact h) (yieldsIf_load_mid (by rfl) _ _ rfl _ _ rfl _ _ (fun w' hw'=>hw'.1.1) huS rfl hiS) (by assumption) ?_
    simp only [Act.put,Kr,Km,Ks];refine tkH 1 ?_;simp only [Act.put,Kr,Km,Ks];refine tkH 2 ?_;simp only [Act.put,Kr,Km,Ks];refine tkH 3 ?_;simp only [Act.put,Kr,Km,Ks];refine tkH 4 ?_;simp only [Act.put,Kr,Km,Ks];refine tkH 5 ?_;simp only [Act.put,Kr,Km,Ks];refine tkH 6 ?_;simp only [Act.put,Kr,Km,Ks];refine tkH 7 ?_;simp only [Act.put,Kr,Km,Ks];have S5:=AtL.farSets m1 (o:=0) [.slice fja r.j.1.length fjk,.int .i64 r.j.2,.slice fca fn2 fck,.int .i64 now] S4;have J5:=AtL.farSets m2 (o:=0) [.slice fja r.j.1.length fjk,.int .i64 r.j.2,.slice fca fn2 fck,.int .i64 now] J4;have C5:=AtL.farSets m3 (o:=0) [.slice fja r.j.1.length fjk,.int .i64 r.j.2,.slice fca fn2 fck,.int .i64 now] C4;have W5:=AtL.farSets m4 (o:=0) [.slice fja r.j.1.length fjk,.int .i64 r.j.2,.slice fca fn2 fck,.int .i64 now] W4;have R65:=AtL.farSets (Ne.symm n5) (o:=0) [.slice fja r.j.1.length fjk,.int .i64 r.j.2,.slice fca fn2 fck,.int .i64 now] R64;have R85:=AtL.sets (vs:=[.slice fja r.j.1.length fjk,.int .i64 r.j.2,.slice fca fn2 fck,.int .i64 now]) R84 rfl;have hKp:=(((Kp.of_below (M:=fun b=>b=Wb+1+1\/b=Wb+1+1+1) ((Below.refl wr.heap.size wr).drew) lr).sets' (k:=Wb+1+1) (.inl (.inl rfl)) 0 LS).sets' (k:=Wb+1+1+1) (.inl (.inr rfl)) 0 [.slice fja r.j.1.length fjk,.int .i64 r.j.2,.slice fca fn2 fck,.int .i64 now])
    have HKP:=Kb hKp;have t6:=R63.there 23 rfl;have t8:=R84.there 4 rfl;have hiW:(Tryz.prog.info? 27).map (·.size)=some 4:=by kernel_rfl
    rw [<-hll] at t6;clear hKp d_ g0 g1 g2 g3 e0 e1 e2 e3 h0 h1 h2 h3;refine held_store 8 _ 40 (.tmp 6) (.tmp 85) (Wb+1+1) 0 LS (by kernel_rfl) (by simp only [List.getElem?_toArray,Xl,List.getElem?_cons_zero];rfl) (by rfl) rfl rfl rfl t6 hiS hone (endS_mk S4 R64 hll J4 C4 W4) (fun hHeld=>?_);simp only [Act.put,Kr,Km,Ks];refine tkH 9 ?_;simp only [Act.put,Kr,Km,Ks];refine held_store 10 _ 27 (.tmp 8) (.tmp 92) (Wb+1+1+1) 0 [.slice fja r.j.1.length fjk,.int .i64 r.j.2,.slice fca fn2 fck,.int .i64 now] (by kernel_rfl) (by simp only [List.getElem?_toArray,Xl,List.getElem?_cons_zero];rfl) (by rfl) rfl rfl rfl t8 hiW (Jv.1 rfl) (endS_mk S5 R65 hll J5 C5 W5) (fun hHeld=>?_);simp only [Act.put,Kr,Km,Ks];refine wpAnyH_done (by kernel_rfl) ?_ _;go_wp2_with fail;exact bodyPost_ret (retctc_run (vs:=LS) (us:=[.slice fja r.j.1.length fjk,.int .i64 r.j.2,.slice fca fn2 fck,.int .i64 now]) Tryz.results13 (by rw [hll];exact Tryz.sizeOf40) Tryz.isAgg40 Tryz.sizeOf27 Tryz.isAgg27 _ _ _ _ _ rfl rfl rfl R65 R85) rfl (HQF.out _ HKP.out)
end Go.Proofs.YtjdhaacmlpegoaaGreatDoor
