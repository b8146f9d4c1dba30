/- Part 47 of what the proof needs: YJ YC YO. -/
import Derived.Test.YtjdhaacmlpegoaaGreatDoorP44
import Derived.Test.YtjdhaacmlpegoaaGreatDoorP46
import Derived.Test.YtjdhaacmlpegoaaGreatDoorP42
import Derived.Test.YtjdhaacmlpegoaaGreatDoorP43
import Derived.Test.YtjdhaacmlpegoaaGreatDoorP01
import Derived.Test.YtjdhaacmlpegoaaGreatDoorP38
import Derived.Test.YtjdhaacmlpegoaaGreatDoorP31
namespace Go.Proofs.YtjdhaacmlpegoaaGreatDoor
open Go.RowKit
set_option linter.unusedSimpArgs false
set_option linter.unusedVariables false
section
variable {w w' : World} {s0 jb cb B : Nat} {vj vc : Value} {J : List Ck} {nx : Int} {lx : List Ee} {X X' M : Nat → Prop}
theorem hs_re {N:Nat->Prop}{u:Value}{hs:List Hd}(h : @Hs ⟨X⟩ N w u hs)(k:Kp w.heap.size M w w')(hM:∀ b,b<w.heap.size->M b->X b)(hX:∀ b,X' b->X b\/w.heap.size<=b): @Hs ⟨X'⟩ N w' u hs:=
 ⟨slk_kp h.1 (fun h0 b off n c e hm=>h.2 h0 b off n c e (.inr (hM b (slk_lt h.1 h0 e) hm))) k lr,fun h0 b off n c e hm=>by
  rcases hm with hm | hm
  ·exact h.2 h0 b off n c e (.inl hm)
  ·rcases hX b hm with h1 | h1
   ·exact h.2 h0 b off n c e (.inr h1)
   ·have:=slk_lt h.1 h0 e;omega⟩
theorem env_re (h : @EnvIn ⟨X⟩ w s0 jb cb B vj vc J nx lx)(k:Kp w.heap.size M w w')(hM:∀ b,b<w.heap.size->M b->X b)(hN:∀ b,M b->¬ Mu s0 jb cb vj vc b)(hB:∀ b,M b->B<=b)(hX:∀ b,X' b->X b\/w.heap.size<=b)(hX2:∀ b,X' b->b<w'.heap.size): @EnvIn ⟨X'⟩ w' s0 jb cb B vj vc J nx lx:=by
 obtain ⟨hmx,hgm,hbs,hbj,hbc,hls,hsj,hsc,hjc,hjar,hca,hjs,hjcb,hcs,hcj,hjr,hf,hpx⟩:=h
 have lG:0<w.heap.size:=by omega
 have hn:∀ {hs:List Hd} {u:Value},SlK hdC 2 w u hs->FarM (@Px ⟨X⟩ (Mu s0 jb cb vj vc)) hs u->SlK hdC 2 w' u hs/\FarM (@Px ⟨X'⟩ (Mu s0 jb cb vj vc)) hs u:=fun h1 h2=>@hs_re w w' X X' M (Mu s0 jb cb vj vc) _ _ ⟨h1,h2⟩ k hM hX
 refine @EnvIn.mk ⟨X'⟩ w' s0 jb cb B vj vc J nx lx ?_ hgm hbs hbj hbc (Nat.lt_of_lt_of_le hls k.size) hsj hsc hjc ⟨hjar.at_.kp k hjar.at_.lt (fun e=>hN _ e (.inr (.inl rfl))),own_kp hjar.own k lr (fun g hg e=>hN g e (.inr (.inr (.inr (.inl hg))))),hjar.ne,Nat.le_trans hjar.le k.size⟩ ⟨hca.at_.kp k hca.at_.lt (fun e=>hN _ e (.inr (.inr (.inl rfl)))),own_kp hca.own k lr (fun g hg e=>hN g e (.inr (.inr (.inr (.inr hg))))),hca.ne,Nat.le_trans hca.le k.size,fun x hx=>?_,hca.far⟩ hjs hjcb hcs hcj hjr (fun x hx=>⟨(hn (hca.rd x hx).va (hf x hx).1).2,(hn (hca.rd x hx).hd (hf x hx).2).2⟩) hX2
 ·obtain ⟨m,hm⟩:=hmx
  exact ⟨m,(k.cell (b:=0) (o:=0) lG (fun e=>by have:=hB _ e;omega)).trans hm⟩
 ·have hr:=hca.rd x hx
  exact ⟨hr.u,hr.st,hr.bo,hr.ti,(hn hr.va (hf x hx).1).1,(hn hr.hd (hf x hx).2).1⟩
theorem fin_re {S:FS}(h : @FIn ⟨X⟩ w s0 jb cb B vj J nx vc lx S)(k:Kp w.heap.size M w w')(hM:∀ b,b<w.heap.size->M b->X b)(hN:∀ b,M b->¬ Mu s0 jb cb vj vc b)(hB:∀ b,M b->B<=b)(hX:∀ b,X' b->X b\/w.heap.size<=b)(hX2:∀ b,X' b->b<w'.heap.size): @FIn ⟨X'⟩ w' s0 jb cb B vj J nx vc lx S:=by
 obtain ⟨E,va,vk,wa,wk,S0,hq,hh⟩:=h
 exact @FIn.mk ⟨X'⟩ _ _ _ _ _ _ _ _ _ _ _ (env_re E k hM hN hB hX hX2) ⟨va,vk,wa,wk,S0.kp k S0.lt (fun e=>hN _ e (.inl rfl)),hs_re hq k hM hX,hs_re hh k hM hX⟩
end
def RX (w:World)(fl:Bool)(v:Value)(b:Nat):Prop:=b<w.heap.size+4\/(fl=true/\v.ownBlock=some b)
abbrev wz:List Value:=[.slice none 0 0,.int .i64 0,.slice none 0 0,.int .i64 0]
structure RunF (w:World)(jb cb V:Nat)(now:Int)(Lw:List Value)(wx:World):Prop where
 b:Below w.heap.size w wx
 v:AtL wx V (envL jb cb now)
 w0:AtL wx w.heap.size Lw
 r6:AtL wx (w.heap.size+2) fz
 r8:AtL wx (w.heap.size+3) wz
def RunA (w:World)(jb cb s1 V:Nat)(now:Int)(Lw:List Value)(r:Rn)(v:Value)(wx:World):Prop:=
 ∃ (fl:Bool) (vj vc:Value) (lx:List Ee) (l:List (Value × Ev)),@FIn ⟨RX w fl v⟩ wx s1 jb cb (w.heap.size+4) vj r.j.1 r.j.2 vc lx r.s/\lx.map (·.2)=r.c/\@Evs ⟨RX w fl v⟩ (Mu s1 jb cb vj vc) (V+1) wx v l r.ev/\RunF w jb cb V now Lw wx/\¬ Mu s1 jb cb vj vc V/\w.heap.size+4<=V/\(fl=true\/(∃ a n,v = .slice a n n)\/(r.s.ph=3\/r.s.ph=4))
def RunB (w:World)(jb cb s1 V:Nat)(now:Int)(Lw:List Value)(s:FS)(j:List Ck × Int)(c:List En)(ev ev2:List Ev)(v v2:Value)(wx:World):Prop:=
 ∃ (fl:Bool) (vj vc:Value) (lx:List Ee) (l l2:List (Value × Ev)),@FIn ⟨RX w fl v⟩ wx s1 jb cb (w.heap.size+4) vj j.1 j.2 vc lx s/\lx.map (·.2)=c/\@Evs ⟨RX w fl v⟩ (Mu s1 jb cb vj vc) (V+1) wx v l ev/\@Evs ⟨RX w fl v⟩ (Mu s1 jb cb vj vc) (V+1) wx v2 l2 ev2/\RunF w jb cb V now Lw wx/\¬ Mu s1 jb cb vj vc V/\w.heap.size+4<=V/\(fl=true\/(∃ a n,v = .slice a n n)\/((s.ph=3\/s.ph=4)/\ev2=[]))
section
variable {w wx w' : World} {jb cb s1 V : Nat} {now : Int} {Lw : List Value} {r : Rn} {v v2 v' : Value} {fl : Bool}
theorem RunF.kp {M:Nat->Prop}(h:RunF w jb cb V now Lw wx)(k:Kp wx.heap.size M wx w')(hM:∀ b,M b->w.heap.size+4<=b/\b≠V):RunF w jb cb V now Lw w':=
 ⟨⟨k.os.trans h.b.os,k.tape.trans h.b.tape,k.output.trans h.b.output,Nat.le_trans h.b.size k.size,fun b hb=>(k.block b (Nat.lt_of_lt_of_le hb h.b.size) (fun e=>by have:=(hM b e).1;omega)).trans (h.b.block b hb)⟩,h.v.kp k h.v.lt (fun e=>(hM V e).2 rfl),h.w0.kp k h.w0.lt (fun e=>by have:=(hM _ e).1;omega),h.r6.kp k h.r6.lt (fun e=>by have:=(hM _ e).1;omega),h.r8.kp k h.r8.lt (fun e=>by have:=(hM _ e).1;omega)⟩
theorem RunA.below (h:RunA w jb cb s1 V now Lw r v wx)(k:Below wx.heap.size wx w'):RunA w jb cb s1 V now Lw r v w':=by
 obtain ⟨fl,vj,vc,lx,l,F,hc,E,R,hV,hN,hf⟩:=h
 exact ⟨fl,vj,vc,lx,l,@FIn.below ⟨RX w fl v⟩ _ _ _ _ _ _ _ _ _ _ _ _ F k,hc,@Evs.below ⟨RX w fl v⟩ _ _ _ _ _ _ _ E k,R.kp (Kp.of_below (M:=fun _=>False) k lr) (fun b e=>e.elim),hV,hN,hf⟩
theorem RunA.head {vj vc:Value}{lx:List Ee}{l:List (Value × Ev)}{j:List Ck × Int}{o:Out}(F : @FIn ⟨RX w fl v⟩ wx s1 jb cb (w.heap.size+4) vj r.j.1 r.j.2 vc lx r.s)(E : @Evs ⟨RX w fl v⟩ (Mu s1 jb cb vj vc) (V+1) wx v l r.ev)(R:RunF w jb cb V now Lw wx)(hV:¬ Mu s1 jb cb vj vc V)(hN:w.heap.size+4<=V)(hf:fl=true\/(∃ a n,v = .slice a n n)\/(r.s.ph=3\/r.s.ph=4))(hd:r.s.ph=3\/r.s.ph=4->o.s=r.s/\o.ev=[]){x:Ending}(q : @HeadQ ⟨RX w fl v⟩ wx s1 jb cb (w.heap.size+4) vj vc j o x w'):
 ∃ v2,x = .returned v2/\RunB w jb cb s1 V now Lw o.s j o.c r.ev o.ev v v2 w':=by
 obtain ⟨v2,l2,vj',vc',lx',h1,h2,h3,h4,h5,h6⟩:=q
 have hVl:=R.v.lt
 refine ⟨v2,h1,fl,vj',vc',lx',l,l2,h2,h3,@Evs.kp ⟨RX w fl v⟩ _ _ _ _ _ _ _ _ _ E h5 lr h6,?_,R.kp h5 (fun b e=>⟨@EnvIn.mge ⟨RX w fl v⟩ _ _ _ _ _ _ _ _ _ _ (@FIn.env ⟨RX w fl v⟩ _ _ _ _ _ _ _ _ _ _ _ F) b e,fun e2=>hV (e2 ▸ e)⟩),fun e=>hV (h6 V hVl e),hN,?_⟩
 ·exact @Evs.mk ⟨RX w fl v⟩ _ _ _ _ _ _ (@Evs.eq ⟨RX w fl v⟩ _ _ _ _ _ _ h4) (own_mono (@Evs.own ⟨RX w fl v⟩ _ _ _ _ _ _ h4) (by omega)) (@Evs.far ⟨RX w fl v⟩ _ _ _ _ _ _ h4) (@Evs.hs ⟨RX w fl v⟩ _ _ _ _ _ _ h4)
 ·rcases hf with h | h | h
  ·exact .inl h
  ·exact .inr (.inl h)
  ·obtain ⟨e1,e2⟩:=hd h
   exact .inr (.inr ⟨by rw [e1];exact h,e2⟩)
theorem step_head {X:Nat->Prop}{s0 B:Nat}{vj vc:Value}{J:List Ck}{nx:Int}{o:Out}{x:Ending}(q : @StepQ ⟨X⟩ wx s0 jb cb B vj J nx vc o x w'): @HeadQ ⟨X⟩ wx s0 jb cb B vj vc (J,nx) o x w':=by
 obtain ⟨v,l,vc',lx,h1,h2,h3,h4,h5,h6,_⟩:=q
 exact ⟨v,l,vj,vc',lx,h1,h2,h3,h4,h5,h6⟩
theorem RunB.app {s:FS}{j:List Ck × Int}{c:List En}{ev ev2:List Ev}{l l2:List (Value × Ev)}{vj vc:Value}{lx:List Ee}(F : @FIn ⟨RX w fl v⟩ wx s1 jb cb (w.heap.size+4) vj j.1 j.2 vc lx s)(hc:lx.map (·.2)=c)(E : @Evs ⟨RX w fl v⟩ (Mu s1 jb cb vj vc) (V+1) wx v l ev)(E2 : @Evs ⟨RX w fl v⟩ (Mu s1 jb cb vj vc) (V+1) wx v2 l2 ev2)(R:RunF w jb cb V now Lw wx)(hV:¬ Mu s1 jb cb vj vc V)(hN:w.heap.size+4<=V)(hf:fl=true\/(∃ a n,v = .slice a n n)\/((s.ph=3\/s.ph=4)/\ev2=[]))
 (ho:w'.ownsRow (V+1) 48 7 v' (l.length+l2.length) (cellsK evC l ++ cellsK evC l2)) (g:(fl=true/\wx.grownBy w' v.ownBlock/\∀ b,v'.ownBlock=some b->v.ownBlock=some b\/wx.heap.size<=b)\/(Below wx.heap.size wx w'/\(v'=v\/∀ b,v'.ownBlock=some b->wx.heap.size<=b))):RunA w jb cb s1 V now Lw ⟨s,j,c,ev ++ ev2⟩ v' w':=by
 have Eo:=@Evs.own ⟨RX w fl v⟩ _ _ _ _ _ _ E
 have hE:=@Evs.far ⟨RX w fl v⟩ _ _ _ _ _ _ E
 have hb:∀ b,v.ownBlock=some b->V+1<=b:=fun b h=>own_base Eo h
 -- the blocks that were written,and what is kept free from here on
 obtain ⟨M,fl',k,hM,hMv,hX,hv,hf'⟩:∃ (M:Nat->Prop) (fl':Bool),Kp wx.heap.size M wx w'/\(∀ b,M b->RX w fl v b)/\(∀ b,M b->v.ownBlock=some b)/\(∀ b,RX w fl' v' b->RX w fl v b\/wx.heap.size<=b)/\(∀ b,v'.ownBlock=some b->v.ownBlock=some b\/wx.heap.size<=b)/\(fl'=true\/(∃ a n,v' = .slice a n n)\/(s.ph=3\/s.ph=4)):=by
  rcases g with ⟨rfl,g,hv⟩ | ⟨k,rfl | hv⟩
  ·refine ⟨fun b=>v.ownBlock=some b,true,⟨g.os,g.tape,g.output,g.size,fun i hi hm=>g.block i hi (fun e=>hm e.symm)⟩,fun b h=>.inr ⟨rfl,h⟩,fun b h=>h,fun b h=>?_,hv,.inl rfl⟩
   rcases h with h | ⟨_,h⟩
   ·exact .inl (.inl h)
   ·exact (hv b h).imp (fun h=>.inr ⟨rfl,h⟩) id
  ·exact ⟨fun _=>False,fl,Kp.of_below k lr,fun b h=>h.elim,fun b h=>h.elim,fun b h=>.inl h,fun b h=>.inl h,hf.imp id (Or.imp id And.left)⟩
  ·refine ⟨fun _=>False,true,Kp.of_below k lr,fun b h=>h.elim,fun b h=>h.elim,fun b h=>?_,fun b h=>.inr (hv b h),.inl rfl⟩
   rcases h with h | ⟨_,h⟩
   ·exact .inl (.inl h)
   ·exact .inr (hv b h)
 have hX2:∀ b,RX w fl' v' b->b<w'.heap.size:=fun b h=>by
  rcases h with h | ⟨_,h⟩
  ·have:=R.v.lt;have:=k.size;omega
  ·exact (ho.lt b h).2
 refine ⟨fl',vj,vc,lx,l ++ l2,fin_re F k (fun b _ h=>hM b h) (fun b h=>hE b (hMv b h)) (fun b h=>by have:=hb b (hMv b h);omega) hX hX2,hc,?_,R.kp k (fun b h=>⟨by have:=hb b (hMv b h);omega,fun e=>by have:=hb b (hMv b h);omega⟩),hV,hN,hf'⟩
 refine @Evs.mk ⟨RX w fl' v'⟩ _ _ _ _ _ _ ?_ (own_eq ho (by rw [List.length_append]) (by rw [cellsK_app])) (fun b h e=>?_) (fun r hr=>?_)
 ·rw [List.map_append,@Evs.eq ⟨RX w fl v⟩ _ _ _ _ _ _ E,@Evs.eq ⟨RX w fl v⟩ _ _ _ _ _ _ E2]
 ·rcases hv b h with h1 | h1
  ·exact hE b h1 e
  ·have:=@EnvIn.mlt ⟨RX w fl v⟩ _ _ _ _ _ _ _ _ _ _ (@FIn.env ⟨RX w fl v⟩ _ _ _ _ _ _ _ _ _ _ _ F) b e;omega
 ·rcases List.mem_append.1 hr with h1 | h1
  ·exact hs_re (@Evs.hs ⟨RX w fl v⟩ _ _ _ _ _ _ E r h1) k (fun b _ h=>hM b h) hX
  ·exact hs_re (@Evs.hs ⟨RX w fl v⟩ _ _ _ _ _ _ E2 r h1) k (fun b _ h=>hM b h) hX
end
theorem run_append_zero {P:Program}{w:World}(base:Nat)(t ty e:TypeId)(i:TypeInfo)(size:Nat)(ht:P.underlying t=some (.slice e))(hi:P.info? e=some i)
 (v:Value) (n:Nat) (xs:List Value) (hown:w.ownsRow base e size v n xs) (A:Option Addr) (c:Nat):(Builtin.append_ #[t,t] ty #[v,.slice A 0 c]).run P w = .ok v w:=by
 have hfc:(Builtin.firstCells i.size 0 (.slice A 0 c)).run P w = .ok #[] w:=by
  cases A with
  | none=>rfl
  | some ad=>exact run_firstCells_some (P:=P) w i.size 0 ad 0 c [] (by simp) (by simp)
 have hst:∀ p:Addr,(storeCells p []).run P w = .ok () w:=fun p=>by simp [storeCells]
 rcases hown.2 with ⟨rfl,rfl⟩ | ⟨g,cap,cur,rfl,_,_,hnc,_⟩
 ·simp [Builtin.append_,run_underlying ht,sizeOf,typeInfo,hi,Builtin.lenOf,hfc]
 ·simp [Builtin.append_,run_underlying ht,sizeOf,typeInfo,hi,Builtin.lenOf,hfc,hnc,hst]
def nA (l:List Ev):Nat:=(l.filter (fun e=>decide (e.k=1))).length
theorem nA_app (a b:List Ev):nA (a ++ b)=nA a+nA b:=by unfold nA;rw [List.filter_append,List.length_append]
theorem nA_data (p:ByteArray)(S:FS):nA (dataF p S).2=0:=by
 unfold dataF
 split
 ·split
  ·rfl
  ·split <;> rfl
 ·rfl
structure TakeO (h:Nat)(o:Out):Prop where
 ph:o.s.ph=1\/o.s.ph=2\/o.s.ph=3\/o.s.ph=4
 h1:h<=o.s.ho
 h2:o.s.ho<=10
 n:nA o.ev+h<=o.s.ho
 w:o.s.ph=1->h+1<=o.s.ho
structure SendO (h:Nat)(o:Out):Prop where
 ph:o.s.ph=1\/o.s.ph=3\/o.s.ph=4
 h1:h<=o.s.ho
 h2:o.s.ho<=10
 n:nA o.ev+h<=o.s.ho+1
theorem failO_take {S:FS}(C:List En)(e:Int){h:Nat}(h1:h<=S.ho)(h2:S.ho<=10):TakeO h (failO S C e):=
 ⟨.inr (.inr (.inr rfl)),h1,h2,by show 0+h<=S.ho;omega,fun e=>absurd e (by show (4:Int)≠1;decide)⟩
theorem redirF_take {snd:FS->List En->Out}{S:FS}(h10:S.ho<=10)(hs:∀ S' C,S'.ho=S.ho+1->S'.ho<=10->SendO (S.ho+1) (snd S' C))(st:Int)(loc:ByteArray)(C:List En):TakeO S.ho (redirF snd st loc S C):=by
 unfold redirF
 split
 ·exact failO_take C 16 lr h10
 ·split
  ·exact failO_take (S:={ S with ho:=S.ho+1 }) C 17 (Nat.le_succ _) (by show S.ho+1<=10;omega)
  ·split
   ·exact failO_take (S:={ S with ho:=S.ho+1 }) C 17 (Nat.le_succ _) (by show S.ho+1<=10;omega)
   ·split
    ·exact failO_take (S:={ S with ho:=S.ho+1 }) C 15 (Nat.le_succ _) (by show S.ho+1<=10;omega)
    ·next u hu _ _=>
     have h:=hs { setU S u with ho:=S.ho+1,sm:=nextM st S.sm } C rfl (by show S.ho+1<=10;omega)
     obtain ⟨a1,a2,a3,a4⟩:=h
     exact ⟨by omega,by omega,a3,by omega,fun _=>a2⟩
theorem headO_take (st:Int)(hd:List Hd){S:FS}(h10:S.ho<=10)(C:List En):TakeO S.ho (headO st hd S C):=by
 unfold headO
 split
 ·exact failO_take (S:={ S with hi:=decide (S.mo=4) && fgB S }) C 15 lr h10
 ·refine ⟨.inr (.inl rfl),lr,h10,?_,fun e=>absurd e (by show (2:Int)≠1;decide)⟩
  show nA [if _ then _ else _]+S.ho<=S.ho
  split
  ·show 0+S.ho<=S.ho;omega
  ·show 0+S.ho<=S.ho;omega
theorem takeF_take {snd:FS->List En->Out}{S:FS}(h10:S.ho<=10)(hs:∀ S' C,S'.ho=S.ho+1->S'.ho<=10->SendO (S.ho+1) (snd S' C))(net:Bool)(now st:Int)(hd:List Hd)(C:List En):TakeO S.ho (takeF snd net now st hd S C):=by
 unfold takeF
 split
 ·split
  ·exact failO_take C 15 lr h10
  ·exact redirF_take h10 hs _ _ _
 ·exact headO_take _ _ h10 _
theorem dataF_ho (p:ByteArray)(S:FS):(dataF p S).1.ho=S.ho:=by
 unfold dataF
 split
 ·split <;> rfl
 ·rfl
theorem dataF_ph (p:ByteArray){S:FS}(h:S.ph=2):(dataF p S).1.ph=2\/(dataF p S).1.ph=4:=by
 unfold dataF
 rw [if_pos h]
 split
 ·exact .inr rfl
 ·exact .inl h
theorem restF_take (p:ByteArray){h:Nat}{o:Out}(k:TakeO h o):TakeO h (restF p o)/\(restF p o).s.ph≠2:=by
 obtain ⟨k1,k2,k3,k4,k5⟩:=k
 unfold restF
 split
 ·next h2=>
  have e:=dataF_ho p o.s
  have e2:=nA_data p o.s
  split
  ·refine ⟨⟨.inr (.inr (.inl rfl)),by show h<=(dataF p o.s).1.ho;omega,by show (dataF p o.s).1.ho<=10;omega,?_,fun e=>absurd e (by show (3:Int)≠1;decide)⟩,by show (3:Int)≠2;decide⟩
   show nA (o.ev ++ (dataF p o.s).2 ++ [endV])+h<=(dataF p o.s).1.ho
   rw [nA_app,nA_app,e2,e]
   show nA o.ev+0+0+h<=o.s.ho
   omega
  ·next hn=>
   have h4:(dataF p o.s).1.ph=4:=(dataF_ph p h2).resolve_left hn
   refine ⟨⟨.inr (.inr (.inr h4)),by show h<=(dataF p o.s).1.ho;omega,by show (dataF p o.s).1.ho<=10;omega,?_,fun e=>absurd e (by show (dataF p o.s).1.ph≠1;omega)⟩,hn⟩
   show nA (o.ev ++ (dataF p o.s).2)+h<=(dataF p o.s).1.ho
   rw [nA_app,e2,e]
   omega
 ·next hn=>exact ⟨⟨k1,k2,k3,k4,k5⟩,hn⟩
theorem askO_send (J:List Ck)(now:Int){S:FS}(C:List En)(more:List Hd)(ch:Bool)(h10:S.ho<=10):SendO S.ho (askO J now S C more ch):=
 ⟨.inl rfl,lr,h10,by show 1+S.ho<=S.ho+1;omega⟩
theorem sendF_send (J:List Ck)(now:Int):∀ (k:Nat) (S:FS) (C:List En),S.ho<=10->10<k+S.ho->SendO S.ho (sendF J now k S C)
 | 0,S,C,h1,h2=>by omega
 | k + 1, S, C, h1, h2 => by
   unfold sendF
   split
   ·simp only
    split
    ·obtain ⟨⟨a1,a2,a3,a4,a5⟩,a6⟩:=restF_take (askF C (txB S) (hdF S) now).e.bo (takeF_take (S:={ S with ch:=false }) h1 (fun S' C hh hl=>by
      have hh:S'.ho=S.ho+1:=hh
      have:=sendF_send J now k S' C hl (by omega)
      rw [hh] at this
      exact this) false now (askF C (txB S) (hdF S) now).e.st (askF C (txB S) (hdF S) now).e.hd (askF C (txB S) (hdF S) now).c)
     exact ⟨by rcases a1 with h | h | h | h
               ·exact .inl h
               ·exact absurd h a6
               ·exact .inr (.inl h)
               ·exact .inr (.inr h),a2,a3,by
      have a4:nA (storedF (sendF J now k) now (askF C (txB S) (hdF S) now).e S (askF C (txB S) (hdF S) now).c).ev+S.ho<=(storedF (sendF J now k) now (askF C (txB S) (hdF S) now).e S (askF C (txB S) (hdF S) now).c).s.ho:=a4
      omega⟩
    ·split
     ·exact askO_send J now _ _ _ h1
     ·exact askO_send J now _ _ _ h1
   ·exact askO_send J now _ _ _ h1
theorem beginF_send (J:List Ck)(now:Int){S:FS}(C:List En)(h0:S.ho=0):SendO 0 (beginF J now S C):=by
 have hf:∀ e,SendO 0 (failO S C e):=fun e=>⟨.inr (.inr rfl),Nat.zero_le _,by show S.ho<=10;omega,by show 0+0<=S.ho+1;omega⟩
 unfold beginF
 split
 ·exact hf 1
 ·split
  ·exact hf 4
  ·split
   ·exact hf 4
   ·split
    ·exact hf 15
    ·next u hu _ _=>
     have h:=sendF_send J now 11 { putU S u with sm:=S.me } C (by show S.ho<=10;omega) (by show 10<11+S.ho;omega)
     have e:({ putU S u with sm:=S.me }:FS).ho=0:=h0
     rw [e] at h
     exact h
theorem dir_none:∀ (hs:List Hd)(D:Dir) ,(∀ h∈hs,¬ lowL h.1.data.toList=ccN)->hs.foldl dirOne D=D
 | [],_,_=>rfl
 | h :: hs, D, hn => by
   rw [List.foldl_cons]
   have e:dirOne D h=D:=by unfold dirOne;rw [if_neg (hn h List.mem_cons_self)]
   rw [e]
   exact dir_none hs D fun x hx=>hn x (List.mem_cons_of_mem _ hx)
theorem askF_nil (url:ByteArray)(rq:List Hd)(now:Int):askF [] url rq now=⟨1,en0,[],[]⟩:=rfl
theorem sendF_nil (J:List Ck)(now:Int)(k:Nat)(S:FS):sendF J now (k+1) S []=askO J now S [] [] false:=by
 unfold sendF
 split
 ·show (if (askF [] (txB S) (hdF S) now).k=2 then _ else if (askF [] (txB S) (hdF S) now).k=3 then _ else _)=_
  rw [if_neg (by rw [askF_nil];decide),if_neg (by rw [askF_nil];decide)]
  rfl
 ·rfl
theorem StepQ.shp [Prot]{w w':World}{s0 jb cb B:Nat}{vj:Value}{J:List Ck}{nx:Int}{vc:Value}{o:Out}{x:Ending}(h:StepQ w s0 jb cb B vj J nx vc o x w'):∃ a n c,x = .returned (.slice a n c):=by
 obtain ⟨v,l,vc',lx',h1,_,_,h4,_⟩:=h
 obtain ⟨a,c,rfl,_⟩:=own_reads h4.own
 exact ⟨a,_,c,h1⟩
theorem Lost_is [Prot]{w:World}{s0 jb cb B:Nat}{vj:Value}{J:List Ck}{nx:Int}{vc:Value}{lx:List Ee}{S:FS}(F:FIn w s0 jb cb B vj J nx vc lx S):
 Calls Tryz.prog 36 #[.pointer (some ⟨s0,0,none⟩)] w (StepQ w s0 jb cb B vj J nx vc ⟨(stopF 17 S).1,lx.map (·.2),(stopF 17 S).2⟩):=by
 have CS:=Lib.hid (stop_is F 17)
 clear F
 go_enter Tryz.func36,Tryz.ntmps36
 go_wp2_with (go_at_call 80;(with_reducible refine CS.out.mono ?_);rintro e1 w1 hq1;have HQ:=Lib.hid hq1;obtain ⟨sa,sn,sc,rfl⟩:=hq1.shp;clear hq1)
 go_ret
 exact HQ.out
theorem Abort_is [Prot]{w:World}{s0 jb cb B:Nat}{vj:Value}{J:List Ck}{nx:Int}{vc:Value}{lx:List Ee}{S:FS}(F:FIn w s0 jb cb B vj J nx vc lx S):
 Calls Tryz.prog 37 #[.pointer (some ⟨s0,0,none⟩)] w (StepQ w s0 jb cb B vj J nx vc ⟨(stopF 18 S).1,lx.map (·.2),(stopF 18 S).2⟩):=by
 have CS:=Lib.hid (stop_is F 18)
 clear F
 go_enter Tryz.func37,Tryz.ntmps37
 go_wp2_with (go_at_call 80;(with_reducible refine CS.out.mono ?_);rintro e1 w1 hq1;have HQ:=Lib.hid hq1;obtain ⟨sa,sn,sc,rfl⟩:=hq1.shp;clear hq1)
 go_ret
 exact HQ.out
end Go.Proofs.YtjdhaacmlpegoaaGreatDoor
