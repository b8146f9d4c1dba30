/- Part 48 of what the proof needs: YL YP YQ. -/
import Derived.Test.YtjdhaacmlpegoaaGreatDoorP47
import Derived.Test.YtjdhaacmlpegoaaGreatDoorP39
import Derived.Test.YtjdhaacmlpegoaaGreatDoorP43
import Derived.Deep.RegionHeld3
import Derived.Test.YtjdhaacmlpegoaaGreatDoorP01
namespace Go.Proofs.YtjdhaacmlpegoaaGreatDoor
open Go.RowKit
set_option linter.unusedSimpArgs false
set_option linter.unusedVariables false
def RunQ (w:World)(now:Int)(r:Rn)(x:Ending)(w':World):Prop:=
 ∃ (va : Option Addr) (vk : Nat) (wa : Option Addr) (wk : Nat) (ea : Option Addr) (ek : Nat) (l : List (Value × Ev)) (ja : Option Addr) (jk : Nat) (ca : Option Addr) (ck : Nat) (lx : List Ee), x = .returned (.tuple #[.agg (fsV r.s (.slice va r.s.qh.length vk) (.slice wa r.s.hs.length wk)).toArray, .slice ea l.length ek, .agg #[.slice ja r.j.1.length jk, .int .i64 r.j.2, .slice ca lx.length ck, .int .i64 now]]) ∧
   (SlK hdC 2 w' (.slice va r.s.qh.length vk) r.s.qh/\SlK hdC 2 w' (.slice wa r.s.hs.length wk) r.s.hs)/\(w'.ownsRow w.heap.size 48 7 (.slice ea l.length ek) l.length (cellsK evC l)/\l.map (·.2)=r.ev/\∀ y∈l,SlK hdC 2 w' y.1 y.2.hs)/\SlK ckL 9 w' (.slice ja r.j.1.length jk) r.j.1/\(SlK eeC 6 w' (.slice ca lx.length ck) lx/\(∀ x∈lx,Rd w' x.1 x.2)/\lx.map (·.2)=r.c)/\Below w.heap.size w w'
theorem env_new {Wb jb J0:Nat}{w1 w2 w6:World}{vj:Value}{J:List Ck}{nx:Int}{ea:Option Addr}{n ek:Nat}{l2:List Ee}(hM:MaxAt w6)(hG:0<Wb+4)(hj:JarIn w1 jb (Wb+4) vj J nx)(hjb:Wb+4<=jb)(h1:Wb+4<=w1.heap.size)(RI:RowIn w2 J0 w1.heap.size (.slice ea n ek) l2)(hnew:∀ y∈l2,NewE y w1.heap.size)(hb:Below w1.heap.size w1 w2)(hA:AtL w6 w2.heap.size [.slice ea n ek])(hb6:Below w2.heap.size w2 w6):
 @EnvP ⟨fun b=>b<Wb+4⟩ w6 jb w2.heap.size (Wb+4) vj (.slice ea n ek) J nx l2:=by
 have hjl:=hj.at_.lt
 have hs:=hb.size
 have ho:∀ g,(Value.slice ea n ek).ownBlock=some g->w1.heap.size<=g/\g<w2.heap.size:=fun g hg=>⟨own_base RI.own hg,(RI.own.lt g hg).2⟩
 have hv:∀ g,vj.ownBlock=some g->g<w1.heap.size:=fun g hg=>(hj.own.lt g hg).2
 have b26:Below w1.heap.size w1 w6:=hb.trans (hb6.mono hs)
 have far:∀ (hs:List Hd) (u:Value),SlK hdC 2 w2 u hs->FarV hs u J0 (Value.slice ea n ek).ownBlock->(∀ b off m c,u = .slice (some ⟨b,off,none⟩) m c->w1.heap.size<=b)->FarM (@Px ⟨fun b=>b<Wb+4⟩ (MuP jb w2.heap.size vj (.slice ea n ek))) hs u:=fun hs u hs1 hf hn h0 b off m c e hm=>by
  have hb1:=hn b off m c e
  have hb2:=slk_lt hs1 h0 e
  rcases hm with (e1 | e1 | e1 | e1) | e1
  ·omega
  ·omega
  ·have:=hv b e1;omega
  ·exact (hf h0 b off m c e).2 e1
  ·have e1:b<Wb+4:=e1
   omega
 refine @EnvP.mk ⟨fun b=>b<Wb+4⟩ w6 jb w2.heap.size (Wb+4) vj (.slice ea n ek) J nx l2 hM hG hjb (by omega) (by omega) (hj.below b26 lr) ⟨hA,own_below (own_mono RI.own h1) hb6 lr,fun e=>by have:=(ho _ e).2;omega,by have:=hb6.size;omega,fun x hx=>(RI.rd x hx).below hb6 lr,fun x hx=>⟨fun h0 b off m c e=>?_,fun h0 b off m c e=>?_⟩⟩ (fun e=>by have:=hv _ e;omega) (fun e=>by have:=(ho _ e).1;omega) (fun g hg e=>by have:=hv g hg;have:=(ho g e).1;omega) (fun x hx=>⟨far _ _ (RI.rd x hx).va (RI.far x hx).va (hnew x hx).1,far _ _ (RI.rd x hx).hd (RI.far x hx).hd (hnew x hx).2⟩) (fun b hb2=>by have hb2:b<Wb+4:=hb2;have:=hb6.size;omega)
 ·have:=slk_lt (RI.rd x hx).va h0 e
  exact ⟨by omega,((RI.far x hx).va h0 b off m c e).2⟩
 ·have:=slk_lt (RI.rd x hx).hd h0 e
  exact ⟨by omega,((RI.far x hx).hd h0 b off m c e).2⟩
theorem EnvP.low {X:Nat->Prop}{R:Nat}{w w':World}{jb cb B:Nat}{vj vc:Value}{J:List Ck}{nx:Int}{lx:List Ee}(h : @EnvP ⟨X⟩ w jb cb B vj vc J nx lx)(hX:X R)(hR:R<B)(hg:R≠0)(k:Kp w.heap.size (fun b=>b=R) w w'): @EnvP ⟨X⟩ w' jb cb B vj vc J nx lx:=by
 obtain ⟨hmx,hgm,hbj,hbc,hjc,hjar,hca,hjcb,hcj,hjr,hf,hpx⟩:=h
 have lG:0<w.heap.size:=by have:=hjar.at_.lt;omega
 have hn:∀ {hs:List Hd} {u:Value},SlK hdC 2 w u hs->FarM (@Px ⟨X⟩ (MuP jb cb vj vc)) hs u->SlK hdC 2 w' u hs:=fun h1 h2=>slk_kp h1 (fun h0 b off n c e hm=>h2 h0 b off n c e (.inr (by rw [show b=R from hm];exact hX))) k lr
 refine @EnvP.mk ⟨X⟩ w' jb cb B vj vc J nx lx ?_ hgm hbj hbc hjc ⟨hjar.at_.kp k hjar.at_.lt (fun e=>by omega),own_kp hjar.own k lr (fun g hg e=>by have:=own_base hjar.own hg;omega),hjar.ne,Nat.le_trans hjar.le k.size⟩ ⟨hca.at_.kp k hca.at_.lt (fun e=>by omega),own_kp hca.own k lr (fun g hg e=>by have:=own_base hca.own hg;omega),hca.ne,Nat.le_trans hca.le k.size,fun x hx=>?_,hca.far⟩ hjcb hcj hjr hf (fun b hb=>Nat.lt_of_lt_of_le (hpx b hb) k.size)
 ·obtain ⟨m,hm⟩:=hmx
  exact ⟨m,(k.cell (b:=0) (o:=0) lG (fun e=>hg e.symm)).trans hm⟩
 ·have hr:=hca.rd x hx
  exact ⟨hr.u,hr.st,hr.bo,hr.ti,hn hr.va (hf x hx).1,hn hr.hd (hf x hx).2⟩
theorem RunA.start {w w6 w7 w8:World}{jb cb V:Nat}{now:Int}{Lw:List Value}{vj vc0 vc:Value}{J:List Ck}{nx:Int}{lx:List Ee}{o:Out}{va wa ea:Option Addr}{vk wk ek:Nat}{l:List (Value × Ev)}
 (E7 : @EnvP ⟨fun b=>b<w.heap.size+4⟩ w7 jb cb (w.heap.size+4) vj vc J nx lx) (hc:lx.map (·.2)=o.c) (hq : @Hs ⟨fun b=>b<w.heap.size+4⟩ (MuP jb cb vj vc) w7 (.slice va o.s.qh.length vk) o.s.qh) (hh : @Hs ⟨fun b=>b<w.heap.size+4⟩ (MuP jb cb vj vc) w7 (.slice wa o.s.hs.length wk) o.s.hs) (ev : @Evs ⟨fun b=>b<w.heap.size+4⟩ (MuP jb cb vj vc) w6.heap.size w7 (.slice ea l.length ek) l o.ev) (K:Kp w6.heap.size (MuP jb cb vj vc0) w6 w7) (hM:∀ b,b<w6.heap.size->MuP jb cb vj vc b->MuP jb cb vj vc0 b)
 (hfull:o.s.ph=1\/o.s.ph=2->∃ a n,Value.slice ea l.length ek = .slice a n n) (hph:o.s.ph=1\/o.s.ph=3\/o.s.ph=4) (RF:RunF w jb cb V now Lw w6) (hV6:V<w6.heap.size) (hVM:¬ MuP jb cb vj vc0 V) (hVN:w.heap.size+4<=V) (hB0:∀ b,MuP jb cb vj vc0 b->w.heap.size+4<=b) (h8:Below w7.heap.size w7 w8) (S8:AtL w8 w7.heap.size (fsV o.s (.slice va o.s.qh.length vk) (.slice wa o.s.hs.length wk))) :
 RunA w jb cb w7.heap.size V now Lw ⟨o.s,(J,nx),o.c,o.ev⟩ (.slice ea l.length ek) w8:=by
 have hX:∀ b,RX w false (.slice ea l.length ek) b->b<w.heap.size+4:=fun b h=>by
  rcases h with h | ⟨h,_⟩
  ·exact h
  ·cases h
 have hw7:w.heap.size+4<=w7.heap.size:=by have:=K.size;omega
 have hmu:∀ b,b<w7.heap.size->Mu w7.heap.size jb cb vj vc b->MuP jb cb vj vc b:=fun b hb e=>by
  rcases e with e | e
  ·omega
  ·exact e
 have hs2:∀ (u:Value) (hs:List Hd),@Hs ⟨fun b=>b<w.heap.size+4⟩ (MuP jb cb vj vc) w7 u hs->@Hs ⟨RX w false (.slice ea l.length ek)⟩ (Mu w7.heap.size jb cb vj vc) w8 u hs:=fun u hs h=>⟨h.1.below h8 lr,fun h0 b off n c e hm=>by
  rcases hm with hm | hm
  ·exact h.2 h0 b off n c e (.inl (hmu b (slk_lt h.1 h0 e) hm))
  ·exact h.2 h0 b off n c e (.inr (hX b hm))⟩
 have En:=@EnvP.mk' w7 w8 w7.heap.size jb cb (w.heap.size+4) vj vc J nx lx (RX w false (.slice ea l.length ek)) ⟨fun b=>b<w.heap.size+4⟩ E7 h8 lr S8.lt (fun b h=>.inl (hX b h)) (fun b h=>by have:=hX b h;have:=h8.size;omega)
 have RF8:RunF w jb cb V now Lw w8:=(RF.kp K (fun b e=>⟨hB0 b e,fun e2=>hVM (e2 ▸ e)⟩)).kp (Kp.of_below (M:=fun _=>False) h8 lr) (fun b e=>e.elim)
 refine ⟨false,vj,vc,lx,l,@FIn.mk ⟨RX w false (.slice ea l.length ek)⟩ _ _ _ _ _ _ _ _ _ _ _ En ⟨va,vk,wa,wk,S8,hs2 _ _ hq,hs2 _ _ hh⟩,hc,?_,RF8,fun e=>?_,hVN,?_⟩
 ·refine @Evs.mk ⟨RX w false (.slice ea l.length ek)⟩ _ _ _ _ _ _ (@Evs.eq ⟨fun b=>b<w.heap.size+4⟩ _ _ _ _ _ _ ev) (own_below (own_mono (@Evs.own ⟨fun b=>b<w.heap.size+4⟩ _ _ _ _ _ _ ev) hV6) h8 lr) (fun g hg e=>?_) (fun r hr=>hs2 _ _ (@Evs.hs ⟨fun b=>b<w.heap.size+4⟩ _ _ _ _ _ _ ev r hr))
  exact @Evs.far ⟨fun b=>b<w.heap.size+4⟩ _ _ _ _ _ _ ev g hg (hmu g ((@Evs.own ⟨fun b=>b<w.heap.size+4⟩ _ _ _ _ _ _ ev).lt g hg).2 e)
 ·exact hVM (hM V hV6 (hmu V (by have:=K.size;omega) e))
 ·rcases hph with h | h | h
  ·exact .inr (.inl (hfull (.inl h)))
  ·exact .inr (.inr (.inl h))
  ·exact .inr (.inr (.inr h))
theorem BeginR.run {w w6 w7:World}{jb cb V:Nat}{now:Int}{Lw:List Value}{vj vc0:Value}{J:List Ck}{nx:Int}{o:Out}{x:Ending}
 (hph:o.s.ph=1\/o.s.ph=3\/o.s.ph=4) (RF:RunF w jb cb V now Lw w6) (hV6:V<w6.heap.size) (hVM:¬ MuP jb cb vj vc0 V) (hVN:w.heap.size+4<=V) (hB0:∀ b,MuP jb cb vj vc0 b->w.heap.size+4<=b) (q : @BeginR ⟨fun b=>b<w.heap.size+4⟩ w6 jb cb (w.heap.size+4) vj J nx vc0 o x w7) :
 ∃ (va:Option Addr) (vk:Nat) (wa:Option Addr) (wk:Nat) (ea:Option Addr) (n ek:Nat),x = .returned (.tuple #[.agg (fsV o.s (.slice va o.s.qh.length vk) (.slice wa o.s.hs.length wk)).toArray,.slice ea n ek])/\w6.heap.size<=w7.heap.size/\∀ w8,Below w7.heap.size w7 w8->AtL w8 w7.heap.size (fsV o.s (.slice va o.s.qh.length vk) (.slice wa o.s.hs.length wk))->RunA w jb cb w7.heap.size V now Lw ⟨o.s,(J,nx),o.c,o.ev⟩ (.slice ea n ek) w8:=by
 obtain ⟨va,vk,wa,wk,vE,lE,vc7,lx7,rfl,E7,hc7,hqq7,hhh7,ev7,K7,hM7,hf7⟩:=q
 obtain ⟨ea7,ek7,rfl,_⟩:=own_reads (@Evs.own ⟨fun b=>b<w.heap.size+4⟩ _ _ _ _ _ _ ev7)
 exact ⟨va,vk,wa,wk,ea7,lE.length,ek7,rfl,K7.size,fun w8 h8 S8=>RunA.start E7 hc7 hqq7 hhh7 ev7 K7 hM7 hf7 hph RF hV6 hVM hVN hB0 h8 S8⟩
def OpP (w:World)(jb cb s1 V:Nat)(now:Int)(Lw:List Value)(r r':Rn)(v:Value)(x:Ending)(w':World):Prop:=
 ∃ (a:Option Addr) (n c:Nat) (ev2:List Ev),x = .returned (.slice a n c)/\r'.ev=r.ev ++ ev2/\RunB w jb cb s1 V now Lw r'.s r'.j r'.c r.ev ev2 v (.slice a n c) w'
section
variable {w wx w' : World} {jb cb s1 V : Nat} {now : Int} {Lw : List Value} {r : Rn} {v : Value}
theorem OpP.of {s:FS}{j:List Ck × Int}{c:List En}{ev2:List Ev}{x:Ending}{r':Rn}(hr:r'=⟨s,j,c,r.ev ++ ev2⟩)(h:∃ v2,x = .returned v2/\RunB w jb cb s1 V now Lw s j c r.ev ev2 v v2 w'):OpP w jb cb s1 V now Lw r r' v x w':=by
 obtain ⟨v2,h1,hB⟩:=h
 obtain ⟨fl,vj,vc,lx,l,l2,F,hc,E,E2,R,hV,hN,hf⟩:=id hB
 obtain ⟨a,c2,rfl,_⟩:=own_reads (@Evs.own ⟨RX w fl v⟩ _ _ _ _ _ _ E2)
 subst hr
 exact ⟨a,_,c2,ev2,h1,rfl,hB⟩
theorem run_data (h:RunA w jb cb s1 V now Lw r v wx){i:Nat}(hk:ROk i r)(o:Op4)(ho:OpOk o)(h5:o.k % 5=1):
 Calls Tryz.prog 34 #[.pointer (some ⟨s1,0,none⟩),.string o.bo,envA jb cb now] wx (OpP w jb cb s1 V now Lw r (opF now o r) v):=by
 obtain ⟨fl,vj,vc,lx,l,F,hc,E,R,hV,hN,hf⟩:=h
 have hr:opF now o r=⟨(dataF o.bo r.s).1,r.j,r.c,r.ev ++ (dataF o.bo r.s).2⟩:=by
  unfold opF;rw [if_neg (by omega),if_pos h5]
 refine (@data_is ⟨RX w fl v⟩ _ _ _ _ _ _ _ _ _ _ _ F o.bo (by have:=ho.bo;omega) (by have:=hk.s.sb;omega) now).mono fun x w' q=>?_
 rw [hc] at q
 exact OpP.of hr (RunA.head F E R hV hN hf (fun hp=>by unfold dataF;rw [if_neg (by omega)];exact ⟨rfl,rfl⟩) (step_head q))
theorem run_end (h:RunA w jb cb s1 V now Lw r v wx){i:Nat}(hk:ROk i r)(hi:i<=45)(o:Op4)(h5:o.k % 5=2):
 Calls Tryz.prog 35 #[.pointer (some ⟨s1,0,none⟩),envA jb cb now] wx (OpP w jb cb s1 V now Lw r (opF now o r) v):=by
 obtain ⟨fl,vj,vc,lx,l,F,hc,E,R,hV,hN,hf⟩:=h
 have hr:opF now o r=⟨(endF now r.s r.c).s,r.j,(endF now r.s r.c).c,r.ev ++ (endF now r.s r.c).ev⟩:=by
  unfold opF;rw [if_neg (by omega),if_neg (by omega),if_pos h5]
 refine (@end_is ⟨RX w fl v⟩ _ _ _ _ _ _ _ _ _ _ _ _ _ F hk.s (by rw [hc];exact hk.c) (by omega) (by omega) now _ (by rw [hc])).mono fun x w' q=>?_
 exact OpP.of hr (RunA.head F E R hV hN hf (fun hp=>by unfold endF;rw [if_neg (by omega)];exact ⟨rfl,rfl⟩) (step_head q))
theorem run_Lost (h:RunA w jb cb s1 V now Lw r v wx)(o:Op4)(h5:o.k % 5=3):
 Calls Tryz.prog 36 #[.pointer (some ⟨s1,0,none⟩)] wx (OpP w jb cb s1 V now Lw r (opF now o r) v):=by
 obtain ⟨fl,vj,vc,lx,l,F,hc,E,R,hV,hN,hf⟩:=h
 have hr:opF now o r=⟨(stopF 17 r.s).1,r.j,r.c,r.ev ++ (stopF 17 r.s).2⟩:=by
  unfold opF
  rw [if_neg (by omega),if_neg (by omega),if_neg (by omega)]
  first
   | rw [if_pos (by omega)]
   | rw [if_neg (by omega)]
 refine (@Lost_is ⟨RX w fl v⟩ _ _ _ _ _ _ _ _ _ _ _ F).mono fun x w' q=>?_
 rw [hc] at q
 exact OpP.of hr (RunA.head F E R hV hN hf (fun hp=>by unfold stopF;rw [if_neg (by omega)];exact ⟨rfl,rfl⟩) (step_head q))
theorem run_Abort (h:RunA w jb cb s1 V now Lw r v wx)(o:Op4)(h5:o.k % 5=4):
 Calls Tryz.prog 37 #[.pointer (some ⟨s1,0,none⟩)] wx (OpP w jb cb s1 V now Lw r (opF now o r) v):=by
 obtain ⟨fl,vj,vc,lx,l,F,hc,E,R,hV,hN,hf⟩:=h
 have hr:opF now o r=⟨(stopF 18 r.s).1,r.j,r.c,r.ev ++ (stopF 18 r.s).2⟩:=by
  unfold opF
  rw [if_neg (by omega),if_neg (by omega),if_neg (by omega)]
  first
   | rw [if_pos (by omega)]
   | rw [if_neg (by omega)]
 refine (@Abort_is ⟨RX w fl v⟩ _ _ _ _ _ _ _ _ _ _ _ F).mono fun x w' q=>?_
 rw [hc] at q
 exact OpP.of hr (RunA.head F E R hV hN hf (fun hp=>by unfold stopF;rw [if_neg (by omega)];exact ⟨rfl,rfl⟩) (step_head q))
theorem run_head (h:RunA w jb cb s1 V now Lw r v wx){i:Nat}(hk:ROk i r)(hi:i<=45)(o:Op4)(ho:OpOk o)(hset:(∃ h∈o.hs,isH h scN=true)->SetC)(h5:o.k % 5=0){w5:World}(hb:Below wx.heap.size wx w5){u:Value}(hu:SlK hdC 2 w5 u o.hs)(hn:∀ b off n k,u = .slice (some ⟨b,off,none⟩) n k->wx.heap.size<=b):
 Calls Tryz.prog 31 #[.pointer (some ⟨s1,0,none⟩),.int .i64 o.st,u,envA jb cb now] w5 (fun x w'=>OpP w jb cb s1 V now Lw r (opF now o r) v x w'/\∀ b vs,AtL w5 b vs->wx.heap.size<=b\/b=V->AtL w' b vs):=by
 obtain ⟨fl,vj,vc,lx,l,F0,hc,E0,R0,hV,hN,hf⟩:=h
 have hpx:=@EnvIn.px ⟨RX w fl v⟩ _ _ _ _ _ _ _ _ _ _ (@FIn.env ⟨RX w fl v⟩ _ _ _ _ _ _ _ _ _ _ _ F0)
 have hml:=@EnvIn.mlt ⟨RX w fl v⟩ _ _ _ _ _ _ _ _ _ _ (@FIn.env ⟨RX w fl v⟩ _ _ _ _ _ _ _ _ _ _ _ F0)
 have F:=@FIn.below ⟨RX w fl v⟩ _ _ _ _ _ _ _ _ _ _ _ _ F0 hb
 have E:=@Evs.below ⟨RX w fl v⟩ _ _ _ _ _ _ _ E0 hb
 have R:=R0.kp (Kp.of_below (M:=fun _=>False) hb lr) (fun b e=>e.elim)
 have hr:opF now o r=⟨(headA now o.st o.hs r.s r.j r.c).2.s,(headA now o.st o.hs r.s r.j r.c).1,(headA now o.st o.hs r.s r.j r.c).2.c,r.ev ++ (headA now o.st o.hs r.s r.j r.c).2.ev⟩:=by
  unfold opF;rw [if_pos h5]
 refine (@head_is ⟨RX w fl v⟩ _ _ _ _ _ _ _ _ _ _ _ _ _ F hk.s hk.j (by rw [hc];exact hk.c) (by omega) (by omega) (by omega) hk.n1 (by have:=hk.n2;omega) o.st u o.hs ⟨hu,@FarM.newP ⟨RX w fl v⟩ _ _ _ _ hn hml hpx⟩ ho.hs hset now _ (by rw [hc])).mono fun x w' q=>?_
 refine ⟨OpP.of hr (RunA.head F E R hV hN hf (fun hp=>by unfold headA;rw [if_neg (by omega)];exact ⟨rfl,rfl⟩) q),fun b vs hA hb2=>?_⟩
 obtain ⟨_,_,_,_,_,_,_,_,_,hk5,_⟩:=q
 refine hA.kp hk5 hA.lt fun e=>?_
 rcases hb2 with hb2 | rfl
 ·have:=hml b e;omega
 ·exact hV e
theorem RunA.olt (h:RunA w jb cb s1 V now Lw r v wx){g:Nat}(e:v.ownBlock=some g):g<wx.heap.size:=by
 obtain ⟨fl,vj,vc,lx,l,F,hc,E,R,hV,hN,hf⟩:=h
 exact ((@Evs.own ⟨RX w fl v⟩ _ _ _ _ _ _ E).lt g e).2
theorem RunA.obase (h:RunA w jb cb s1 V now Lw r v wx){g:Nat}(e:v.ownBlock=some g):V+1<=g:=by
 obtain ⟨fl,vj,vc,lx,l,F,hc,E,R,hV,hN,hf⟩:=h
 exact own_base (@Evs.own ⟨RX w fl v⟩ _ _ _ _ _ _ E) e
theorem xv_mk {W:World}{X V:Nat}{a b c d e f g:Value}(hX:AtL W X [a,b,c,d])(hV:AtL W V [e,f,g]):(W.cell? ⟨X,1,none⟩=some b/\W.cell? ⟨X,2,none⟩=some c)/\W.cell? ⟨V,0,none⟩=some e/\W.cell? ⟨V,1,none⟩=some f/\W.cell? ⟨V,2,none⟩=some g:=⟨⟨hX.c 1 rfl,hX.c 2 rfl⟩,hV.c 0 rfl,hV.c 1 rfl,hV.c 2 rfl⟩
theorem app_res {P:Program}{T E size bytes:Nat}(ty:SlTy P T E size bytes)(W:World)(t:TypeId)
 (B:Nat) (v:Value) (n:Nat) (xs:List Value) (hown:W.ownsRow B E size v n xs) (fl:Bool) (news:List Value) (A:Option Addr) (m c:Nat) (hf:fl=true\/(∃ a n',v = .slice a n' n')\/m=0)
 (hl:news.length=m * size) (hc:(A=none/\m=0)\/∃ ad,A=some ad/\∀ j u,news[j]? = some u->W.cell? (ad.add j)=some u) (h1:∀ u∈news,u.oneCell'=true)
 (hb:(n+m) * bytes<=140737488355328) (hn:n+m<=140737488355328) (hB:B<=W.heap.size) :
 ∃ v' w',(Builtin.append_ #[T,T] t #[v,.slice A m c]).run P W = .ok v' w'/\w'.ownsRow B E size v' (n+m) (xs ++ news)/\((fl=true/\W.grownBy w' v.ownBlock/\∀ g,v'.ownBlock=some g->v.ownBlock=some g\/W.heap.size<=g)\/(Below W.heap.size W w'/\(v'=v\/∀ g,v'.ownBlock=some g->W.heap.size<=g))):=by
 by_cases hm:m=0
 ·subst hm
  obtain rfl:news=[]:=List.eq_nil_of_length_eq_zero (by simpa using hl)
  obtain ⟨hu,⟨i,z,hi,hz,h2,h3,h4⟩,hp⟩:=ty
  exact ⟨v,W,run_append_zero (P:=P) (w:=W) B T t E i size hu hi v n xs hown A c,by simpa using hown,.inr ⟨Below.refl _ W,.inl rfl⟩⟩
 ·cases fl with
  | true=>
    obtain ⟨hu,⟨i,z,hi,hz,h2,h3,h4⟩,hp⟩:=ty
    rcases hc with ⟨_,h0⟩ | ⟨ad,rfl,hc⟩
    ·exact absurd h0 hm
    ·obtain ⟨v',w',hr,k2,k3,g,k4,k5⟩:=run_append_where (P:=P) W B T t E i z size bytes hu hi hz h2 h3 h4 hp v n xs hown ad m c news hl hc h1 (by unfold maxLen;omega) hb hB (by omega)
     exact ⟨v',w',hr,k2,.inl ⟨rfl,k3,fun g' hg=>by rw [k4] at hg;injection hg with hg;subst hg;exact k5⟩⟩
  | false=>
    have hcap:∃ a n',v = .slice a n' n':=by
     rcases hf with e | e | e
     ·cases e
     ·exact e
     ·exact absurd e hm
    obtain ⟨v',w',hr,k2,k3,k4⟩:=run_app_full ty W B v n xs hown hcap A m c news hl hc h1 hb hn hB t
    refine ⟨v',w',hr,k2,.inr ⟨k3,?_⟩⟩
    rcases k4 with ⟨e,_⟩ | ⟨g,cap,rfl,h4⟩
    ·exact .inl e
    ·refine .inr fun b hb2=>?_
     simp only [Value.ownBlock,Option.some.injEq] at hb2
     omega
theorem RunB.stepW {P:Program}{T bytes:Nat}(ty:SlTy P T 48 7 bytes)(hby:bytes<=1000){s:FS}{j:List Ck × Int}{c:List En}{ev ev2:List Ev}{a2:Option Addr}{n2 c2:Nat}(h:RunB w jb cb s1 V now Lw s j c ev ev2 v (.slice a2 n2 c2) wx)(hlen:(ev ++ ev2).length<=1000)
 {o:Oper} {a:Act} {K:Act->World->Prop} {Q:Exit->Act->World->Prop} (sO xO:Operand) (ho:o.op = .call { callee:=.builtin .append,args:=#[sO,xO],argTypes:=#[T,T] }) (hs:a.eval sO=v) (hx:a.eval xO = .slice a2 n2 c2)
 (k:∀ v' w',RunA w jb cb s1 V now Lw ⟨s,j,c,ev ++ ev2⟩ v' w'->(∀ b vs,AtL wx b vs->v.ownBlock≠some b->AtL w' b vs)->K (a.put o.dst v') w'):Oper.wp P o a wx K Q:=by
 obtain ⟨fl,vj,vc,lx,l,l2,F,hc,E,E2,R,hV,hN,hf⟩:=h
 have o1:=@Evs.own ⟨RX w fl v⟩ _ _ _ _ _ _ E
 have o2:=@Evs.own ⟨RX w fl v⟩ _ _ _ _ _ _ E2
 have q1:=@Evs.eq ⟨RX w fl v⟩ _ _ _ _ _ _ E
 have q2:=@Evs.eq ⟨RX w fl v⟩ _ _ _ _ _ _ E2
 have n1:l.length=ev.length:=by rw [<-q1,List.length_map]
 have n2':l2.length=ev2.length:=by rw [<-q2,List.length_map]
 rw [List.length_append] at hlen
 obtain ⟨a',c',he,_,_,hcell⟩:=own_reads o2
 injection he with e1 e2 e3
 subst e1 e2 e3
 have hmul:(l.length+l2.length) * bytes<=1000 * 1000:=Nat.mul_le_mul (by omega) hby
 have k1:fl=true\/(∃ a n',v = .slice a n' n')\/l2.length=0:=by
  rcases hf with h | h | h
  ·exact .inl h
  ·exact .inr (.inl h)
  ·exact .inr (.inr (by rw [n2',h.2];rfl))
 have k2:(a2=none/\l2.length=0)\/∃ ad,a2=some ad/\∀ j u,(cellsK evC l2)[j]? = some u->wx.cell? (ad.add j)=some u:=by
  rcases hcell with h | ⟨g,rfl,_,_,h⟩
  ·exact .inl h
  ·exact .inr ⟨_,rfl,fun i u hu=>by rw [add_none,Nat.zero_add];exact h i u hu⟩
 obtain ⟨v',w',hr,h1,h2⟩:=app_res ty wx o.type (V+1) v l.length (cellsK evC l) o1 fl (cellsK evC l2) a2 l2.length c2 k1 (cellsK_len evC_len l2) k2 (@one7 ⟨RX w fl v⟩ _ _ l2 (@Evs.hs ⟨RX w fl v⟩ _ _ _ _ _ _ E2)) (by omega) (by omega) (by have:=R.v.lt;omega)
 unfold Oper.wp execOp
 simp only [ho,resolve,invoke,builtin,Sem.run_bind,Sem.run_pure,Result.andThen_ok,List.map_toArray,List.map_cons,List.map_nil,hs,hx,hr]
 exact k v' w' (RunB.app F hc E E2 R hV hN hf h1 h2) (fun b vs hA hne=>by
  rcases h2 with ⟨_,g,_⟩ | ⟨g,_⟩
  ·exact hA.grown g hne
  ·exact hA.next g)
theorem RunB.step {P:Program}{T bytes:Nat}(ty:SlTy P T 48 7 bytes)(hby:bytes<=1000){s:FS}{j:List Ck × Int}{c:List En}{ev ev2:List Ev}{a2:Option Addr}{n2 c2:Nat}(h:RunB w jb cb s1 V now Lw s j c ev ev2 v (.slice a2 n2 c2) wx)(hlen:(ev ++ ev2).length<=1000)
 {ops:Array Oper} {rest:List Oper} {o:Oper} {a:Act} {Q:Exit->Act->World->Prop} (hgd:o.guard=none) (sO xO:Operand) (ho:o.op = .call { callee:=.builtin .append,args:=#[sO,xO],argTypes:=#[T,T] }) (hs:a.eval sO=v) (hx:a.eval xO = .slice a2 n2 c2)
 (k:∀ v' w',RunA w jb cb s1 V now Lw ⟨s,j,c,ev ++ ev2⟩ v' w'->(∀ b vs,AtL wx b vs->v.ownBlock≠some b->AtL w' b vs)->wpList P ops Q rest (a.put o.dst v') w'):wpList P ops Q (o :: rest) a wx:=
 wpList_plain hgd fun _ hK=>RunB.stepW ty hby h hlen sO xO ho hs hx fun v' w' h1 h2=>hK _ _ (k v' w' h1 h2)
theorem RunB.stepR {P:Program}{T bytes:Nat}(ty:SlTy P T 48 7 bytes)(hby:bytes<=1000){s:FS}{j:List Ck × Int}{c:List En}{ev ev2:List Ev}{a2:Option Addr}{n2 c2:Nat}(h:RunB w jb cb s1 V now Lw s j c ev ev2 v (.slice a2 n2 c2) wx)(hlen:(ev ++ ev2).length<=1000)
 {ops:Array Oper} {o:Oper} {a:Act} {K:Act->World->Prop} {Q:Exit->Act->World->Prop} {Ep:Prop} (hgd:o.guard=none) (sO xO:Operand) (ho:o.op = .call { callee:=.builtin .append,args:=#[sO,xO],argTypes:=#[T,T] }) (hs:a.eval sO=v) (hx:a.eval xO = .slice a2 n2 c2)
 (k:∀ v' w',RunA w jb cb s1 V now Lw ⟨s,j,c,ev ++ ev2⟩ v' w'->(∀ b vs,AtL wx b vs->v.ownBlock≠some b->AtL w' b vs)->K (a.put o.dst v') w'):if Region.wanted o (yielded ops a.tmps)=true then Oper.wp P o a wx K Q else Ep:=by
 rw [if_pos (by simp [Region.wanted,hgd])]
 exact RunB.stepW ty hby h hlen sO xO ho hs hx k
end
theorem RunA.fin {w wx:World}{jb cb s1 V:Nat}{now:Int}{Lw:List Value}{r:Rn}{v:Value}(h:RunA w jb cb s1 V now Lw r v wx):
 ∃ (va : Option Addr) (vk : Nat) (wa : Option Addr) (wk : Nat) (ea : Option Addr) (n ek : Nat) (ja : Option Addr) (jk : Nat) (ca : Option Addr) (n2 ck : Nat), v = .slice ea n ek ∧ AtL wx s1 (fsV r.s (.slice va r.s.qh.length vk) (.slice wa r.s.hs.length wk)) ∧ AtL wx jb [.slice ja r.j.1.length jk, .int .i64 r.j.2] ∧ AtL wx cb [.slice ca n2 ck] ∧ AtL wx w.heap.size Lw ∧ AtL wx (w.heap.size + 2) fz ∧ AtL wx (w.heap.size + 3) wz ∧ (w.heap.size + 4 ≤ s1 ∧ w.heap.size + 4 ≤ jb ∧ w.heap.size + 4 ≤ cb) ∧
   ∀ w',Kp wx.heap.size (fun b=>b=w.heap.size+2\/b=w.heap.size+3) wx w'->RunQ w now r (.returned (.tuple #[.agg (fsV r.s (.slice va r.s.qh.length vk) (.slice wa r.s.hs.length wk)).toArray,.slice ea n ek,.agg #[.slice ja r.j.1.length jk,.int .i64 r.j.2,.slice ca n2 ck,.int .i64 now]])) w':=by
 obtain ⟨fl,vj,vc,lx,l,F,hc,E,R,hV,hN,hf⟩:=h
 obtain ⟨E2,va,vk,wa,wk,S2,hq2,hh2⟩:=F
 have J2:=@EnvIn.jar ⟨RX w fl v⟩ _ _ _ _ _ _ _ _ _ _ E2
 have C2:=@EnvIn.ca ⟨RX w fl v⟩ _ _ _ _ _ _ _ _ _ _ E2
 have hbs:=@EnvIn.bs ⟨RX w fl v⟩ _ _ _ _ _ _ _ _ _ _ E2
 have hbj:=@EnvIn.bj ⟨RX w fl v⟩ _ _ _ _ _ _ _ _ _ _ E2
 have hbc:=@EnvIn.bc ⟨RX w fl v⟩ _ _ _ _ _ _ _ _ _ _ E2
 have hfar:=@EnvIn.far ⟨RX w fl v⟩ _ _ _ _ _ _ _ _ _ _ E2
 have Eo:=@Evs.own ⟨RX w fl v⟩ _ _ _ _ _ _ E
 have Eq:=@Evs.eq ⟨RX w fl v⟩ _ _ _ _ _ _ E
 have Eh:=@Evs.hs ⟨RX w fl v⟩ _ _ _ _ _ _ E
 obtain ⟨ea,ek,rfl,_⟩:=own_reads Eo
 obtain ⟨ja,jk,rfl,_⟩:=own_reads J2.own
 obtain ⟨ca,ck,rfl,_⟩:=own_reads C2.own
 refine ⟨va,vk,wa,wk,ea,l.length,ek,ja,jk,ca,lx.length,ck,rfl,S2,J2.at_,C2.at_,R.w0,R.r6,R.r8,⟨hbs,hbj,hbc⟩,fun w' k=>?_⟩
 have hMX:∀ b,b<wx.heap.size->(b=w.heap.size+2\/b=w.heap.size+3)->RX w fl (.slice ea l.length ek) b:=fun b _ h=>.inl (by omega)
 have hs2:∀ {u:Value} {hs:List Hd} {N:Nat->Prop},@Hs ⟨RX w fl (.slice ea l.length ek)⟩ N wx u hs->SlK hdC 2 w' u hs:=fun h=>(hs_re h k hMX (fun b hb=>.inl hb)).1
 have hEo:=own_kp Eo k lr (fun g hg e=>by have:=own_base Eo hg;omega)
 have hJo:=own_kp J2.own k lr (fun g hg e=>by have:=own_base J2.own hg;omega)
 have hCo:=own_kp C2.own k lr (fun g hg e=>by have:=own_base C2.own hg;omega)
 refine ⟨va,vk,wa,wk,ea,ek,l,ja,jk,ca,ck,lx,rfl,⟨hs2 hq2,hs2 hh2⟩,⟨own_mono hEo (by omega),Eq,fun y hy=>hs2 (Eh y hy)⟩,SlK.of_own ckL_len hJo,⟨SlK.of_own eelen hCo,fun x hx=>?_,hc⟩,?_⟩
 ·have hr:=C2.rd x hx
  exact ⟨hr.u,hr.st,hr.bo,hr.ti,hs2 ⟨hr.va,(hfar x hx).1⟩,hs2 ⟨hr.hd,(hfar x hx).2⟩⟩
 ·exact ⟨k.os.trans R.b.os,k.tape.trans R.b.tape,k.output.trans R.b.output,Nat.le_trans R.b.size k.size,fun b hb=>(k.block b (Nat.lt_of_lt_of_le hb R.b.size) (fun e=>by omega)).trans (R.b.block b hb)⟩
def EndS (s1 R6 jb cb Wb:Nat)(LS:List Value)(a b c d:Value)(w':World):Prop:=(w'.rangeAt s1 0 LS/\w'.there R6 0 23)/\(w'.cell? ⟨jb,0,none⟩=some a/\w'.cell? ⟨jb,1,none⟩=some b)/\w'.cell? ⟨cb,0,none⟩=some c/\w'.cell? ⟨Wb,3,none⟩=some d
theorem endS_mk {W:World}{s1 R6 jb cb Wb:Nat}{LS us:List Value}{a b c d e f g:Value}(h1:AtL W s1 LS)(h2:AtL W R6 us)(hl:us.length=23)(h3:AtL W jb [a,b])(h4:AtL W cb [c])(h5:AtL W Wb [e,f,g,d]):EndS s1 R6 jb cb Wb LS a b c d W:=
 ⟨⟨h1.range,h2.there 23 hl.symm⟩,⟨h3.c 0 rfl,h3.c 1 rfl⟩,h4.c 0 rfl,h5.c 3 rfl⟩
theorem held_store {P:Program}{md:Region.Mode}{ops:Array Oper}{Q:Exit->Act->World->Prop}{S:World->Prop}{fuel:Nat}{listed:Array Bool}{a:Act}{w:World}(i:Nat)(o:Oper)(ty:TypeId)(x y:Operand)(b k:Nat)(LS:List Value)
 (hr:Region.ready md ops listed=[i]) (hi:ops[i]? = some o) (hw:Region.wanted o (yielded ops a.tmps)=true) (ho:o.op = .store ty x y) (hx:a.eval x = .pointer (some ⟨b,k,none⟩)) (hy:a.eval y = .agg LS.toArray)
 (ht:w.there b k LS.length) (hs:(P.info? ty).map (·.size)=some LS.length) (h1:∀ v∈LS,v.oneCell'=true) (hS:S (w.setCells b k LS)) (h:S (w.setCells b k LS)->wpAnyH P md ops Q S fuel (listed.setIfInBounds i true) (a.put o.dst undef) (w.setCells b k LS)):wpAnyH P md ops Q S (fuel+1) listed a w:=by
 refine wpAnyH_ready hr (by simp) (AllReadyH.cons hi (fun K hK=>?_) AllReadyH.nil)
 rw [if_pos hw]
 refine wp_store_mid ty x y ho b k LS.toArray hx hy (by simpa using ht) (by simpa using hs) (all_oneCell_toArray h1) ?_
 rw [List.toList_toArray]
 exact hK.out _ _ hS h
theorem retctc_run {P:Program}{fn:Func}{q T r q2 T2:Nat}(hr:fn.results = #[.cell q T,.tmp r,.cell q2 T2]){vs us:List Value}(hz:∀ w,(Go.sizeOf T).run P w = .ok vs.length w)(ha:∀ w,(isAgg T).run P w = .ok true w)(hz2:∀ w,(Go.sizeOf T2).run P w = .ok us.length w)(ha2:∀ w,(isAgg T2).run P w = .ok true w)(tmps:Array Value)(W:World)(k k2:Nat)(x:Value)(h2:tmps.getD q undef = .pointer (some ⟨k,0,none⟩))(h3:tmps.getD r undef=x)(h4:tmps.getD q2 undef = .pointer (some ⟨k2,0,none⟩))(hA:AtL W k vs)(hB:AtL W k2 us):
 (results fn tmps).run P W = .ok (.tuple #[.agg vs.toArray,x,.agg us.toArray]) W:=by
 have hl:(loadCells ⟨k,0,none⟩ vs.length).run P W = .ok vs.toArray W:=run_loadCells_list (P:=P) W ⟨k,0,none⟩ vs (fun j v hv=>by rw [Addr.add_lit,Nat.zero_add];exact hA.c j hv)
 have hl2:(loadCellsFrom ⟨k,0,none⟩ 0 vs.length #[]).run P W = .ok vs.toArray W:=by simpa [loadCells] using hl
 have hm:(loadCells ⟨k2,0,none⟩ us.length).run P W = .ok us.toArray W:=run_loadCells_list (P:=P) W ⟨k2,0,none⟩ us (fun j v hv=>by rw [Addr.add_lit,Nat.zero_add];exact hB.c j hv)
 have hm2:(loadCellsFrom ⟨k2,0,none⟩ 0 us.length #[]).run P W = .ok us.toArray W:=by simpa [loadCells] using hm
 rw [Array.getD_eq_getD_getElem?] at h2 h3 h4
 simp [results,hr,h2,h3,h4,go_sem,ha,hz,hl2,ha2,hz2,hm2]
theorem Kp.sets' {n:Nat}{M:Nat->Prop}{w W:World}(h:Kp n M w W){k:Nat}(hp:M k\/n<=k)(o:Nat)(vs:List Value):Kp n M w (W.setCells k o vs):=Kp.sets hp vs h
end Go.Proofs.YtjdhaacmlpegoaaGreatDoor
