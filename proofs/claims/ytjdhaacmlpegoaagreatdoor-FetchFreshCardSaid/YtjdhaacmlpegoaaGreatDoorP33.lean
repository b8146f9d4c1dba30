/- Part 33 of what the proof needs: XD XJ XL. -/
import Derived.Test.YtjdhaacmlpegoaaGreatDoorP30
import Derived.Test.YtjdhaacmlpegoaaGreatDoorP24
import Derived.Test.YtjdhaacmlpegoaaGreatDoorP23
import Derived.Test.YtjdhaacmlpegoaaGreatDoorP27
import Derived.Test.YtjdhaacmlpegoaaGreatDoorP15
import Derived.Test.YtjdhaacmlpegoaaGreatDoorP09
import Derived.Test.YtjdhaacmlpegoaaGreatDoorP14
import Derived.Test.YtjdhaacmlpegoaaGreatDoorP32
import Derived.Test.YtjdhaacmlpegoaaGreatDoorP01
import Derived.Test.YtjdhaacmlpegoaaGreatDoorP29
import Derived.Deep.CutRange
set_option maxRecDepth 20000
set_option maxHeartbeats 16000000
namespace Go.Proofs.YtjdhaacmlpegoaaGreatDoor
open Go.RowKit
set_option linter.unusedSimpArgs false
set_option linter.unusedVariables false
def lastR (o:Option Nat):Int:=match o with
 | none=>-1
 | some k=>(k:Nat)
theorem lastI_at {α:Type}(p:α->Bool):∀ l:List α,LastAt p l (lastR (lastI p l))
 | []=>.inl ⟨rfl,fun j hj=>absurd hj (Nat.not_lt_zero _)⟩
 | x :: l=>by
   have ih:=lastI_at p l
   unfold lastI
   cases e:lastI p l with
   | some k=>
     rw [e] at ih
     rcases ih with ⟨h,_⟩ | ⟨i,hi,h1,h2,h3⟩
     ·exact absurd h (by show ((k:Nat):Int) ≠ -1;omega)
     ·obtain rfl:k=i:=by have h1:((k:Nat):Int)=i:=h1;omega
      refine .inr ⟨k+1,by simp;omega,rfl,by simpa using h2,fun j hj hlt=>?_⟩
      cases j with
      | zero=>omega
      | succ j=>simpa using h3 j (by simpa using hj) (by omega)
   | none =>
     rw [e] at ih
     have hn:∀ j (h:j<l.length),p l[j]=false:=by
      rcases ih with ⟨_,h⟩ | ⟨i,hi,h1,_⟩
      ·exact h
      ·exact absurd h1 (by show (-1:Int)≠i;omega)
     cases hx:p x with
     | true=>
       refine .inr ⟨0,by simp,rfl,by simpa using hx,fun j hj hlt=>?_⟩
       cases j with
       | zero=>omega
       | succ j=>simpa using hn j (by simpa using hj)
     | false =>
       refine .inl ⟨rfl,fun j hj=>?_⟩
       cases j with
       | zero=>simpa using hx
       | succ j=>simpa using hn j (by simpa using hj)
theorem lastI_map {α β:Type}(f:α->β)(p:β->Bool):∀ l:List α,lastI p (l.map f)=lastI (fun x=>p (f x)) l
 | []=>rfl
 | x :: l=>by simp only [List.map_cons,lastI,lastI_map f p l]
theorem lastAt_none {α:Type}{p:α->Bool}{l:List α}(h:lastI p l=none):LastAt p l (-1):=by have:=lastI_at p l;rwa [h] at this
theorem lastAt_some {α:Type}{p:α->Bool}{l:List α}{k:Nat}(h:lastI p l=some k):LastAt p l (k:Int)/\k<l.length:=by
 have:=lastI_at p l
 rw [h] at this
 refine ⟨this,?_⟩
 rcases this with ⟨h1,_⟩ | ⟨i,hi,h1,_⟩
 ·exact absurd h1 (by show ((k:Nat):Int) ≠ -1;omega)
 ·have h1:((k:Nat):Int)=i:=h1
  omega
def AskE (w:World)(cb B:Nat)(v:Value)(l:List Ee)(p:Plan)(e:Ending)(w':World):Prop:=
 ∃ (u:ByteArray) (a1:Option Addr) (n1 k1:Nat) (st:Int) (a2:Option Addr) (n2 k2:Nat) (bo:ByteArray) (ti:Int) (ua:Option Addr) (uc:Nat) (l':List Ee),e = .returned (.agg #[.int .i64 p.k,.string u,.slice a1 n1 k1,.int .i64 st,.slice a2 n2 k2,.string bo,.int .i64 ti,.slice ua p.hs.length uc])/\Rd w' (⟨u,.slice a1 n1 k1,st,.slice a2 n2 k2,bo,ti⟩:Er) p.e/\SlK hdC 2 w' (.slice ua p.hs.length uc) p.hs/\CaTo w cb B v l' w'/\l'.map (·.2)=p.c/\(∀ y∈l',y∈l)/\NewE (⟨u,.slice a1 n1 k1,st,.slice a2 n2 k2,bo,ti⟩,p.e) w.heap.size/\∀ b off n k,Value.slice ua p.hs.length uc = .slice (some ⟨b,off,none⟩) n k->w.heap.size<=b
theorem aske_of {w:World}{cb B:Nat}{v:Value}{l l':List Ee}{k:Int}{en:En}{hs:List Hd}{c:List En}(hc:l'.map (·.2)=c)(hm:∀ y∈l',y∈l){e:Ending}{w':World}(h:AskQ w cb B v k en hs l' e w'):AskE w cb B v l ⟨k,en,hs,c⟩ e w':=by
 obtain ⟨r,u,h1,h2,h3,h4,h5,h6⟩:=h
 have hs2:=Rd.shp (x:=(r,en)) h2
 obtain ⟨⟨a1,n1,k1,e1⟩,a2,n2,k2,e2⟩:=hs2
 obtain ⟨ua,uc,rfl,_⟩:=h3.shape
 obtain ⟨u,vv,st,hh,bo,ti⟩:=r
 have e1:vv = .slice a1 n1 k1:=e1
 have e2:hh = .slice a2 n2 k2:=e2
 subst e1 e2
 exact ⟨u,a1,n1,k1,st,a2,n2,k2,bo,ti,ua,uc,l',h1,h2,h3,h4,hc,hm,h5,h6⟩
theorem ask_all (cb B:Nat)(v:Value)(l:List Ee)(w:World)(hM:MaxAt w)(hJ:CaIn w cb B v l)(hz:∀ x∈l,HdSz x.2.va/\HdSz x.2.hd)(hl:l.length<=1000)(url:ByteArray)(rq:List Hd)(vr:Value)(hq:SlK hdC 2 w vr rq)(hzq:HdSz rq)(now:Int)(p:Plan)(hp:askF (l.map (·.2)) url rq now=p):
 Calls Tryz.prog 169 #[.pointer (some ⟨cb,0,none⟩),.string url,vr,.int .i64 now] w (AskE w cb B v l p):=by
 unfold askF at hp
 rw [lastI_map] at hp
 have hno:∀ R,LastAt (fun x:Ee=>ansB x.2 url rq) l R->(R = -1\/(dirL rq).ns=true)->(⟨1,en0,[],l.map (·.2)⟩:Plan)=p->Calls Tryz.prog 169 #[.pointer (some ⟨cb,0,none⟩),.string url,vr,.int .i64 now] w (AskE w cb B v l p):=by
  rintro R hR h rfl
  exact (ask_no cb B v l w hM hJ hz hl url rq vr hq hzq now R hR _ rfl h).mono fun e w' h=>aske_of rfl (fun y hy=>hy) h
 cases hi:lastI (fun x:Ee=>ansB x.2 url rq) l with
 | none=>rw [hi] at hp;exact hno _ (lastAt_none hi) (.inl rfl) hp
 | some i=>
   rw [hi] at hp
   obtain ⟨hR,hil⟩:=lastAt_some hi
   simp only at hp
   cases hns:(dirL rq).ns with
   | true=>rw [hns,if_pos rfl] at hp;exact hno _ hR (.inr hns) hp
   | false=>
     rw [hns,if_neg (by decide),List.getElem?_map,List.getElem?_eq_getElem hil] at hp
     simp only [Option.map_some] at hp
     obtain ⟨x,hx⟩:∃ x,l[i]=x:=⟨_,rfl⟩
     rw [hx] at hp
     obtain ⟨D,hD⟩:∃ D,dirL rq=D:=⟨_,rfl⟩
     rw [hD] at hp hns
     obtain ⟨d1,d2,d3,d4⟩:=D
     obtain rfl:d1=false:=hns
     cases hU:useB ⟨false,d2,d3,d4⟩ x.2 now with
     | true =>
       rw [hU,if_pos rfl] at hp
       subst hp
       refine (ask_use cb B v l w hM hJ hz hl url rq vr hq hzq now i hil x hx hR d2 d3 d4 hD hU).mono fun e w' h=>aske_of ?_ ?_ h
       ·rw [List.map_append,erase_map];rfl
       ·rw [<-hx];exact erase_mem l i hil
     | false =>
       rw [hU,if_neg (by decide)] at hp
       by_cases hc:chkL x.2.hd=[]
       ·rw [if_pos hc] at hp
        subst hp
        exact (ask_chk0 cb B v l w hM hJ hz hl url rq vr hq hzq now i hil x hx hR d2 d3 d4 hD hU hc).mono fun e w' h=>aske_of rfl (fun y hy=>hy) h
       ·rw [if_neg hc] at hp
        subst hp
        exact (ask_chk1 cb B v l w hM hJ hz hl url rq vr hq hzq now i hil x hx hR d2 d3 d4 hD hU _ rfl hc).mono fun e w' h=>aske_of rfl (fun y hy=>hy) h
def PutE (w:World)(cb B:Nat)(v:Value)(l:List Ee)(S:Bool)(es:List En)(e:Ending)(w':World):Prop:=e = .returned (.bool S)/\∃ l':List Ee,CaTo w cb B v l' w'/\l'.map (·.2)=es/\∀ y∈l',y∈l\/NewE y w.heap.size
theorem put_all (cb B:Nat)(v:Value)(l:List Ee)(w:World)(hM:MaxAt w)(hG:0<B)(hjB:B<=cb)(hJ:CaIn w cb B v l)(hz:∀ x∈l,HdSz x.2.va)(hl:l.length<=1000)(url:ByteArray)(rq hs:List Hd)(vr vh:Value)(hq:SlK hdC 2 w vr rq)(hh:SlK hdC 2 w vh hs)(hzq:HdSz rq)(hzh:HdSz hs)(hfq:FarV rq vr cb v.ownBlock)(hfh:FarV hs vh cb v.ownBlock)(st:Int)(body:ByteArray)(now:Int)(S:Bool)(hS:storL st rq hs=S)(es:List En)(hes:putEs (l.map (·.2)) url rq st hs body now S=es):
 Calls Tryz.prog 130 #[.pointer (some ⟨cb,0,none⟩),.string url,vr,.int .i64 st,vh,.string body,.int .i64 now] w (PutE w cb B v l S es):=by
 have hk:(keepL l url rq).map (·.2)=keepE (l.map (·.2)) url rq:=map_filter_en l _ rfl (fun e=>!ansB e url rq)
 have hsub:∀ y∈keepL l url rq,y∈l:=fun y hy=>(List.mem_filter.1 hy).1
 cases S with
 | false=>
   refine (put_no cb B v l w hM hG hjB hJ hz hl url rq hs vr vh hq hh hzq hzh hfq hfh st body now hS).mono ?_
   rintro e w' ⟨h1,h2⟩
   exact ⟨h1,_,h2,by rw [hk,<-hes];simp,fun y hy=>.inl (hsub y hy)⟩
 | true=>
   refine (put_yes cb B v l w hM hG hjB hJ hz hl url rq hs vr vh hq hh hzq hzh hfq hfh st body now hS).mono ?_
   rintro e w' ⟨h1,r,h2,h3⟩
   refine ⟨h1,_,h2,by rw [List.map_append,hk,<-hes];simp,fun y hy=>?_⟩
   rcases List.mem_append.1 hy with h | h
   ·exact .inl (hsub y h)
   ·obtain rfl:=List.mem_singleton.1 h;exact .inr h3
theorem conf_all (cb B:Nat)(v:Value)(l:List Ee)(w:World)(hJ:CaIn w cb B v l)(hz:∀ x∈l,HdSz x.2.va/\HdSz x.2.hd)(hl:l.length<=1000)(url:ByteArray)(rq hs:List Hd)(vr vh:Value)(hq:SlK hdC 2 w vr rq)(hh:SlK hdC 2 w vh hs)(hzq:HdSz rq)(hzh:HdSz hs)(hhl:hs.length<=100)(hxl:∀ x∈l,x.2.hd.length<=800)(now:Int)(o:Option (En × List En))(ho:confF (l.map (·.2)) url rq hs now=o):
 Calls Tryz.prog 73 #[.pointer (some ⟨cb,0,none⟩),.string url,vr,vh,.int .i64 now] w (match o with | none=>ConfR w cb B v l false en0 (l.map (·.2)) | some (e,c)=>ConfR w cb B v l true e c):=by
 unfold confF at ho
 rw [lastI_map] at ho
 have hcall:=fun R hR=>conf_any l url rq hs now hz hl hzq hzh hhl hxl R hR
 cases hi:lastI (fun x:Ee=>ansB x.2 url rq) l with
 | none=>
   rw [hi] at ho
   subst ho
   obtain ⟨ok,en,es,h1,_,_,hC⟩:=hcall _ (lastAt_none hi)
   rcases h1 with ⟨_,rfl,rfl,rfl⟩ | ⟨i,_,h,_⟩
   ·exact hC l rfl hz cb B v w vr vh hJ hq hh
   ·exact absurd h (by show (-1:Int)≠i;omega)
 | some i=>
   rw [hi] at ho
   obtain ⟨hR,hil⟩:=lastAt_some hi
   simp only [List.getElem?_map,List.getElem?_eq_getElem hil,Option.map_some] at ho
   subst ho
   obtain ⟨ok,en,es,h1,_,_,hC⟩:=hcall _ hR
   rcases h1 with ⟨h,_⟩ | ⟨j,hj,h,rfl,rfl,rfl⟩
   ·exact absurd h (by show (i:Int) ≠ -1;omega)
   ·obtain rfl:i=j:=by omega
    exact hC l rfl hz cb B v w vr vh hJ hq hh
theorem insRev_mem (x y:Ck):∀ l:List Ck,y∈insRev ltC x l->y=x\/y∈l
 | [],h=>.inl (by simpa [insRev] using h)
 | z :: r,h=>by
   unfold insRev at h
   split at h
   ·rcases List.mem_cons.1 h with h | h
    ·exact .inr (by rw [h];exact List.mem_cons_self)
    ·exact (insRev_mem x y r h).imp id (fun h=>List.mem_cons_of_mem _ h)
   ·rcases List.mem_cons.1 h with h | h
    ·exact .inl h
    ·exact .inr h
theorem insS_mem (y:Ck)(l:List Ck)(h:y∈insS ltC l):y∈l:=by
 have:∀ (l acc:List Ck),y∈l.foldl (fun acc x=>insR ltC x acc) acc->y∈acc\/y∈l:=by
  intro l
  induction l with
  | nil=>intro acc h;exact .inl h
  | cons x r ih=>
    intro acc h
    rw [List.foldl_cons] at h
    rcases ih _ h with h1 | h1
    ·have h2:y=x\/y∈acc.reverse:=insRev_mem x y _ (by unfold insR at h1;exact List.mem_reverse.1 h1)
     rcases h2 with h2 | h2
     ·exact .inr (by rw [h2];exact List.mem_cons_self)
     ·exact .inl (List.mem_reverse.1 h2)
    ·exact .inr (List.mem_cons_of_mem _ h1)
 rcases this l [] h with h1 | h1
 ·cases h1
 ·exact h1
theorem cook_is (J:List Ck)(now:Int)(S:FS)(T:ByteArray)(hT:cookF J now S=T)(w:World)(jb:Nat)(v nx:Value)(hz:USize 40000 S.a S.b S.c S.d S.e S.f)(hM:MaxAt w)(hv:SlK ckL 9 w v J)(hJ:AtL w jb [v,nx])(hl:J.length<=1000)(hsz:∀ c∈J,(c.d.size<=100000/\c.p.size<=100000)/\c.n.size<=100000/\c.v.size<=100000):
 Calls Tryz.prog 14 #[.pointer (some ⟨jb,0,none⟩),urlA S.a S.b S.c S.d S.e S.f,.int .i64 now] w fun x w'=>x = .returned (.string T)/\Below w.heap.size w w':=by
 subst hT
 unfold cookF FS.u
 cases hK:takesB (u6 S.a S.b S.c S.d S.e S.f) with
 | false=>exact header_no S.a S.b S.c S.d S.e S.f now hK jb w hz hM
 | true=>
   have hfl:(J.filter (hitB S.a S.b S.d now)).length<=1000:=Nat.le_trans (List.length_filter_le _ _) hl
   have hfm:∀ c∈J.filter (hitB S.a S.b S.d now),c.n.size<=100000/\c.v.size<=100000:=fun c hc=>(hsz c (List.mem_filter.1 hc).1).2
   exact header_yes S.a S.b S.c S.d S.e S.f now hK J v nx jb w hz hM hv hJ hl (fun c hc=>(hsz c hc).1) _ _ rfl (sort_long _ hfl) (by rw [insS_length];exact hfl) (fun c hc=>hfm c (insS_mem c _ hc)) _ rfl
theorem e2_mk {W:World}{Q:Nat}{a b c:Value}(h:AtL W Q [a,b,c]):W.cell? ⟨Q,1,none⟩=some b/\W.cell? ⟨Q,2,none⟩=some c:=⟨h.c 1 rfl,h.c 2 rfl⟩
theorem own_nw {w:World}{b e n:Nat}{sa:Option Addr}{c:Nat}{xs:List Value}(h:w.ownsRow b e 2 (.slice sa n c) n xs):∀ b2 off n' k,Value.slice sa n c = .slice (some ⟨b2,off,none⟩) n' k->b<=b2:=fun b2 off n' k e2=>by
 injection e2 with e1 _ _
 exact own_base h (by rw [e1];rfl)
theorem own_farv {w3:World}{b e n cb:Nat}{sa:Option Addr}{c:Nat}{xs:List Value}{L:List Hd}{o:Option Nat}(h:w3.ownsRow b e 2 (.slice sa n c) n xs)(hc:cb<b)(hl:∀ g,o=some g->g<b):FarV L (.slice sa n c) cb o:=fun _ b2 off n' k e2=>by
 have h1:=own_nw h b2 off n' k e2
 exact ⟨by omega,fun e3=>by have:=hl b2 e3;omega⟩
def KeepQ [Prot](w:World)(s0 jb cb B:Nat)(vj:Value)(J:List Ck)(nx:Int)(vc:Value)(S:FS)(C:List En)(x:Ending)(w':World):Prop:=
 x = .returned (.tuple #[])/\(∀ vh wh,AtL w s0 (fsV S vh wh)->AtL w' s0 (fsV S vh wh))/\∃ (vc':Value) (lx:List Ee),FIn w' s0 jb cb B vj J nx vc' lx S/\lx.map (·.2)=C/\Kp w.heap.size (Mu s0 jb cb vj vc) w w'/\(∀ b,b<w.heap.size->Mu s0 jb cb vj vc' b->Mu s0 jb cb vj vc b)
theorem hs_farv [Prot]{s0 jb cb:Nat}{vj vc u:Value}{w:World}{hs:List Hd}(h:Hs (Mu s0 jb cb vj vc) w u hs):FarV hs u cb vc.ownBlock:=fun h0 b off n c e=>
 ⟨fun e2=>h.2 h0 b off n c e (.inl (.inr (.inr (.inl e2)))),fun e2=>h.2 h0 b off n c e (.inl (.inr (.inr (.inr (.inr e2)))))⟩
theorem KeepQ.of_put [Prot]{w w3 w4:World}{s0 jb cb B:Nat}{vj:Value}{J:List Ck}{nx:Int}{vc:Value}{lx:List Ee}{S:FS}{C:List En}{b:Bool}{e:Ending}(F:FIn w3 s0 jb cb B vj J nx vc lx S)(hb:Below w.heap.size w w3)(h:PutE w3 cb B vc lx b C e w4):
 KeepQ w s0 jb cb B vj J nx vc S C (.returned (.tuple #[])) w4:=by
 obtain ⟨_,l',h1,h2,h3⟩:=h
 obtain ⟨a,c,E,hM,K⟩:=F.env.caTo h1 h3
 have hM2:∀ b,b<w.heap.size->Mu s0 jb cb vj (.slice a l'.length c) b->Mu s0 jb cb vj vc b:=fun b hb2=>hM b (Nat.lt_of_lt_of_le hb2 hb.size)
 have hns:¬ (fun b=>b=cb\/vc.ownBlock=some b) s0:=by
  rintro (e | e)
  ·exact F.env.sc e
  ·exact F.env.cs e
 have hr:=h1.2
 have hkp:Kp w3.heap.size (fun b=>b=cb\/vc.ownBlock=some b) w3 w4:=⟨hr.os,hr.tape,hr.output,hr.size,fun i hi hne=>hr.block i hi (fun e=>hne (.inl e)) (fun e=>hne (.inr e))⟩
 refine ⟨rfl,fun vh wh h=>(h.next hb).kp hkp F.env.ls hns,_,l',⟨E,?_⟩,h2,(Kp.of_below hb lr).trans K hb.size (fun _ _ e=>e),hM2⟩
 obtain ⟨va,vk,wa,wk,S0,hq,hh⟩:=F.st
 exact ⟨va,vk,wa,wk,S0.kp hkp S0.lt hns,hq.kp K lr hM,hh.kp K lr hM⟩
theorem keep_is [Prot]{w:World}{s0 jb cb B:Nat}{vj:Value}{J:List Ck}{nx:Int}{vc:Value}{lx:List Ee}{S:FS}(F:FIn w s0 jb cb B vj J nx vc lx S)(hz:USize 40000 S.a S.b S.c S.d S.e S.f)(hzq:HdSz S.qh)(hzr:HdSz (hdF S))(hzl:∀ x∈lx,HdSz x.2.va)(hll:lx.length<=1000)
 (st:Int) (u:Value) (hd:List Hd) (body:ByteArray) (now:Int) (hu:Hs (Mu s0 jb cb vj vc) w u hd) (hzd:HdSz hd) :
 Calls Tryz.prog 79 #[.pointer (some ⟨s0,0,none⟩),.int .i64 st,u,.string body,envA jb cb now] w (KeepQ w s0 jb cb B vj J nx vc S (keepF S st hd body now (lx.map (·.2)))):=by
 have hal:=(Below.refl _ w).alloc lr (.cells (envL jb cb now).toArray 83)
 have V1:=AtL.new w (envL jb cb now) 83
 have F1:=F.below hal
 obtain ⟨ua,uk,rfl⟩:=hu.shape
 by_cases hg:(S.sm.toList == getT)=true
 ·obtain ⟨T,hT⟩:∃ T,txB S=T:=⟨_,rfl⟩
  obtain ⟨L,hL⟩:∃ L,hdF S=L:=⟨_,rfl⟩
  obtain ⟨SB,hSB⟩:∃ SB,storL st L hd=SB:=⟨_,rfl⟩
  have ek:keepF S st hd body now (lx.map (·.2))=putEs (lx.map (·.2)) T L st hd body now SB:=by unfold keepF;rw [if_pos hg,hT,hL,hSB]
  rw [ek]
  rw [hL] at hzr
  obtain ⟨es,hes⟩:∃ es,putEs (lx.map (·.2)) T L st hd body now SB=es:=⟨_,rfl⟩
  rw [hes]
  have CT:=Lib.hid (fun (w':World) (F':FIn w' s0 jb cb B vj J nx vc lx S)=>(show Calls Tryz.prog 74 #[.pointer (some ⟨s0,0,none⟩)] w' fun x w''=>x = .returned (.string T)/\Below w'.heap.size w' w'' by
   obtain ⟨va,vk,wa,wk,S',_,_⟩:=F'.st
   exact txt_is S' hz T hT))
  have CH:=Lib.hid (fun (w':World) (F':FIn w' s0 jb cb B vj J nx vc lx S)=>(show Calls Tryz.prog 75 #[.pointer (some ⟨s0,0,none⟩)] w' (HdsQ w' L) by
   obtain ⟨va,vk,wa,wk,S',hq',_⟩:=F'.st
   exact headers_is S s0 _ _ w' F'.env.mx S' hq'.1 hzq hz L hL))
  have CP:=Lib.hid (fun (w':World) (F':FIn w' s0 jb cb B vj J nx vc lx S) (vr:Value) (hq:SlK hdC 2 w' vr L) (hfq:FarV L vr cb vc.ownBlock) (hh:Hs (Mu s0 jb cb vj vc) w' (.slice ua hd.length uk) hd)=>put_all cb B vc lx w' F'.env.mx F'.env.gm F'.env.bc F'.env.ca hzl hll T L hd vr (.slice ua hd.length uk) hq hh.1 hzr hzd hfq (hs_farv hh) st body now SB hSB es hes)
  have HF1:=Lib.hid F1
  have HU:=Lib.hid hu
  obtain ⟨E,va,vk,wa,wk,S0,hq,hh⟩:=F
  have hg2:(S.sm.toList == [71,69,84])=true:=hg
  have z15:w.cell? ⟨s0,15,none⟩=some (.string S.sm):=S0.c 15 rfl
  have zl:=S0.lt
  clear hq hh ek hes hSB hT hL hzr hzd hzl hu F1 S0
  have hcl:=E.lc
  have HCL:Hid (∀ g,vc.ownBlock=some g->g<w.heap.size):=Lib.hid (fun g hg=>E.cl hg)
  obtain ⟨sm,hsm⟩:∃ sm,S.sm=sm:=⟨_,rfl⟩
  rw [hsm] at hg2 z15
  clear hsm hg E
  go_enter Tryz.func79,Tryz.ntmps79
  go_upto_region 2 with fail
  obtain ⟨w1,hw1⟩:∃ w1:World,w.alloc (.cells (envL jb cb now).toArray 83)=w1:=⟨_,rfl⟩
  obtain ⟨V,hV⟩:∃ V,w.heap.size=V:=⟨_,rfl⟩
  rw [hw1] at hal V1 HF1
  rw [hV] at V1
  rw [show w.alloc (.cells #[.pointer (some ⟨jb,0,none⟩),.pointer (some ⟨cb,0,none⟩),.int .i64 now] 83)=w1 from hw1,hV]
  have HAL:=Lib.hid hal
  have HVV:=Lib.hid hV
  clear hw1 hV hal
  have v_:=V1.o3
  have vl:=V1.lt
  go_region_held3 (fun w'=>w'.cell? ⟨V,1,none⟩=some (.pointer (some ⟨cb,0,none⟩))/\w'.cell? ⟨V,2,none⟩=some (.int .i64 now))
   (first | with_reducible exact e2_mk V1.drew | with_reducible exact e2_mk V2 | with_reducible exact e2_mk V3 | with_reducible exact e2_mk V4 | go_keep)
   (first
     | (go_at_call 74;(with_reducible refine (CT.out w1.drew (HF1.out.below (Below.refl _ w1).drew)).mono ?_);rintro e2 w2 ⟨rfl,hbb2⟩;have h12:Below w1.heap.size w1 w2:=(Below.refl w1.heap.size w1).drew.trans hbb2;have V2:=V1.next h12;have HF2:=Lib.hid (HF1.out.below h12))
     | (go_at_call 75;(with_reducible refine (CH.out w2 HF2.out).mono ?_);rintro e3 w3 hq3;obtain ⟨v3,rfl,o3,_,h23⟩:=hq3;obtain ⟨oa,oc,rfl,_⟩:=own_reads o3;have V3:=V2.next h23;have HF3:=Lib.hid (HF2.out.below h23);have B3:=Lib.hid (HAL.out.trans ((h12.trans (h23.mono h12.size)).mono HAL.out.size));have CP3:=Lib.hid (CP.out w3 HF3.out _ (SlK.of_own hdC_len o3) (own_farv o3 (by have h2:=h12.size;have h3:=HAL.out.size;omega) (fun g hg=>by have h2:=h12.size;have h3:=HAL.out.size;have:=HCL.out g hg;omega)) (HU.out.below B3.out)))
     | (go_at_call 130;(with_reducible refine CP3.out.mono ?_);rintro e4 w4 hq4;have HQ:=Lib.hid (KeepQ.of_put HF3.out B3.out hq4);obtain ⟨rfl,l4,hc4,-,-⟩:=hq4;have V4:=V3.row hc4.2 V3.lt (by have:=HVV.out;omega) (fun e=>by have:=HCL.out _ e;have:=HVV.out;omega))
     | fail)
  go_wp2_with fail
  go_end0
  exact HQ.out
 ·have ek:keepF S st hd body now (lx.map (·.2))=lx.map (·.2):=by unfold keepF;rw [if_neg hg]
  rw [ek]
  have HE:Hid (KeepQ w s0 jb cb B vj J nx vc S (lx.map (·.2)) (.returned (.tuple #[])) _):=Lib.hid ⟨rfl,fun vh wh h=>h.next hal,vc,lx,F1,rfl,Kp.of_below hal lr,fun _ _ e=>e⟩
  obtain ⟨E,va,vk,wa,wk,S0,hq,hh⟩:=F
  have hg2:(S.sm.toList == [71,69,84])=false:=by simpa using hg
  have z15:w.cell? ⟨s0,15,none⟩=some (.string S.sm):=S0.c 15 rfl
  have zl:=S0.lt
  obtain ⟨sm,hsm⟩:∃ sm,S.sm=sm:=⟨_,rfl⟩
  rw [hsm] at hg2 z15
  clear hq hh ek hg E hzl hu F1 S0 hzr hzd hzq hz hsm
  go_enter Tryz.func79,Tryz.ntmps79
  go_wp2_with fail
  go_end0
  exact HE.out
section
variable {w w' : World} {s0 jb cb B : Nat} {vj : Value} {J : List Ck} {nx : Int} {vc : Value} {lx : List Ee} {S S' : FS}
theorem FIn.set [Prot](h:FIn w s0 jb cb B vj J nx vc lx S)(i:Nat)(v:Value)(e:∀ vh wh,(fsV S vh wh).set i v=fsV S' vh wh)(e1:S'.qh=S.qh)(e2:S'.hs=S.hs):FIn (w.setCell ⟨s0,i,none⟩ v) s0 jb cb B vj J nx vc lx S':=by
 obtain ⟨E,va,vk,wa,wk,S0,hq,hh⟩:=h
 have K:=(Kp.refl w.heap.size (Mu s0 jb cb vj vc) w).setCell ⟨s0,i,none⟩ (.inl E.ms) v
 refine ⟨E.set i v,va,vk,wa,wk,?_,?_,?_⟩
 ·have:=S0.set i v
  rw [e] at this
  rw [e1,e2]
  exact this
 ·rw [e1];exact hq.same K lr
 ·rw [e2];exact hh.same K lr
abbrev setU6 (w:World)(s0:Nat)(a b c d e f:ByteArray):World:=(((((w.setCell ⟨s0,9,none⟩ (.string a)).setCell ⟨s0,10,none⟩ (.string b)).setCell ⟨s0,11,none⟩ (.string c)).setCell ⟨s0,12,none⟩ (.string d)).setCell ⟨s0,13,none⟩ (.string e)).setCell ⟨s0,14,none⟩ (.string f)
theorem FIn.url [Prot](h:FIn w s0 jb cb B vj J nx vc lx S)(a b c d e f:ByteArray):FIn (setU6 w s0 a b c d e f) s0 jb cb B vj J nx vc lx { S with a:=a,b:=b,c:=c,d:=d,e:=e,f:=f }:=
 (((((h.set (S':={ S with a:=a }) 9 (.string a) (fun _ _=>rfl) rfl rfl).set (S':={ S with a:=a,b:=b }) 10 (.string b) (fun _ _=>rfl) rfl rfl).set (S':={ S with a:=a,b:=b,c:=c }) 11 (.string c) (fun _ _=>rfl) rfl rfl).set (S':={ S with a:=a,b:=b,c:=c,d:=d }) 12 (.string d) (fun _ _=>rfl) rfl rfl).set (S':={ S with a:=a,b:=b,c:=c,d:=d,e:=e }) 13 (.string e) (fun _ _=>rfl) rfl rfl).set (S':={ S with a:=a,b:=b,c:=c,d:=d,e:=e,f:=f }) 14 (.string f) (fun _ _=>rfl) rfl rfl
theorem Kp.url {n:Nat}{M:Nat->Prop}{w1:World}(h:Kp n M w1 w)(hM:M s0)(a b c d e f:ByteArray):Kp n M w1 (setU6 w s0 a b c d e f):=
 (((((h.setCell ⟨s0,9,none⟩ (.inl hM) _).setCell ⟨s0,10,none⟩ (.inl hM) _).setCell ⟨s0,11,none⟩ (.inl hM) _).setCell ⟨s0,12,none⟩ (.inl hM) _).setCell ⟨s0,13,none⟩ (.inl hM) _).setCell ⟨s0,14,none⟩ (.inl hM) _
theorem AtL.url {k:Nat}{vs:List Value}(h:AtL w k vs)(hk:s0≠k)(a b c d e f:ByteArray):AtL (setU6 w s0 a b c d e f) k vs:=
 (((((h.far ⟨s0,9,none⟩ _ hk).far ⟨s0,10,none⟩ _ hk).far ⟨s0,11,none⟩ _ hk).far ⟨s0,12,none⟩ _ hk).far ⟨s0,13,none⟩ _ hk).far ⟨s0,14,none⟩ _ hk
theorem FIn.cells [Prot](h:FIn w s0 jb cb B vj J nx vc lx S):∃ vh wh,AtL w s0 (fsV S vh wh)/\SlK hdC 2 w vh S.qh/\SlK hdC 2 w wh S.hs:=by
 obtain ⟨va,vk,wa,wk,S0,hq,hh⟩:=h.st
 exact ⟨_,_,S0,hq.1,hh.1⟩
structure RedA [Prot](w0:World)(s0 jb cb B:Nat)(vj:Value)(J:List Ck)(nx:Int)(vc:Value)(S:FS)(C:List En)(V:Nat)(now:Int)(vc1:Value)(lx1:List Ee)(wx:World):Prop where
 f:FIn wx s0 jb cb B vj J nx vc1 lx1 S
 c:lx1.map (·.2)=C
 k:Kp w0.heap.size (Mu s0 jb cb vj vc) w0 wx
 m:∀ b,b<w0.heap.size->Mu s0 jb cb vj vc1 b->Mu s0 jb cb vj vc b
 v:AtL wx V (envL jb cb now)
theorem RedA.below [Prot]{w0:World}{C:List En}{V:Nat}{now:Int}{vc1:Value}{lx1:List Ee}(h:RedA w0 s0 jb cb B vj J nx vc S C V now vc1 lx1 w)(hb:Below w.heap.size w w'):RedA w0 s0 jb cb B vj J nx vc S C V now vc1 lx1 w':=
 ⟨h.f.below hb,h.c,h.k.below hb h.k.size,h.m,h.v.next hb⟩
theorem RedA.set [Prot]{w0:World}{C:List En}{V:Nat}{now:Int}{vc1:Value}{lx1:List Ee}(h:RedA w0 s0 jb cb B vj J nx vc S C V now vc1 lx1 w)(hV:s0≠V)(i:Nat)(v:Value)(e:∀ vh wh,(fsV S vh wh).set i v=fsV S' vh wh)(e1:S'.qh=S.qh)(e2:S'.hs=S.hs):RedA w0 s0 jb cb B vj J nx vc S' C V now vc1 lx1 (w.setCell ⟨s0,i,none⟩ v):=
 ⟨h.f.set i v e e1 e2,h.c,h.k.setCell ⟨s0,i,none⟩ (.inl (.inl rfl)) v,h.m,h.v.far ⟨s0,i,none⟩ v hV⟩
theorem RedA.url [Prot]{w0:World}{C:List En}{V:Nat}{now:Int}{vc1:Value}{lx1:List Ee}(h:RedA w0 s0 jb cb B vj J nx vc S C V now vc1 lx1 w)(hV:s0≠V)(a b c d e f:ByteArray):RedA w0 s0 jb cb B vj J nx vc { S with a:=a,b:=b,c:=c,d:=d,e:=e,f:=f } C V now vc1 lx1 (setU6 w s0 a b c d e f):=
 ⟨h.f.url a b c d e f,h.c,h.k.url (.inl rfl) a b c d e f,h.m,h.v.url hV a b c d e f⟩
theorem RedA.fin [Prot]{w0:World}{C:List En}{V:Nat}{now:Int}{vc1:Value}{lx1:List Ee}{o:Out}{x:Ending}(h:RedA w0 s0 jb cb B vj J nx vc S C V now vc1 lx1 w)(q:StepQ w s0 jb cb B vj J nx vc1 o x w'):StepQ w0 s0 jb cb B vj J nx vc o x w':=q.pre h.k h.m
end
theorem stepq_shape [Prot]{w w':World}{s0 jb cb B:Nat}{vj:Value}{J:List Ck}{nx:Int}{vc:Value}{o:Out}{x:Ending}(h:StepQ w s0 jb cb B vj J nx vc o x w'):∃ a n c,x = .returned (.slice a n c):=by
 obtain ⟨v,l,vc',lx,h1,h2,h3,h4,h5,h6⟩:=h
 obtain ⟨a,c,rfl,_⟩:=own_reads h4.own
 exact ⟨a,_,c,h1⟩
theorem rslv_none (S:FS)(hS:USize 40000 S.a S.b S.c S.d S.e S.f)(loc:ByteArray)(hl:loc.size<=40000)(h:resolveL S.u (validB S.u) (trimL loc.data.toList)=none)(w:World)(hM:MaxAt w):
 Calls Tryz.prog 189 #[.agg #[.string S.a,.string S.b,.string S.c,.string S.d,.string S.e,.string S.f],.string loc] w fun x w'=>x = .returned (.tuple #[.agg #[.string ⟨#[]⟩,.string ⟨#[]⟩,.string ⟨#[]⟩,.string ⟨#[]⟩,.string ⟨#[]⟩,.string ⟨#[]⟩],.int .i64 4])/\Below w.heap.size w w':=by
 have:=resolve_any S.a S.b S.c S.d S.e S.f loc w hM hS.a hS.b hS.c hS.d hS.e hS.f hl
 rw [show resolveL (S.a.data.toList,S.b.data.toList,S.c.data.toList,S.d.data.toList,S.e.data.toList,S.f.data.toList) (validB (S.a.data.toList,S.b.data.toList,S.c.data.toList,S.d.data.toList,S.e.data.toList,S.f.data.toList)) (trimL loc.data.toList)=none from h] at this
 exact this
theorem rslv_some (S:FS)(hS:USize 40000 S.a S.b S.c S.d S.e S.f)(loc:ByteArray)(hl:loc.size<=40000)(ra rb rc rd re rf:List UInt8)(h:resolveL S.u (validB S.u) (trimL loc.data.toList)=some (ra,rb,rc,rd,re,rf))(w:World)(hM:MaxAt w):
 Calls Tryz.prog 189 #[.agg #[.string S.a,.string S.b,.string S.c,.string S.d,.string S.e,.string S.f],.string loc] w fun x w'=>x = .returned (.tuple #[.agg #[.string (bs ra),.string (bs rb),.string (bs rc),.string (bs rd),.string (bs re),.string (bs rf)],.int .i64 0])/\Below w.heap.size w w':=by
 have:=resolve_any S.a S.b S.c S.d S.e S.f loc w hM hS.a hS.b hS.c hS.d hS.e hS.f hl
 rw [show resolveL (S.a.data.toList,S.b.data.toList,S.c.data.toList,S.d.data.toList,S.e.data.toList,S.f.data.toList) (validB (S.a.data.toList,S.b.data.toList,S.c.data.toList,S.d.data.toList,S.e.data.toList,S.f.data.toList)) (trimL loc.data.toList)=some (ra,rb,rc,rd,re,rf) from h] at this
 exact this
theorem u6_cells {W w':World}{s U:Nat}{a b c d e f m o:Value}(h2:AtL W U [a,b,c,d,e,f])(hm:W.cell? ⟨s,4,none⟩=some m)(ho:W.cell? ⟨s,3,none⟩=some o)(hb:Below W.heap.size W w'):w'.cell? ⟨s,4,none⟩=some m/\w'.cell? ⟨s,3,none⟩=some o/\w'.cell? ⟨U,0,none⟩=some a/\w'.cell? ⟨U,1,none⟩=some b/\w'.cell? ⟨U,2,none⟩=some c/\w'.cell? ⟨U,3,none⟩=some d/\w'.cell? ⟨U,4,none⟩=some e/\w'.cell? ⟨U,5,none⟩=some f:=
 have k':=h2.next hb
 ⟨(brl hb _ _ (cell_lt hm)).trans hm,(brl hb _ _ (cell_lt ho)).trans ho,k'.c 0 rfl,k'.c 1 rfl,k'.c 2 rfl,k'.c 3 rfl,k'.c 4 rfl,k'.c 5 rfl⟩
end Go.Proofs.YtjdhaacmlpegoaaGreatDoor
