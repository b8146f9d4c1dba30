/- Part 17 of what the proof needs: RG XA XB DQ DR XC XK XV. -/
import Derived.Test.YtjdhaacmlpegoaaGreatDoorU16
set_option maxRecDepth 20000
set_option maxHeartbeats 16000000
set_option linter.unusedSimpArgs false
set_option linter.unusedVariables false
namespace Go.Proofs.YtjdhaacmlpegoaaGreatDoor
open Go.RowKit
theorem resolve_any (a b c d e f s:ByteArray)(w:World)(hM:MaxAt w)(ha:a.size<=40000)(hb:b.size<=40000)(hc:c.size<=40000)(hd:d.size<=40000)(he:e.size<=40000)(hf:f.size<=40000)(hs:s.size<=40000):
 Calls Tryz.prog 189 #[.agg #[.string a,.string b,.string c,.string d,.string e,.string f],.string s] w fun x w'=>x = .returned (resV (resolveL (a.data.toList,b.data.toList,c.data.toList,d.data.toList,e.data.toList,f.data.toList) (validB (a.data.toList,b.data.toList,c.data.toList,d.data.toList,e.data.toList,f.data.toList)) (trimL s.data.toList)))/\Below w.heap.size w w':=by
 obtain ⟨T,hT⟩:=list_bytes (trimL s.data.toList);have P:Pre a b c d e f s T:=⟨ha,hb,hc,hd,he,hf,hs,hT⟩
 rw [<-hT];unfold resolveL;by_cases h1:schemeOk T.data.toList=true
 ·rw [Kf h1];exact resolve1 a b c d e f s T w hM P h1
 ·rw [Ke h1];have h1':schemeOk T.data.toList=false:=by simpa using h1
  by_cases h2:validB (a.data.toList,b.data.toList,c.data.toList,d.data.toList,e.data.toList,f.data.toList)=false
  ·rw [Kf h2];exact resolve2 a b c d e f s T w hM P h1' h2
  ·rw [Ke h2];have h2':validB (a.data.toList,b.data.toList,c.data.toList,d.data.toList,e.data.toList,f.data.toList)=true:=by simpa using h2
   by_cases h3:T.data.toList=[]
   ·rw [Kf h3];exact resolve3 a b c d e f s T w hM P h1' h2' (by rw [<-size_len,h3];rfl) _ rfl
   ·rw [Ke h3];have h3':0<T.size:=by rw [<-size_len];exact Xf.2 h3
    by_cases h4:T.data.toList.head? = some 35
    ·rw [Kf h4];exact resolve4 a b c d e f s T w hM P h1' h2' h3' h4 _ rfl
    ·rw [Ke h4];by_cases h5:a.data.toList=aboutL
     ·rw [Kf h5];exact resolve5 a b c d e f s T w hM P h1' h2' h3' h4 h5 _ rfl
     ·rw [Ke h5];by_cases h6:T.data.toList.take 2=[47,47]
      ·rw [Kf h6];exact resolve6 a b c d e f s T w hM P h1' h2' h3' h4 h5 h6 _ rfl
      ·rw [Ke h6];by_cases h7:T.data.toList.head? = some 47
       ·rw [Kf h7];exact resolve7 a b c d e f s T w hM P h1' h2' h3' h4 h5 h6 h7 _ rfl
       ·rw [Ke h7];by_cases h8:T.data.toList.head? = some 63
        ·rw [Kf h8];exact resolve8 a b c d e f s T w hM P h1' h2' h3' h4 h5 h6 h7 h8 _ rfl
        ·rw [Ke h8];exact resolve9 a b c d e f s T w hM P h1' h2' h3' h4 h5 h6 h7 h8 _ rfl
structure FSt where
 tk:Int
 me:ByteArray
 ur:ByteArray
 og:ByteArray
 mo:Int
 qh:List Hd
 qb:ByteArray
 ck:Bool
 ph:Int
 a:ByteArray
 b:ByteArray
 c:ByteArray
 d:ByteArray
 e:ByteArray
 f:ByteArray
 sm:ByteArray
 ho:Nat
 ch:Bool
 hi:Bool
 st:Int
 hs:List Hd
 sb:ByteArray
 er:Int
structure Ev where
 k:Int
 me:ByteArray
 ur:ByteArray
 hs:List Hd
 bo:ByteArray
 st:Int
 er:Int
structure Out where
 s:FSt
 c:List En
 ev:List Ev
abbrev getS:ByteArray:=⟨#[71,69,84]⟩
abbrev getT:List UInt8:=[71,69,84]
abbrev headT:List UInt8:=[72,69,65,68]
abbrev postT:List UInt8:=[80,79,83,84]
abbrev ckN:ByteArray:=⟨#[67,111,111,107,105,101]⟩
abbrev ogN:ByteArray:=⟨#[79,114,105,103,105,110]⟩
abbrev scN:ByteArray:=⟨#[83,101,116,45,67,111,111,107,105,101]⟩
abbrev loN:ByteArray:=⟨#[76,111,99,97,116,105,111,110]⟩
abbrev eS:ByteArray:=⟨#[]⟩
def FSt.u (S:FSt):U6:=u6 S.a S.b S.c S.d S.e S.f
def fgB (S:FSt):Bool:=!(orgL S.u == S.og.data.toList)
def txB (S:FSt):ByteArray:=bs (formatL (u6 S.a S.b S.c S.d S.e eS))
def isH (h:Hd)(n:ByteArray):Bool:=lowL h.1.data.toList == lowL n.data.toList
def woL (hs:List Hd)(ns:List ByteArray):List Hd:=hs.filter fun h=>!(ns.any (isH h))
def hdF (S:FSt):List Hd:=woL S.qh [ckN,ogN] ++ if fgB S || (!(S.sm.toList == getT) && !(S.sm.toList == headT)) then [(ogN,S.og)] else []
def failS (S:FSt)(e:Int):FSt:={ S with ph:=4,er:=e,st:=0,hs:=[],sb:=eS }
def failV (e:Int):Ev:=⟨5,eS,eS,[],eS,0,e⟩
def rdF (S:FSt)(hs:List Hd):Bool:=decide (S.mo=4) || readB S.og S.mo S.ck (bs (orgL S.u)) hs
def keepF (S:FSt)(st:Int)(hs:List Hd)(body:ByteArray)(now:Int)(C:List En):List En:=
 if S.sm.toList == getT then putEs C (txB S) (hdF S) st hs body now (storL st (hdF S) hs) else C
def movB (st:Int):Bool:=decide (st=301\/st=302\/st=303\/st=307\/st=308)
def nextM (st:Int)(m:ByteArray):ByteArray:=if (decide (st=303) && !(m.toList == headT)) || ((decide (st=301) || decide (st=302)) && (m.toList == postT)) then getS else m
def setU (S:FSt)(u:U6):FSt:={ S with a:=bs u.1,b:=bs u.2.1,c:=bs u.2.2.1,d:=bs u.2.2.2.1,e:=bs u.2.2.2.2.1,f:=if u.2.2.2.2.2=[] then S.f else bs u.2.2.2.2.2 }
def failO (S:FSt)(C:List En)(e:Int):Out:=⟨failS S e,C,[failV e]⟩
def redirF (snd:FSt->List En->Out)(st:Int)(loc:ByteArray)(S:FSt)(C:List En):Out:=
 if 10<=S.ho then failO S C 16
 else match resolveL S.u (validB S.u) (trimL loc.data.toList) with
  | none=>failO { S with ho:=S.ho+1 } C 17
  | some u => if webB (bs u.1) = false then failO { S with ho := S.ho + 1 } C 17
    else if decide (S.mo=2) && fgB (setU S u) then failO { S with ho:=S.ho+1 } C 15
    else snd { setU S u with ho:=S.ho+1,sm:=nextM st S.sm } C
def headO (st:Int)(hs:List Hd)(S:FSt)(C:List En):Out:=
 if rdF S hs=false then failO { S with hi:=decide (S.mo=4) && fgB S } C 15
 else ⟨{ S with ph:=2,hi:=decide (S.mo=4) && fgB S,st:=st,hs:=hs,sb:=eS },C,
  [if decide (S.mo=4) && fgB S then ⟨2,eS,eS,[],eS,0,0⟩ else ⟨2,eS,bs (formatL S.u),woL hs [scN],eS,st,0⟩]⟩
def takeF (snd:FSt->List En->Out)(net:Bool)(now:Int)(st:Int)(hs:List Hd)(S:FSt)(C:List En):Out:=
 if (hdrL hs loN.data.toList).isSome && movB st then
  if rdF S hs=false then failO S C 15
  else redirF snd st (valL hs loN.data.toList) S (if net then keepF S st hs eS now C else C)
 else headO st hs S C
def dataF (p:ByteArray)(S:FSt):FSt × List Ev:=
 if S.ph=2 then
  if 1048576<S.sb.size+p.size then (failS S 5,[failV 5])
  else ({ S with sb:=S.sb ++ p },if p.size=0\/S.hi=true then [] else [⟨3,eS,eS,[],p,0,0⟩])
 else (S,[])
def endV:Ev:=⟨4,eS,eS,[],eS,0,0⟩
def restF (p:ByteArray)(o:Out):Out:=
 if o.s.ph=2 then
  if (dataF p o.s).1.ph=2 then ⟨{ (dataF p o.s).1 with ph:=3 },o.c,o.ev ++ (dataF p o.s).2 ++ [endV]⟩
  else ⟨(dataF p o.s).1,o.c,o.ev ++ (dataF p o.s).2⟩
 else o
def storedF (snd:FSt->List En->Out)(now:Int)(e:En)(S:FSt)(C:List En):Out:=restF e.bo (takeF snd false now e.st e.hd { S with ch:=false } C)
def cookF (J:List Ck)(now:Int)(S:FSt):ByteArray:=if takesB S.u then bs (joinL (insS ltC (J.filter (hitB S.a S.b S.d now)))) else eS
def lastI {α:Type}(p:α->Bool):List α->Option Nat
 | []=>none
 | x :: l => match lastI p l with
   | some k=>some (k+1)
   | none=>if p x then some 0 else none
structure Plan where
 k:Int
 e:En
 hs:List Hd
 c:List En
def askF (C:List En)(url:ByteArray)(rq:List Hd)(now:Int):Plan:=
 match lastI (fun e=>ansB e url rq) C with
 | none=>⟨1,en0,[],C⟩
 | some i => if (dirL rq).ns then ⟨1, en0, [], C⟩ else match C[i]? with
   | none=>⟨1,en0,[],C⟩
   | some e=>if useB (dirL rq) e now then ⟨2,e,[],C.eraseIdx i ++ [e]⟩ else if chkL e.hd=[] then ⟨1,en0,[],C⟩ else ⟨3,e,chkL e.hd,C⟩
def askO (J:List Ck)(now:Int)(S:FSt)(C:List En)(more:List Hd)(ch:Bool):Out:=
 ⟨{ S with ch:=ch,ph:=1 },C,[⟨1,S.sm,txB S,hdF S ++ more ++ (if S.ck && !(cookF J now S).toList.isEmpty then [(ckN,cookF J now S)] else []),if S.sm.toList == S.me.toList then S.qb else eS,0,0⟩]⟩
def sendF (J:List Ck)(now:Int):Nat->FSt->List En->Out
 | 0,S,C=>⟨S,C,[]⟩
 | n+1,S,C=>
   if S.sm.toList == getT then
    let p:=askF C (txB S) (hdF S) now
    if p.k=2 then storedF (sendF J now n) now p.e S p.c
    else if p.k=3 then askO J now S p.c p.hs true
    else askO J now S p.c [] false
   else askO J now S C [] false
def newS (tk:Int)(me ur og:ByteArray)(mo:Int)(qh:List Hd)(qb:ByteArray)(ck:Bool):FSt:=⟨tk,me,ur,og,mo,qh,qb,ck,0,eS,eS,eS,eS,eS,eS,eS,0,false,false,0,[],eS,0⟩
def putU (S:FSt)(u:U6):FSt:={ S with a:=bs u.1,b:=bs u.2.1,c:=bs u.2.2.1,d:=bs u.2.2.2.1,e:=bs u.2.2.2.2.1,f:=bs u.2.2.2.2.2 }
def beginF (J:List Ck)(now:Int)(S:FSt)(C:List En):Out:=
 if S.mo<1\/4<S.mo\/knownB S.me=false then failO S C 1
 else match parseL S.ur.data.toList with
  | none=>failO S C 4
  | some u => if webB (bs u.1) = false then failO S C 4
    else if decide (S.mo=2) && fgB (putU S u) then failO S C 15
    else sendF J now 11 { putU S u with sm:=S.me } C
def endF (now:Int)(S:FSt)(C:List En):Out:=
 if S.ph=2 then ⟨{ S with ph:=3 },keepF S S.st S.hs S.sb now C,[endV]⟩ else ⟨S,C,[]⟩
def stopF (e:Int)(S:FSt):FSt × List Ev:=if S.ph=1\/S.ph=2 then (failS S e,[failV e]) else (S,[])
def confF (C:List En)(url:ByteArray)(rq hs:List Hd)(now:Int):Option (En × List En):=
 match lastI (fun e=>ansB e url rq) C with
 | none=>none
 | some i => match C[i]? with
   | none=>none
   | some e=>some (confE e hs now,C.eraseIdx i ++ [confE e hs now])
def headF (J:List Ck)(now:Int)(st:Int)(hs:List Hd)(S:FSt)(C:List En):Out:=
 if S.ch && decide (st=304) then
  match confF C (txB S) (hdF S) hs now with
  | none=>failO S C 17
  | some (e,C')=>storedF (sendF J now 11) now e S C'
 else takeF (sendF J now 11) true now st hs S C
class Prot where
 x:Nat->Prop
def Mu (s0 jb cb:Nat)(vj vc:Value)(b:Nat):Prop:=b=s0\/b=jb\/b=cb\/vj.ownBlock=some b\/vc.ownBlock=some b
structure Kp (n:Nat)(M:Nat->Prop)(w w':World):Prop where
 os:w'.os=w.os
 tape:w'.tape=w.tape
 output:w'.output=w.output
 size:w.heap.size<=w'.heap.size
 block:∀ k,k<n->¬ M k->w'.heap[k]? = w.heap[k]?
theorem Kp.refl (n:Nat)(M:Nat->Prop)(w:World):Kp n M w w:=⟨rfl,rfl,rfl,lr,fun _ _ _=>rfl⟩
theorem Kp.trans {n m:Nat}{M M':Nat->Prop}{w w1 w2:World}(h:Kp n M w w1)(k:Kp m M' w1 w2)(hn:n<=m)(hM:∀ b,b<n->M' b->M b):Kp n M w w2:=
 ⟨k.os.trans h.os,k.tape.trans h.tape,k.output.trans h.output,Kg h.size k.size,fun i hi hm=>(k.block i (by omega) (fun e=>hm (hM i hi e))).trans (h.block i hi hm)⟩
theorem Kp.of_below {n B:Nat}{M:Nat->Prop}{w w':World}(h:Below B w w')(hn:n<=B):Kp n M w w':=⟨h.os,h.tape,h.output,h.size,fun k hk _=>h.block k (by omega)⟩
theorem Kp.below {n B:Nat}{M:Nat->Prop}{w w1 w2:World}(h:Kp n M w w1)(k:Below B w1 w2)(hn:n<=B):Kp n M w w2:=h.trans (Kp.of_below (M:=M) k hn) lr (fun _ _ e=>e)
theorem Kp.setCell {n:Nat}{M:Nat->Prop}{w w':World}(h:Kp n M w w')(p:Addr)(hp:M p.block\/n<=p.block)(u:Value):Kp n M w (w'.setCell p u):=
 ⟨h.os,h.tape,h.output,by rw [World.size_setCell];exact h.size,fun k hk hm=>by
  have hne:k≠p.block:=by
   rcases hp with hp | hp
   ·exact fun e=>hm (e ▸ hp)
   ·omega
  exact (Below.heap_setCell w' p u k hne).trans (h.block k hk hm)⟩
theorem Kp.sets {n k:Nat}{M:Nat->Prop}{w:World}(hp:M k\/n<=k):∀ {W:World} {o:Nat} (vs:List Value),Kp n M w W->Kp n M w (W.setCells k o vs)
 | _,_,[],h=>h
 | _,_,_ :: vs,h=>Kp.sets hp vs (h.setCell ⟨k,_,none⟩ hp _)
theorem Kp.low {n B:Nat}{M:Nat->Prop}{w w':World}(h:Kp n M w w')(hn:B<=n)(hM:∀ b,M b->B<=b):Below B w w':=⟨h.os,h.tape,h.output,h.size,fun k hk=>h.block k (by omega) (fun e=>by have:=hM k e;omega)⟩
theorem Kp.cell {n:Nat}{M:Nat->Prop}{w w':World}(h:Kp n M w w'){b o:Nat}(hb:b<n)(hm:¬ M b):w'.cell? ⟨b,o,none⟩=w.cell? ⟨b,o,none⟩:=World.cell?_of_block (w:=w) (h.block b hb hm)
theorem AtL.kp {n k:Nat}{M:Nat->Prop}{w w':World}{vs:List Value}(hA:AtL w k vs)(h:Kp n M w w')(hk:k<n)(hm:¬ M k):AtL w' k vs:=
 ⟨Ko hA.1 h.size,fun j v hv=>⟨(World.cell?_of_block (w:=w) (h.block k hk hm)).trans (hA.c j hv),(World.frozen?_of_block (w:=w) (h.block k hk hm)).trans (hA.f j hv)⟩⟩
theorem own_kp {w w':World}{b n e s m:Nat}{M:Nat->Prop}{v:Value}{xs:List Value}(h:w.ownsRow b e s v m xs)(hb:Kp n M w w')(hB:w.heap.size<=n)(hm:∀ g,v.ownBlock=some g->¬ M g):w'.ownsRow b e s v m xs:=by
 refine ⟨h.1,?_⟩;rcases h.2 with h2 | ⟨g,cap,cur,hv,hg,hh,r⟩
 ·exact .inl h2
 ·exact .inr ⟨g,cap,cur,hv,hg,by rw [hb.block g (by have:=(Xq.1 hh).1;omega) (hm g (by rw [hv];rfl))];exact hh,r⟩
def FarM (M:Nat->Prop)(hs:List Hd)(u:Value):Prop:=hs≠[]->∀ b off n c,u = .slice (some ⟨b,off,none⟩) n c->¬ M b
def Px [Prot](M:Nat->Prop)(b:Nat):Prop:=M b\/Prot.x b
def Hs [Prot](M:Nat->Prop)(w:World)(u:Value)(hs:List Hd):Prop:=SlK hdC 2 w u hs/\FarM (Px M) hs u
theorem FarM.px [Prot]{M:Nat->Prop}{u:Value}{hs:List Hd}(h:FarM (Px M) hs u):FarM M hs u:=fun h0 b off n c e hm=>h h0 b off n c e (.inl hm)
theorem M22{p:Prop}(h:p:=by
 rcases h with ⟨h1,_⟩ | ⟨_,b2,off2,cap,hv,_,_,h4,_⟩
 ·exact absurd h1 h0
 ·rw [hv] at e;injection e with e1 _ _;injection e1 with e1;injection e1 with e1;omega
 ):p:=h
theorem slk_lt {w:World}{u:Value}{hs:List Hd}(h:SlK hdC 2 w u hs)(h0:hs≠[]){b off n c:Nat}(e:u = .slice (some ⟨b,off,none⟩) n c):b<w.heap.size:=by
 exact M22
theorem slk_kp {w w':World}{n:Nat}{M:Nat->Prop}{u:Value}{hs:List Hd}(h:SlK hdC 2 w u hs)(hf:FarM M hs u)(k:Kp n M w w')(hn:w.heap.size<=n):SlK hdC 2 w' u hs:=by
 rcases h with h | ⟨h0,b,off,cap,hv,e2,e3,h4,h5⟩
 ·exact .inl h
 ·exact .inr ⟨h0,b,off,cap,hv,e2,e3,Ko h4 k.size,fun i hi j u hu=>(k.cell (by omega) (hf h0 b off _ _ hv)).trans (h5 i hi j u hu)⟩
theorem FarM.to {w:World}{M M':Nat->Prop}{u:Value}{hs:List Hd}(hf:FarM M hs u)(h:SlK hdC 2 w u hs)(hM:∀ b,b<w.heap.size->M' b->M b):FarM M' hs u:=
 fun h0 b off n c e hm=>hf h0 b off n c e (hM b (slk_lt h h0 e) hm)
theorem Hs.kp [Prot]{w w':World}{n:Nat}{M M':Nat->Prop}{u:Value}{hs:List Hd}(h:Hs M w u hs)(k:Kp n M w w')(hn:w.heap.size<=n)(hM:∀ b,b<w.heap.size->M' b->M b):Hs M' w' u hs:=
 ⟨slk_kp h.1 h.2.px k hn,h.2.to h.1 fun b hb=>Or.imp (hM b hb) id⟩
def Hq (M:Nat->Prop)(w:World)(u:Value)(hs:List Hd):Prop:=SlK hdC 2 w u hs/\FarM M hs u
theorem Hq.same {w w':World}{n:Nat}{M:Nat->Prop}{u:Value}{hs:List Hd}(h:Hq M w u hs)(k:Kp n M w w')(hn:w.heap.size<=n):Hq M w' u hs:=⟨slk_kp h.1 h.2 k hn,h.2⟩
theorem Hq.below {w w':World}{M:Nat->Prop}{u:Value}{hs:List Hd}(h:Hq M w u hs)(k:Below w.heap.size w w'):Hq M w' u hs:=h.same (Kp.of_below (M:=M) k lr) lr
theorem Hs.same [Prot]{w w':World}{n:Nat}{M:Nat->Prop}{u:Value}{hs:List Hd}(h:Hs M w u hs)(k:Kp n M w w')(hn:w.heap.size<=n):Hs M w' u hs:=h.kp k hn fun _ _ e=>e
theorem Hs.below [Prot]{w w':World}{M:Nat->Prop}{u:Value}{hs:List Hd}(h:Hs M w u hs)(k:Below w.heap.size w w'):Hs M w' u hs:=h.same (Kp.of_below (M:=M) k lr) lr
theorem FarM.new {N:Nat}{M:Nat->Prop}{u:Value}{hs:List Hd}(hn:∀ b off n k,u = .slice (some ⟨b,off,none⟩) n k->N<=b)(hM:∀ b,M b->b<N):FarM M hs u:=
 fun _ b off n c e hm=>by have:=hn b off n c e;have:=hM b hm;omega
theorem FarM.newP [Prot]{N:Nat}{M:Nat->Prop}{u:Value}{hs:List Hd}(hn:∀ b off n k,u = .slice (some ⟨b,off,none⟩) n k->N<=b)(hM:∀ b,M b->b<N)(hX:∀ b,Prot.x b->b<N):FarM (Px M) hs u:=
 FarM.new hn fun b h=>h.elim (hM b) (hX b)
theorem Hs.nil [Prot](M:Nat->Prop)(w:World):Hs M w (.slice none 0 0) []:=⟨slk0 _,fun h=>absurd rfl h⟩
theorem Hs.shape [Prot]{w:World}{M:Nat->Prop}{u:Value}{hs:List Hd}(h:Hs M w u hs):∃ a c,u = .slice a hs.length c:=by obtain ⟨a,c,e,_⟩:=h.1.shape;exact ⟨a,c,e⟩
abbrev envL (jb cb:Nat)(now:Int):List Value:=[.pointer (some ⟨jb,0,none⟩),.pointer (some ⟨cb,0,none⟩),.int .i64 now]
abbrev envA (jb cb:Nat)(now:Int):Value:=.agg #[.pointer (some ⟨jb,0,none⟩),.pointer (some ⟨cb,0,none⟩),.int .i64 now]
structure EnvIn [Prot](w:World)(s0 jb cb B:Nat)(vj vc:Value)(J:List Ck)(nx:Int)(lx:List Ee):Prop where
 mx:MaxAt w
 gm:0<B
 bs:B<=s0
 bj:B<=jb
 bc:B<=cb
 ls:s0<w.heap.size
 sj:s0≠jb
 sc:s0≠cb
 jc:jb≠cb
 jar:JarIn w jb B vj J nx
 ca:CaIn w cb B vc lx
 js:vj.ownBlock≠some s0
 jcb:vj.ownBlock≠some cb
 cs:vc.ownBlock≠some s0
 cj:vc.ownBlock≠some jb
 jr:∀ g,vj.ownBlock=some g->vc.ownBlock≠some g
 far:∀ x∈lx,FarM (Px (Mu s0 jb cb vj vc)) x.2.va x.1.vv/\FarM (Px (Mu s0 jb cb vj vc)) x.2.hd x.1.hv
 px:∀ b,Prot.x b->b<w.heap.size
section
variable [Prot] {w w' : World} {s0 jb cb B : Nat} {vj vc : Value} {J : List Ck} {nx : Int} {lx : List Ee}
theorem EnvIn.lj (h:EnvIn w s0 jb cb B vj vc J nx lx):jb<w.heap.size:=h.jar.at_.lt
theorem EnvIn.lc (h:EnvIn w s0 jb cb B vj vc J nx lx):cb<w.heap.size:=h.ca.at_.lt
theorem EnvIn.jl (h:EnvIn w s0 jb cb B vj vc J nx lx){g:Nat}(hg:vj.ownBlock=some g):g<w.heap.size:=(h.jar.own.lt g hg).2
theorem EnvIn.cl (h:EnvIn w s0 jb cb B vj vc J nx lx){g:Nat}(hg:vc.ownBlock=some g):g<w.heap.size:=(h.ca.own.lt g hg).2
theorem EnvIn.mlt (h:EnvIn w s0 jb cb B vj vc J nx lx):∀ b,Mu s0 jb cb vj vc b->b<w.heap.size:=by
 rintro b (rfl | rfl | rfl | e | e)
 ·exact h.ls
 ·exact h.lj
 ·exact h.lc
 ·exact h.jl e
 ·exact h.cl e
theorem EnvIn.mge (h:EnvIn w s0 jb cb B vj vc J nx lx):∀ b,Mu s0 jb cb vj vc b->B<=b:=by
 rintro b (rfl | rfl | rfl | e | e)
 ·exact h.bs
 ·exact h.bj
 ·exact h.bc
 ·exact own_base h.jar.own e
 ·exact own_base h.ca.own e
theorem EnvIn.bl (h:EnvIn w s0 jb cb B vj vc J nx lx):B<=w.heap.size:=Kl (Nat.lt_of_le_of_lt h.bs h.ls)
theorem EnvIn.ms (h:EnvIn w s0 jb cb B vj vc J nx lx):Mu s0 jb cb vj vc s0:=Or.inl rfl
theorem EnvIn.but (h:EnvIn w s0 jb cb B vj vc J nx lx)(k:BelowBut w.heap.size s0 w w'):EnvIn w' s0 jb cb B vj vc J nx lx:=by
 have hkp:Kp w.heap.size (fun b=>b=s0) w w':=⟨k.os,k.tape,k.output,k.size,fun i hi hne=>k.block i hi hne⟩
 have hsub:∀ b,b=s0->Mu s0 jb cb vj vc b:=fun b e=>.inl e;have hlow:Below B w w':=hkp.low h.bl (fun b e=>by subst e;exact h.bs);refine ⟨?_,h.gm,h.bs,h.bj,h.bc,Ko h.ls k.size,h.sj,h.sc,h.jc,?_,?_,h.js,h.jcb,h.cs,h.cj,h.jr,h.far,fun b hb=>Ko (h.px b hb) k.size⟩
 ·obtain ⟨m,hm⟩:=h.mx;exact ⟨m,(hlow.cell (p:=⟨0,0,none⟩) h.gm).trans hm⟩
 ·exact ⟨h.jar.at_.kp hkp h.lj (fun e=>h.sj e.symm),own_kp h.jar.own hkp lr (fun g hg e=>h.js (by rw [hg,e])),h.jar.ne,Kg h.jar.le k.size⟩
 ·refine ⟨h.ca.at_.kp hkp h.lc (fun e=>h.sc e.symm),own_kp h.ca.own hkp lr (fun g hg e=>h.cs (by rw [hg,e])),h.ca.ne,Kg h.ca.le k.size,fun x hx=>?_,h.ca.far⟩;have hr:=h.ca.rd x hx;have hf:=h.far x hx;exact ⟨hr.u,hr.st,hr.bo,hr.ti,slk_kp hr.va (fun h0 b off n c e hm=>hf.1 h0 b off n c e (.inl (hsub b hm))) hkp lr,slk_kp hr.hd (fun h0 b off n c e hm=>hf.2 h0 b off n c e (.inl (hsub b hm))) hkp lr⟩
theorem EnvIn.below (h:EnvIn w s0 jb cb B vj vc J nx lx)(k:Below w.heap.size w w'):EnvIn w' s0 jb cb B vj vc J nx lx:=h.but ⟨k.os,k.tape,k.output,k.size,fun i hi _=>k.block i hi⟩
theorem EnvIn.set (h:EnvIn w s0 jb cb B vj vc J nx lx)(o:Nat)(u:Value):EnvIn (w.setCell ⟨s0,o,none⟩ u) s0 jb cb B vj vc J nx lx:=h.but ((BelowBut.refl w.heap.size s0 w).setCell ⟨s0,o,none⟩ (.inl rfl) u)
theorem EnvIn.caTo (h:EnvIn w s0 jb cb B vj vc J nx lx){l':List Ee}(k:CaTo w cb B vc l' w')(hl:∀ y∈l',y∈lx\/NewE y w.heap.size):
 ∃ a c,EnvIn w' s0 jb cb B vj (.slice a l'.length c) J nx l'/\(∀ b,b<w.heap.size->Mu s0 jb cb vj (.slice a l'.length c) b->Mu s0 jb cb vj vc b)/\Kp w.heap.size (Mu s0 jb cb vj vc) w w':=by
 obtain ⟨a,c,hC,hto,hr⟩:=k.out;have hkp:Kp w.heap.size (fun b=>b=cb\/vc.ownBlock=some b) w w':=⟨hr.os,hr.tape,hr.output,hr.size,fun i hi hne=>hr.block i hi (fun e=>hne (.inl e)) (fun e=>hne (.inr e))⟩
 have hsub:∀ b,(b=cb\/vc.ownBlock=some b)->Mu s0 jb cb vj vc b:=by
  rintro b (e | e)
  ·exact .inr (.inr (.inl e))
  ·exact .inr (.inr (.inr (.inr e)))
 have hM:∀ b,b<w.heap.size->Mu s0 jb cb vj (.slice a l'.length c) b->Mu s0 jb cb vj vc b:=by
  rintro b hb (e | e | e | e | e)
  ·exact .inl e
  ·exact .inr (.inl e)
  ·exact .inr (.inr (.inl e))
  ·exact .inr (.inr (.inr (.inl e)))
  ·rcases hto b e with e2 | e2
   ·exact .inr (.inr (.inr (.inr e2)))
   ·omega
 have hlow:Below B w w':=hkp.low h.bl (by
  rintro b (e | e)
  ·subst e;exact h.bc
  ·exact own_base h.ca.own e)
 refine ⟨a,c,⟨?_,h.gm,h.bs,h.bj,h.bc,Ko h.ls hr.size,h.sj,h.sc,h.jc,?_,hC,h.js,h.jcb,?_,?_,?_,fun y hy=>?_,fun b hb=>Ko (h.px b hb) hr.size⟩,hM,⟨hr.os,hr.tape,hr.output,hr.size,fun i hi hne=>hkp.block i hi (fun e=>hne (hsub i e))⟩⟩
 ·obtain ⟨m,hm⟩:=h.mx;exact ⟨m,(hlow.cell (p:=⟨0,0,none⟩) h.gm).trans hm⟩
 ·refine ⟨h.jar.at_.kp hkp h.lj ?_,own_kp h.jar.own hkp lr ?_,h.jar.ne,Kg h.jar.le hr.size⟩
  ·rintro (e | e)
   ·exact h.jc e
   ·exact h.cj e
  ·rintro g hg (e | e)
   ·exact h.jcb (by rw [hg,e])
   ·exact h.jr g hg e
 ·intro e;rcases hto _ e with e2 | e2
  ·exact h.cs e2
  ·have:=h.ls;omega
 ·intro e;rcases hto _ e with e2 | e2
  ·exact h.cj e2
  ·have:=h.lj;omega
 ·intro g hg e;rcases hto _ e with e2 | e2
  ·exact h.jr g hg e2
  ·have:=h.jl hg;omega
 ·rcases hl y hy with h1 | h1
  ·have hf:=h.far y h1;have hr2:=h.ca.rd y h1;exact ⟨hf.1.to hr2.va fun b hb=>Or.imp (hM b hb) id,hf.2.to hr2.hd fun b hb=>Or.imp (hM b hb) id⟩
  ·have hF:=hC.far y hy;refine ⟨fun h0 b off n c e hm=>?_,fun h0 b off n c e hm=>?_⟩
   ·have h2:=h1.1 b off n c e;rcases hm with (e1 | e1 | e1 | e1 | e1) | e1
    ·have:=h.ls;omega
    ·have:=h.lj;omega
    ·exact (hF.va h0 b off n c e).1 e1
    ·have:=h.jl e1;omega
    ·exact (hF.va h0 b off n c e).2 e1
    ·have:=h.px b e1;omega
   ·have h2:=h1.2 b off n c e;rcases hm with (e1 | e1 | e1 | e1 | e1) | e1
    ·have:=h.ls;omega
    ·have:=h.lj;omega
    ·exact (hF.hd h0 b off n c e).1 e1
    ·have:=h.jl e1;omega
    ·exact (hF.hd h0 b off n c e).2 e1
    ·have:=h.px b e1;omega
theorem EnvIn.jarTo (h:EnvIn w s0 jb cb B vj vc J nx lx){vj':Value}{J':List Ck}{nx':Int}(hJ:JarIn w' jb B vj' J' nx')(hto:OldNew vj vj' w.heap.size)(hr:RowBut w.heap.size jb vj.ownBlock w w'):
 EnvIn w' s0 jb cb B vj' vc J' nx' lx/\(∀ b,b<w.heap.size->Mu s0 jb cb vj' vc b->Mu s0 jb cb vj vc b)/\Kp w.heap.size (Mu s0 jb cb vj vc) w w':=by
 have hkp:Kp w.heap.size (fun b=>b=jb\/vj.ownBlock=some b) w w':=⟨hr.os,hr.tape,hr.output,hr.size,fun i hi hne=>hr.block i hi (fun e=>hne (.inl e)) (fun e=>hne (.inr e))⟩
 have hsub:∀ b,(b=jb\/vj.ownBlock=some b)->Mu s0 jb cb vj vc b:=by
  rintro b (e | e)
  ·exact .inr (.inl e)
  ·exact .inr (.inr (.inr (.inl e)))
 have hM:∀ b,b<w.heap.size->Mu s0 jb cb vj' vc b->Mu s0 jb cb vj vc b:=by
  rintro b hb (e | e | e | e | e)
  ·exact .inl e
  ·exact .inr (.inl e)
  ·exact .inr (.inr (.inl e))
  ·rcases hto b e with e2 | e2
   ·exact .inr (.inr (.inr (.inl e2)))
   ·omega
  ·exact .inr (.inr (.inr (.inr e)))
 have hlow:Below B w w':=hkp.low h.bl (by
  rintro b (e | e)
  ·subst e;exact h.bj
  ·exact own_base h.jar.own e)
 refine ⟨⟨?_,h.gm,h.bs,h.bj,h.bc,Ko h.ls hr.size,h.sj,h.sc,h.jc,hJ,?_,?_,?_,h.cs,h.cj,?_,fun y hy=>?_,fun b hb=>Ko (h.px b hb) hr.size⟩,hM,⟨hr.os,hr.tape,hr.output,hr.size,fun i hi hne=>hkp.block i hi (fun e=>hne (hsub i e))⟩⟩
 ·obtain ⟨m,hm⟩:=h.mx;exact ⟨m,(hlow.cell (p:=⟨0,0,none⟩) h.gm).trans hm⟩
 ·have hne:∀ g,vc.ownBlock=some g->¬ (g=jb\/vj.ownBlock=some g):=by
   rintro g hg (e | e)
   ·exact h.cj (by rw [hg,e])
   ·exact h.jr g e hg
  refine ⟨h.ca.at_.kp hkp h.lc ?_,own_kp h.ca.own hkp lr hne,h.ca.ne,Kg h.ca.le hr.size,fun x hx=>?_,h.ca.far⟩
  ·rintro (e | e)
   ·exact h.jc e.symm
   ·exact h.jcb e
  ·have hr2:=h.ca.rd x hx;have hf:=h.far x hx;exact ⟨hr2.u,hr2.st,hr2.bo,hr2.ti,slk_kp hr2.va (fun h0 b off n c e hm=>hf.1 h0 b off n c e (.inl (hsub b hm))) hkp lr,slk_kp hr2.hd (fun h0 b off n c e hm=>hf.2 h0 b off n c e (.inl (hsub b hm))) hkp lr⟩
 ·intro e;rcases hto _ e with e2 | e2
  ·exact h.js e2
  ·have:=h.ls;omega
 ·intro e;rcases hto _ e with e2 | e2
  ·exact h.jcb e2
  ·have:=h.lc;omega
 ·intro g hg e;rcases hto g hg with e2 | e2
  ·exact h.jr g e2 e
  ·have:=h.cl e;omega
 ·have hf:=h.far y hy;have hr2:=h.ca.rd y hy;exact ⟨hf.1.to hr2.va fun b hb=>Or.imp (hM b hb) id,hf.2.to hr2.hd fun b hb=>Or.imp (hM b hb) id⟩
end
abbrev fsV (S:FSt)(vh wh:Value):List Value:=fsC S.tk S.me S.ur S.og S.mo vh S.qb S.ck S.ph S.a S.b S.c S.d S.e S.f S.sm S.ho S.ch S.hi S.st wh S.sb S.er
def StIn [Prot](M:Nat->Prop)(w:World)(s0:Nat)(S:FSt):Prop:=∃ (va:Option Addr) (vc:Nat) (wa:Option Addr) (wc:Nat),AtL w s0 (fsV S (.slice va S.qh.length vc) (.slice wa S.hs.length wc))/\Hs M w (.slice va S.qh.length vc) S.qh/\Hs M w (.slice wa S.hs.length wc) S.hs
abbrev evC (r:Value × Ev):List Value:=[.int .i64 r.2.k,.string r.2.me,.string r.2.ur,r.1,.string r.2.bo,.int .i64 r.2.st,.int .i64 r.2.er]
theorem evC_len (r:Value × Ev):(evC r).length=7:=rfl
structure Evs [Prot](M:Nat->Prop)(n:Nat)(w:World)(v:Value)(l:List (Value × Ev))(evs:List Ev):Prop where
 eq:l.map (·.2)=evs
 own:w.ownsRow n 48 7 v l.length (cellsK evC l)
 far:∀ g,v.ownBlock=some g->¬ M g
 hs:∀ r∈l,Hs M w r.1 r.2.hs
theorem Evs.kp [Prot]{M M':Nat->Prop}{n m:Nat}{w w':World}{v:Value}{l:List (Value × Ev)}{evs:List Ev}(h:Evs M n w v l evs)(k:Kp m M w w')(hm:w.heap.size<=m)(hM:∀ b,b<w.heap.size->M' b->M b):Evs M' n w' v l evs:=
 ⟨h.eq,own_kp h.own k hm h.far,fun g hg e=>h.far g hg (hM g (h.own.lt g hg).2 e),fun r hr=>(h.hs r hr).kp k hm hM⟩
theorem Evs.below [Prot]{M:Nat->Prop}{n:Nat}{w w':World}{v:Value}{l:List (Value × Ev)}{evs:List Ev}(h:Evs M n w v l evs)(k:Below w.heap.size w w'):Evs M n w' v l evs:=
 h.kp (Kp.of_below (M:=M) k lr) lr fun _ _ e=>e
theorem Evs.nil [Prot](M:Nat->Prop)(n:Nat)(w:World):Evs M n w (.slice none 0 0) [] []:=⟨rfl,World.ownsRow_nil _ _ _ _,fun g hg=>(by cases hg),fun r hr=>(by cases hr)⟩
structure FIn [Prot](w:World)(s0 jb cb B:Nat)(vj:Value)(J:List Ck)(nx:Int)(vc:Value)(lx:List Ee)(S:FSt):Prop where
 env:EnvIn w s0 jb cb B vj vc J nx lx
 st:StIn (Mu s0 jb cb vj vc) w s0 S
def StepQ [Prot](w:World)(s0 jb cb B:Nat)(vj:Value)(J:List Ck)(nx:Int)(vc:Value)(o:Out)(x:Ending)(w':World):Prop:=
 ∃ (v:Value) (l:List (Value × Ev)) (vc':Value) (lx:List Ee),x = .returned v/\FIn w' s0 jb cb B vj J nx vc' lx o.s/\lx.map (·.2)=o.c/\Evs (Mu s0 jb cb vj vc') w.heap.size w' v l o.ev/\Kp w.heap.size (Mu s0 jb cb vj vc) w w'/\(∀ b,b<w.heap.size->Mu s0 jb cb vj vc' b->Mu s0 jb cb vj vc b)/\(o.s.ph=1\/o.s.ph=2->∃ a n,v = .slice a n n)
theorem own_lit {w:World}{base e size:Nat}(news:List Value)(m:Nat)(hb:base<=w.heap.size)(hm:m<=maxLen)(hs:news.length=m * size):(w.alloc (.cells news.toArray e)).ownsRow base e size (.slice (some ⟨w.heap.size,0,none⟩) m m) m news:=by have:=World.ownsRow_lit (base:=base) (e:=e) (size:=size) w news.toArray m hb hm (by simpa using hs);simpa using this
theorem Evs.one [Prot]{M:Nat->Prop}{n:Nat}{w:World}(u:Value)(ev:Ev)(hb:n<=w.heap.size)(hM:∀ b,M b->b<w.heap.size)(hu:Hs M w u ev.hs):
 Evs M n (w.alloc (.cells (evC (u,ev)).toArray 48)) (.slice (some ⟨w.heap.size,0,none⟩) 1 1) [(u,ev)] [ev]:=
 ⟨rfl,own_eq (own_lit (evC (u,ev)) 1 hb (by unfold maxLen;decide) rfl) rfl (by simp [cellsK]),fun g hg e=>by
  simp only [Value.ownBlock,Js] at hg
  have:=hM g e
  omega,fun r hr=>by
  obtain rfl:=Jc.1 hr
  exact hu.below ((Kc w).alloc lr _)⟩
theorem StIn.kp [Prot]{M M':Nat->Prop}{n:Nat}{w w':World}{s0:Nat}{S:FSt}(h:StIn M w s0 S)(k:Kp n M' w w')(hn:w.heap.size<=n)(hs:¬ M' s0)(hM:∀ b,b<w.heap.size->M' b->M b):StIn M w' s0 S:=by
 obtain ⟨va,vc,wa,wc,h1,h2,h3⟩:=h;have hsub:∀ (hs:List Hd) (u:Value),Hs M w u hs->Hs M w' u hs:=fun hs u h=>⟨slk_kp h.1 (fun h0 b off n c e hm=>h.2 h0 b off n c e (.inl (hM b (slk_lt h.1 h0 e) hm))) k hn,h.2⟩
 exact ⟨va,vc,wa,wc,h1.kp k (Ko h1.lt hn) hs,hsub _ _ h2,hsub _ _ h3⟩
theorem StIn.below [Prot]{M:Nat->Prop}{w w':World}{s0:Nat}{S:FSt}(h:StIn M w s0 S)(k:Below w.heap.size w w'):StIn M w' s0 S:=
 h.kp (M':=fun _=>False) (Kp.of_below k lr) lr id (fun _ _ e=>e.elim)
theorem FIn.below [Prot]{w w':World}{s0 jb cb B:Nat}{vj:Value}{J:List Ck}{nx:Int}{vc:Value}{lx:List Ee}{S:FSt}(h:FIn w s0 jb cb B vj J nx vc lx S)(k:Below w.heap.size w w'):FIn w' s0 jb cb B vj J nx vc lx S:=⟨h.env.below k,h.st.below k⟩
theorem StepQ.pre [Prot]{w w1 w2:World}{s0 jb cb B:Nat}{vj:Value}{J:List Ck}{nx:Int}{vc vc1:Value}{o:Out}{x:Ending}(k:Kp w.heap.size (Mu s0 jb cb vj vc) w w1)(hM:∀ b,b<w.heap.size->Mu s0 jb cb vj vc1 b->Mu s0 jb cb vj vc b)(h:StepQ w1 s0 jb cb B vj J nx vc1 o x w2):StepQ w s0 jb cb B vj J nx vc o x w2:=by obtain ⟨v,l,vc',lx,h1,h2,h3,h4,h5,h6,h7⟩:=h;exact ⟨v,l,vc',lx,h1,h2,h3,⟨h4.eq,own_mono h4.own k.size,h4.far,h4.hs⟩,k.trans h5 k.size hM,fun b hb e=>hM b hb (h6 b (Ko hb k.size) e),h7⟩
theorem StepQ.below [Prot]{w w1 w2:World}{s0 jb cb B:Nat}{vj:Value}{J:List Ck}{nx:Int}{vc:Value}{o:Out}{x:Ending}(k:Below w.heap.size w w1)(h:StepQ w1 s0 jb cb B vj J nx vc o x w2):StepQ w s0 jb cb B vj J nx vc o x w2:=h.pre (Kp.of_below k lr) fun _ _ e=>e
theorem StepQ.one [Prot]{w W:World}{s0 jb cb B:Nat}{vj:Value}{J:List Ck}{nx:Int}{vc vc':Value}{lx:List Ee}{o:Out}(E:EnvIn W s0 jb cb B vj vc' J nx lx)(St:StIn (Mu s0 jb cb vj vc') W s0 o.s)(hC:lx.map (·.2)=o.c)(K:Kp w.heap.size (Mu s0 jb cb vj vc) w W)
 (hM:∀ b,b<w.heap.size->Mu s0 jb cb vj vc' b->Mu s0 jb cb vj vc b) (u:Value) (ev:Ev) (ho:o.ev=[ev]) (hu:Hs (Mu s0 jb cb vj vc') W u ev.hs) (N:Nat) (hN:W.heap.size=N) :
 StepQ w s0 jb cb B vj J nx vc o (.returned (.slice (some ⟨N,0,none⟩) 1 1)) (W.alloc (.cells (evC (u,ev)).toArray 48)):=by subst hN;have hal:=(Kc W).alloc lr (.cells (evC (u,ev)).toArray 48);exact ⟨_,_,vc',lx,rfl,⟨E.below hal,St.below hal⟩,hC,by rw [ho];exact Evs.one u ev K.size E.mlt hu,K.below hal K.size,hM,fun _=>⟨_,_,rfl⟩⟩
theorem StepQ.none [Prot]{w W:World}{s0 jb cb B:Nat}{vj:Value}{J:List Ck}{nx:Int}{vc vc':Value}{lx:List Ee}{o:Out}(E:EnvIn W s0 jb cb B vj vc' J nx lx)(St:StIn (Mu s0 jb cb vj vc') W s0 o.s)(hC:lx.map (·.2)=o.c)(K:Kp w.heap.size (Mu s0 jb cb vj vc) w W)
 (hM:∀ b,b<w.heap.size->Mu s0 jb cb vj vc' b->Mu s0 jb cb vj vc b) (ho:o.ev=[]):StepQ w s0 jb cb B vj J nx vc o (.returned (.slice none 0 0)) W:=
 ⟨_,[],vc',lx,rfl,⟨E,St⟩,hC,by rw [ho];exact Evs.nil _ _ _,K,hM,fun _=>⟨_,_,rfl⟩⟩
theorem RowBut.step2 {n n' jb g:Nat}{o:Option Nat}{W w w':World}(h:RowBut n jb o W w)(k:BelowBut n' g w w')(hn:n<=n')(hg:o=some g\/n<=g):RowBut n jb o W w':=
 ⟨k.os.trans h.os,k.tape.trans h.tape,k.output.trans h.output,Kg h.size k.size,fun x hx hb ho=>(k.block x (by omega) (fun e=>by
  rcases hg with hg | hg
  ·exact ho (by rw [e,hg])
  ·omega)).trans (h.block x hx hb ho)⟩
theorem oldnew_k {v:Value}{K g:Nat}(h:v.ownBlock=some g\/K<=g)(n cap:Nat):OldNew v (.slice (some ⟨g,0,none⟩) n cap) K:=fun g' e=>by
 have e':g=g':=by simpa [Value.ownBlock] using e
 subst e'
 exact h
theorem N72{p:Prop}(h:p:=by
 have h1:=((RowBut.refl K jb v.ownBlock w).below hB4 lr).below hb3 (Kl hkl3)
 have h2:=(h1.setCell ⟨K,8,none⟩ (Or.inr (Or.inr lr)) (.int .i64 nx)).setCell ⟨jb,1,none⟩ (Or.inl rfl) (.int .i64 (nx+1))
 rwa [hwF] at h2
 ):p:=h
theorem store_new2 (c:Ck)(a b cc d e f:ByteArray)(now:Int)(w:World)(jb B:Nat)(v:Value)(l:List Ck)(nx:Int)(hJ:JarIn w jb B v l nx)
 (hno:idxI (sameB c) l = -1) (hex:exB c now=false) (hl:l.length<200) (hn1 : -1152921504606846976<=nx) (hn2:nx<=1152921504606846976) :
 Calls Tryz.prog 118 #[.pointer (some ⟨jb,0,none⟩),ckA c,urlA a b cc d e f,.int .i64 now] w fun x w'=>x = .returned (.int .i64 0)/\(∃ v',JarIn w' jb B v' (l ++ [{ c with cr:=nx }]) (nx+1)/\OldNew v v' w.heap.size)/\RowBut w.heap.size jb v.ownBlock w w':=by
 have C0:=AtL.new w (ckL c) 88;have C1:=C0.alloc (.cells (urlL a b cc d e f).toArray 37);have U1:=AtL.new (w.alloc (.cells (ckL c).toArray 88)) (urlL a b cc d e f) 37;have hB1:Below w.heap.size w ((w.alloc (.cells (ckL c).toArray 88)).alloc (.cells (urlL a b cc d e f).toArray 37)):=((Kc w).alloc lr _).alloc (by simp) _;have J1:=hJ.below hB1 lr;have hjk:w.heap.size≠jb:=fun h=>by have:=hJ.at_.1;omega
 have hvK:=own_fresh hJ.own;have hBw:=hJ.le;have CS:=Kb (fun w=>same_is c w);have CX:=Kb (fun (w:World) (v:Value) (k:Nat) (hv:SlK ckL 9 w v l) (hA:AtL w k (ckL c))=>idxs_is (sameB c) 238 #[.pointer (some ⟨k,0,none⟩)] (enters_of Tryz.func238 (by kernel_rfl) rfl) l v w hv (same_pred c k w hA) (by omega) (-1) hno);have CE:=Kb (fun w=>expired_is c now false hex w);clear C0 hno hex hJ;go_enter Tryz.func118,Tryz.ntmps118;go_wp2_with fail;obtain ⟨wA,hwA⟩:∃ wA:World,(w.alloc (.cells (ckL c).toArray 88)).alloc (.cells (urlL a b cc d e f).toArray 37)=wA:=⟨_,rfl⟩
 have C2:AtL wA w.heap.size (ckL c):=by rw [<-hwA];exact C1
 have J2:JarIn wA jb B v l nx:=by rw [<-hwA];exact J1
 have hB2:Below w.heap.size w wA:=by rw [<-hwA];exact hB1
 have hwz:w.heap.size+1<wA.heap.size:=by rw [<-hwA];simp
 clear C1 J1 hB1 U1;obtain ⟨K,hK⟩:=Ka w.heap.size;rw [hK] at C2 hB2 hjk hwz hvK hBw;rw [hwA,hK];clear hwA;have S1:=s10_start J2.at_ C2;have hjl:=J2.at_.1;have hkl:=C2.1
 go_region_held3 (fun w'=>w'.cell? ⟨jb,0,none⟩=some v/\w'.cell? ⟨K,0,none⟩=some (.string c.n)/\w'.cell? ⟨K,1,none⟩=some (.string c.v)/\w'.cell? ⟨K,2,none⟩=some (.string c.d)/\w'.cell? ⟨K,3,none⟩=some (.string c.p)/\w'.cell? ⟨K,4,none⟩=some (.bool c.ho)/\w'.cell? ⟨K,5,none⟩=some (.bool c.se)/\w'.cell? ⟨K,6,none⟩=some (.bool c.hi)/\w'.cell? ⟨K,7,none⟩=some (.int .i64 c.ex)/\w'.cell? ⟨K,8,none⟩=some (.int .i64 c.cr)/\Below wA.heap.size wA w') (first | exact s10_next hjl hkl S1 (Kc wA).drew | (apply s10_next hjl hkl;rotate_left;assumption;assumption) | go_keep)
  (first
    | (with_reducible refine (CS.out _).mono ?_;rintro x w1 ⟨rfl,hb1,hA1⟩)
    | (with_reducible refine (CX.out _ v wA.heap.size ((J2.reads.below ((Kc wA).drew.trans hb1) lr)) (atL_drewk hA1)).mono ?_;rintro x w2 ⟨rfl,hb2⟩))
 have hB3:Below wA.heap.size wA w2:=s10_below (by assumption);have J3:=J2.below hB3 lr;have C3:=C2.below hB3 hkl;have hB4:=hB2.trans (hB3.mono (by omega));have hjl3:=J3.at_.1;have hkl3:=C3.1;have z_:=C3.o9;have y_:=C3.of9;clear hb1 hb2 hA1;go_wp2_with (with_reducible refine (CE.out _).mono ?_;rintro x w3 ⟨rfl,hb3⟩;have J4:=J3.below hb3 lr;have C4:=C3.next hb3;have z_:=C4.o9;have y_:=C4.of9;have j0:=J4.at_.c 0 rfl;have j1:=J4.at_.c 1 rfl;have i0:=J4.at_.f 0 rfl;have i1:=J4.at_.f 1 rfl;have kl4:=C4.lt;have jl4:=J4.at_.lt)
 have JF:=(J4.at_.far ⟨K,8,none⟩ (.int .i64 nx) hjk).set 1 (.int .i64 (nx+1));have CF:AtL ((w3.setCell ⟨K,8,none⟩ (.int .i64 nx)).setCell ⟨jb,1,none⟩ (.int .i64 (nx+1))) K (ckL { c with cr:=nx }):=(C4.set 8 (.int .i64 nx)).far ⟨jb,1,none⟩ (.int .i64 (nx+1)) (Ne.symm hjk);have OF:=ownsRow_setCell_other (a:=⟨jb,1,none⟩) (ownsRow_setCell_other (a:=⟨K,8,none⟩) J4.own hvK (.int .i64 nx)) J4.ne (.int .i64 (nx+1));have hF0:=J4.at_.1;obtain ⟨wF,hwF⟩:∃ wF:World,(w3.setCell ⟨K,8,none⟩ (.int .i64 nx)).setCell ⟨jb,1,none⟩ (.int .i64 (nx+1))=wF:=⟨_,rfl⟩
 have hFs:wF.heap.size=w3.heap.size:=by rw [<-hwF];simp
 rw [hwF] at JF CF OF;rw [hwF];have hBF:B<=wF.heap.size:=by rw [hFs];exact J4.le
 have HFS:=Kb hFs;clear hFs y_ z_ j0 j1 i0 i1;have z_:=CF.o9;have j0:=JF.c 0 rfl;have i0:=JF.f 0 rfl;have kF:=CF.lt;have jF:=JF.lt
 go_region_law (first
  | (refine step_app slC wF (by rfl) (.tmp 34) (.tmp 36) (by rfl) B v l.length (cellsK ckL l) (by rfl) OF (ckL { c with cr:=nx }) 1 wF.heap.size (by rfl) rfl (by rfl) (one9 _) (by omega) (by omega) (by omega) hBF ?_;intro g cap w5 hown5 hgrow hat hlt;have JG:=JF.grown hgrow J4.ne;have j0:=JG.c 0 rfl;have i0:=JG.f 0 rfl;have jl5:=JG.lt))
 all_goals
  go_wp2_with fail;go_ret;have hgj:g≠jb:=fun e=>by
   rcases hat with h | h
   ·exact J4.ne (by rw [h,e])
   ·omega
  have hne:(Value.slice (some ⟨g,0,none⟩) (l.length+1) cap).ownBlock≠some jb:=by simp only [Value.ownBlock,ne_eq,Js];exact hgj
  have hgK:v.ownBlock=some g\/K<=g:=by
   rcases hat with h | h
   ·exact .inl h
   ·exact .inr (by omega)
  have hb0:RowBut K jb v.ownBlock w wF:=by
   exact N72
  exact ⟨rfl,⟨_,⟨JG.set 0 _,own_eq (ownsRow_setCell_other (a:=⟨jb,0,none⟩) hown5 hne _) (by simp) (by rw [cellsK_app];rfl),hne,by rw [World.size_setCell];exact Kg hBF hgrow.size⟩,(by first | exact oldnew_k hgK _ _ | (rw [hK];exact oldnew_k hgK _ _))⟩,(hb0.grown hgrow (Kl kF)).setCell ⟨jb,0,none⟩ (Or.inl rfl) _⟩
theorem store_evict (c:Ck)(a b cc d e f:ByteArray)(now:Int)(w:World)(jb B:Nat)(v:Value)(l:List Ck)(nx:Int)(hJ:JarIn w jb B v l nx)
 (hno:idxI (sameB c) l = -1) (hex:exB c now=false) (q:Nat) (hq0:0<q) (hq:l.length+1=200+q) (hq3:q<=3) (hn1 : -1152921504606846976<=nx) (hn2:nx<=1152921504606846976) :
 Calls Tryz.prog 118 #[.pointer (some ⟨jb,0,none⟩),ckA c,urlA a b cc d e f,.int .i64 now] w fun x w'=>x = .returned (.int .i64 0)/\(∃ v',JarIn w' jb B v' ((l ++ [{ c with cr:=nx }]).drop q) (nx+1)/\OldNew v v' w.heap.size)/\RowBut w.heap.size jb v.ownBlock w w':=by
 have C0:=AtL.new w (ckL c) 88;have C1:=C0.alloc (.cells (urlL a b cc d e f).toArray 37);have U1:=AtL.new (w.alloc (.cells (ckL c).toArray 88)) (urlL a b cc d e f) 37;have hB1:Below w.heap.size w ((w.alloc (.cells (ckL c).toArray 88)).alloc (.cells (urlL a b cc d e f).toArray 37)):=((Kc w).alloc lr _).alloc (by simp) _;have J1:=hJ.below hB1 lr;have hjk:w.heap.size≠jb:=fun h=>by have:=hJ.at_.1;omega
 have hvK:=own_fresh hJ.own;have hBw:=hJ.le;have CS:=Kb (fun w=>same_is c w);have CX:=Kb (fun (w:World) (v:Value) (k:Nat) (hv:SlK ckL 9 w v l) (hA:AtL w k (ckL c))=>idxs_is (sameB c) 238 #[.pointer (some ⟨k,0,none⟩)] (enters_of Tryz.func238 (by kernel_rfl) rfl) l v w hv (same_pred c k w hA) (by omega) (-1) hno);have CDl:=Kb (fun (w:World) (g cap:Nat) (hown:w.ownsRow B 88 9 (.slice (some ⟨g,0,none⟩) (l.length+1) cap) (l.length+1) (cellsK ckL (l ++ [{ c with cr:=nx }])))=>del_front (l ++ [{ c with cr:=nx }]) g (l.length+1) cap q w B (by simp) hown hq0 (by omega) (by omega));have HQ:=Kb hq;have hqz:(l.length:Int)+1 - 200=(q:Int):=by omega
 have hqp:(0:Int)<(q:Int):=by omega
 have hlb:l.length<=202:=by omega
 have CE:=Kb (fun w=>expired_is c now false hex w);clear C0 hno hex hJ hq;go_enter Tryz.func118,Tryz.ntmps118;go_wp2_with fail;obtain ⟨wA,hwA⟩:∃ wA:World,(w.alloc (.cells (ckL c).toArray 88)).alloc (.cells (urlL a b cc d e f).toArray 37)=wA:=⟨_,rfl⟩
 have C2:AtL wA w.heap.size (ckL c):=by rw [<-hwA];exact C1
 have J2:JarIn wA jb B v l nx:=by rw [<-hwA];exact J1
 have hB2:Below w.heap.size w wA:=by rw [<-hwA];exact hB1
 have hwz:w.heap.size+1<wA.heap.size:=by rw [<-hwA];simp
 clear C1 J1 hB1 U1;obtain ⟨K,hK⟩:=Ka w.heap.size;rw [hK] at C2 hB2 hjk hwz hvK hBw;rw [hwA,hK];clear hwA;have S1:=s10_start J2.at_ C2;have hjl:=J2.at_.1;have hkl:=C2.1
 go_region_held3 (fun w'=>w'.cell? ⟨jb,0,none⟩=some v/\w'.cell? ⟨K,0,none⟩=some (.string c.n)/\w'.cell? ⟨K,1,none⟩=some (.string c.v)/\w'.cell? ⟨K,2,none⟩=some (.string c.d)/\w'.cell? ⟨K,3,none⟩=some (.string c.p)/\w'.cell? ⟨K,4,none⟩=some (.bool c.ho)/\w'.cell? ⟨K,5,none⟩=some (.bool c.se)/\w'.cell? ⟨K,6,none⟩=some (.bool c.hi)/\w'.cell? ⟨K,7,none⟩=some (.int .i64 c.ex)/\w'.cell? ⟨K,8,none⟩=some (.int .i64 c.cr)/\Below wA.heap.size wA w') (first | exact s10_next hjl hkl S1 (Kc wA).drew | (apply s10_next hjl hkl;rotate_left;assumption;assumption) | go_keep)
  (first
    | (with_reducible refine (CS.out _).mono ?_;rintro x w1 ⟨rfl,hb1,hA1⟩)
    | (with_reducible refine (CX.out _ v wA.heap.size ((J2.reads.below ((Kc wA).drew.trans hb1) lr)) (atL_drewk hA1)).mono ?_;rintro x w2 ⟨rfl,hb2⟩))
 have hB3:Below wA.heap.size wA w2:=s10_below (by assumption);have J3:=J2.below hB3 lr;have C3:=C2.below hB3 hkl;have hB4:=hB2.trans (hB3.mono (by omega));have hjl3:=J3.at_.1;have hkl3:=C3.1;have z_:=C3.o9;have y_:=C3.of9;clear hb1 hb2 hA1;go_wp2_with (with_reducible refine (CE.out _).mono ?_;rintro x w3 ⟨rfl,hb3⟩;have J4:=J3.below hb3 lr;have C4:=C3.next hb3;have z_:=C4.o9;have y_:=C4.of9;have j0:=J4.at_.c 0 rfl;have j1:=J4.at_.c 1 rfl;have i0:=J4.at_.f 0 rfl;have i1:=J4.at_.f 1 rfl;have kl4:=C4.lt;have jl4:=J4.at_.lt)
 have JF:=(J4.at_.far ⟨K,8,none⟩ (.int .i64 nx) hjk).set 1 (.int .i64 (nx+1));have CF:AtL ((w3.setCell ⟨K,8,none⟩ (.int .i64 nx)).setCell ⟨jb,1,none⟩ (.int .i64 (nx+1))) K (ckL { c with cr:=nx }):=(C4.set 8 (.int .i64 nx)).far ⟨jb,1,none⟩ (.int .i64 (nx+1)) (Ne.symm hjk);have OF:=ownsRow_setCell_other (a:=⟨jb,1,none⟩) (ownsRow_setCell_other (a:=⟨K,8,none⟩) J4.own hvK (.int .i64 nx)) J4.ne (.int .i64 (nx+1));have hF0:=J4.at_.1;obtain ⟨wF,hwF⟩:∃ wF:World,(w3.setCell ⟨K,8,none⟩ (.int .i64 nx)).setCell ⟨jb,1,none⟩ (.int .i64 (nx+1))=wF:=⟨_,rfl⟩
 have hFs:wF.heap.size=w3.heap.size:=by rw [<-hwF];simp
 rw [hwF] at JF CF OF;rw [hwF];have hBF:B<=wF.heap.size:=by rw [hFs];exact J4.le
 have HFS:=Kb hFs;clear hFs y_ z_ j0 j1 i0 i1;have z_:=CF.o9;have j0:=JF.c 0 rfl;have i0:=JF.f 0 rfl;have kF:=CF.lt;have jF:=JF.lt
 go_region_law (first
  | (refine step_app slC wF (by rfl) (.tmp 34) (.tmp 36) (by rfl) B v l.length (cellsK ckL l) (by rfl) OF (ckL { c with cr:=nx }) 1 wF.heap.size (by rfl) rfl (by rfl) (one9 _) (by omega) (by omega) (by omega) hBF ?_;intro g cap w5 hown5 hgrow hat hlt;have JG:=JF.grown hgrow J4.ne;have j0:=JG.c 0 rfl;have i0:=JG.f 0 rfl;have jl5:=JG.lt))
 all_goals
  have hgj:g≠jb:=fun e=>by
   rcases hat with h | h
   ·exact J4.ne (by rw [h,e])
   ·omega
  have hne:∀ m c2,(Value.slice (some ⟨g,0,none⟩) m c2).ownBlock≠some jb:=fun m c2=>by simp only [Value.ownBlock,ne_eq,Js];exact hgj
  have hb0:RowBut K jb v.ownBlock w wF:=by
   exact N72
  have G6:=JG.set 0 (.slice (some ⟨g,0,none⟩) (l.length+1) cap);have own6:=own_eq (ownsRow_setCell_other (a:=⟨jb,0,none⟩) hown5 (hne _ _) (.slice (some ⟨g,0,none⟩) (l.length+1) cap)) rfl (by rw [cellsK_app];rfl:cellsK ckL l ++ ckL { c with cr:=nx }=cellsK ckL (l ++ [{ c with cr:=nx }]));have hb6:=(hb0.grown hgrow (Kl kF)).setCell ⟨jb,0,none⟩ (Or.inl rfl) (.slice (some ⟨g,0,none⟩) (l.length+1) cap);have hK6:K<=(w5.setCell ⟨jb,0,none⟩ (.slice (some ⟨g,0,none⟩) (l.length+1) cap)).heap.size:=by rw [World.size_setCell];exact Kg (Kl kF) hgrow.size
  have hB6:B<=(w5.setCell ⟨jb,0,none⟩ (.slice (some ⟨g,0,none⟩) (l.length+1) cap)).heap.size:=by rw [World.size_setCell];exact Kg hBF hgrow.size
  have hgK:v.ownBlock=some g\/K<=g:=by
   rcases hat with h | h
   ·exact .inl h
   ·exact .inr (by omega)
  clear hown5 hgrow hat hb0 hwF;go_wp2_with fail;obtain ⟨w6,hw6⟩:∃ w6:World,w5.setCell ⟨jb,0,none⟩ (.slice (some ⟨g,0,none⟩) (l.length+1) cap)=w6:=⟨_,rfl⟩
  rw [hw6] at G6 own6 hb6 hK6 hB6;rw [hw6];clear hw6 j0 i0 jl5;have k0:=G6.c 0 rfl;have f0:=G6.f 0 rfl;have jl6:=G6.lt;go_wp2_with (go_at_call 181;refine (CDl.out _ g cap own6).mono ?_;rintro x w7 ⟨rfl,hown7,hb7⟩;have A7:=G6.but hb7 G6.lt (Ne.symm hgj);have k7:=A7.c 0 rfl;have f7:=A7.f 0 rfl;have jl7:=A7.lt)
  go_ret;exact ⟨rfl,⟨_,⟨A7.set 0 _,own_eq (ownsRow_setCell_other (a:=⟨jb,0,none⟩) hown7 (hne _ _) _) (by simp) rfl,hne _ _,by rw [World.size_setCell];exact Kg hB6 hb7.size⟩,(by first | exact oldnew_k hgK _ _ | (rw [hK];exact oldnew_k hgK _ _))⟩,(by rw [hK];exact (hb6.step2 hb7 hK6 hgK).setCell ⟨jb,0,none⟩ (Or.inl rfl) _)⟩
abbrev OpenS (a:ByteArray)(y:Ck):Prop:=y.se=false\/(y.se=true/\a.toList=[104,116,116,112,115])
inductive Put (c:Ck) (gone:Bool) (a:ByteArray) (l:List Ck) (nx:Int):List Ck->Int->Int->Prop
 | sec (k:Nat) (hk:k<l.length) (hi:idxI (sameB c) l=k) (hs:l[k].se=true) (hn:a.data.toList≠httpsL):Put c gone a l nx l nx 7
 | none (hi:idxI (sameB c) l = -1) (hg:gone=true):Put c gone a l nx l nx 0
 | del (k:Nat) (hk:k<l.length) (hi:idxI (sameB c) l=k) (hs:OpenS a l[k]) (hg:gone=true):Put c gone a l nx (l.filter (fun d=>!sameB c d)) nx 0
 | put (k:Nat) (hk:k<l.length) (hi:idxI (sameB c) l=k) (hs:OpenS a l[k]) (hg:gone=false):Put c gone a l nx (l.set k { c with cr:=l[k].cr }) nx 0
 | new (hi:idxI (sameB c) l = -1) (hg:gone=false) (hl:l.length<200):Put c gone a l nx (l ++ [{ c with cr:=nx }]) (nx+1) 0
 | evict (q:Nat) (hi:idxI (sameB c) l = -1) (hg:gone=false) (hq0:0<q) (hq:l.length+1=200+q):Put c gone a l nx ((l ++ [{ c with cr:=nx }]).drop q) (nx+1) 0
theorem idxI_cases (p:Ck->Bool)(l:List Ck):idxI p l = -1\/∃ k:Nat,∃ h:k<l.length,idxI p l=k/\p l[k]=true:=by
 unfold idxI;by_cases ha:l.any p
 ·right;rw [Kf ha];have hlt:l.findIdx p<l.length:=by obtain ⟨x,hx,hp⟩:=List.any_eq_true.1 ha;exact List.findIdx_lt_length_of_exists ⟨x,hx,hp⟩
  exact ⟨l.findIdx p,hlt,rfl,List.findIdx_getElem⟩
 ·left;rw [Ke ha]
theorem put_ex (c:Ck)(gone:Bool)(a:ByteArray)(l:List Ck)(nx:Int):∃ l' nx' er,Put c gone a l nx l' nx' er:=by
 rcases idxI_cases (sameB c) l with h | ⟨k,hk,h,_⟩
 ·cases gone with
  | true=>exact ⟨_,_,_,.none h rfl⟩
  | false=>
    rcases Zn l.length 200 with hl | hl
    ·exact ⟨_,_,_,.new h rfl hl⟩
    ·exact ⟨_,_,_,.evict (l.length+1 - 200) h rfl (by omega) (by omega)⟩
 ·have hs:l[k].se=true/\a.data.toList≠httpsL\/OpenS a l[k]:=by
   cases e:l[k].se with
   | false=>exact .inr (.inl e)
   | true=>
     by_cases hh:a.data.toList=httpsL
     ·exact .inr (.inr ⟨e,by rw [Kt];exact hh⟩)
     ·exact .inl ⟨rfl,hh⟩
  rcases hs with ⟨hs,hn⟩ | hs
  ·exact ⟨_,_,_,.sec k hk h hs hn⟩
  ·cases gone with
   | true=>exact ⟨_,_,_,.del k hk h hs rfl⟩
   | false=>exact ⟨_,_,_,.put k hk h hs rfl⟩
theorem put_len {c:Ck}{gone:Bool}{a:ByteArray}{l l':List Ck}{nx nx' er:Int}(h:Put c gone a l nx l' nx' er)(hl:l.length<=202):l'.length<=202:=by
 cases h with
 | del k hk hi hs hg=>exact Kg (Zj _ _) hl
 | put k hk hi hs hg=>rw [Zk];exact hl
 | new hi hg hl2=>simp;omega
 | evict q hi hg h0 hq=>simp;omega
 | _=>exact hl
theorem below_row {n jb:Nat}{o:Option Nat}{w w':World}(h:Below n w w'):RowBut n jb o w w':=(RowBut.refl n jb o w).below h lr
theorem store_any (c:Ck)(a b cc d e f:ByteArray)(now:Int)(w:World)(jb B:Nat)(v:Value)(l l':List Ck)(nx nx' er:Int)(hJ:JarIn w jb B v l nx)
 (hP:Put c (exB c now) a l nx l' nx' er) (hl:l.length<=202) (hn1 : -1152921504606846976<=nx) (hn2:nx<=1152921504606846976) :
 Calls Tryz.prog 118 #[.pointer (some ⟨jb,0,none⟩),ckA c,urlA a b cc d e f,.int .i64 now] w fun x w'=>x = .returned (.int .i64 er)/\(∃ v',JarIn w' jb B v' l' nx'/\OldNew v v' w.heap.size)/\RowBut w.heap.size jb v.ownBlock w w':=by
 cases hP with
 | sec k hk hi hs hn=>exact (store_sec c a b cc d e f now w jb B v l nx hJ k hk hi hs hn (by omega)).mono fun x w' h=>⟨h.1,⟨v,hJ.below h.2 lr,OldNew.refl _ _⟩,below_row h.2⟩
 | none hi hg=>exact (store_gone c a b cc d e f now w jb B v l nx hJ hi hg (by omega)).mono fun x w' h=>⟨h.1,⟨v,h.2.1,OldNew.refl _ _⟩,h.2.2⟩
 | del k hk hi hs hg=>exact store_del c a b cc d e f now w jb B v l nx hJ k hk hi hg hs (by omega)
 | put k hk hi hs hg=>exact (store_put c a b cc d e f now w jb B v l nx hJ k hk hi hg hs (by omega)).mono fun x w' h=>⟨h.1,⟨v,h.2.1,OldNew.refl _ _⟩,h.2.2⟩
 | new hi hg hl2=>exact store_new2 c a b cc d e f now w jb B v l nx hJ hi hg hl2 hn1 hn2
 | evict q hi hg h0 hq=>exact store_evict c a b cc d e f now w jb B v l nx hJ hi hg q h0 hq (by omega) hn1 hn2
theorem conv_prefix (keep:List UInt8)(t:List UInt8):∀ n (p X:List UInt8),p.length<=n->Fixed keep p->X <+: p ++ t->(conv keep true X).length<=p.length+3 * t.length+2:=by
 have base:∀ X:List UInt8,X <+: t->(conv keep true X).length<=3 * t.length:=fun X h=>by
  have:=conv_len keep true X
  have:=h.length_le
  omega
 intro n
 induction n with
 | zero=>
   intro p X hp _ hX
   obtain rfl:=Ja (Nat.le_zero.1 hp)
   have:=base X hX
   simp only [Zg];omega
 | succ n ih=>
   intro p X hp hF hX
   match p,hp,hF,hX with
   | [],_,_,hX=>have:=base X hX;simp only [Zg];omega
   | c :: r, hp, hF, hX =>
     simp only [Kv] at hp
     cases X with
     | nil=>simp [conv]
     | cons x X=>
       rw [Jn,Xp] at hX
       obtain ⟨rfl,hX⟩:=hX
       rcases fixed_cases keep x r hF with ⟨h1,h2⟩ | ⟨a,b,s,rfl,rfl,h3,h4⟩
       ·rw [conv_ok keep true x X h1]
        have:=ih r X (by omega) h2 hX
        simp only [Kv];omega
       ·have hh:=h3
        simp only [codedL,Jh,Jb] at hh
        cases X with
        | nil=>have:=conv_len keep true [37];simp only [Kv,Zg] at *;omega
        | cons y X =>
          rw [Jn,Xp] at hX
          obtain ⟨rfl,hX⟩:=hX
          cases X with
          | nil =>
            have:=conv_len keep true [37]
            have e:conv keep true [37,y]=(if (okC keep 37 || (true && codedL [37,y]))=true then [37] else pct 37) ++ conv keep true [y]:=rfl
            rw [e,Kw,conv_ok keep true y [] (okC_hex keep y hh.1.2)]
            have:(if (okC keep 37 || (true && codedL [37,y]))=true then [37] else pct 37).length<=3:=by split <;> simp [pct]
            simp only [conv,Kv,Zg];omega
          | cons z X =>
            rw [Jn,Xp] at hX
            obtain ⟨rfl,hX⟩:=hX
            rw [conv_coded keep y z X ((codedL_more y z X s).trans h3)]
            have:=ih s X (by simp at hp;omega) h4 hX
            simp only [Kv];omega
theorem pre_prefix (c:UInt8)(l:List UInt8):pre c l <+: l:=List.takeWhile_prefix _
theorem cut_host {hp Z Y:List UInt8}(h47:(47:UInt8) ∉ hp)(hZ:∃ r,Z=47 :: r)(hY:Y <+: hp ++ Z):Y.drop (pre 47 Y).length <+: Z:=by
 obtain ⟨r,rfl⟩:=hZ;rcases List.prefix_or_prefix_of_prefix hY (List.prefix_append hp (47 :: r)) with h | ⟨Y',rfl⟩
 ·have h2:(47:UInt8) ∉ Y:=fun hm=>h47 (h.subset hm);rw [pre_all 47 Y h2,List.drop_length];exact List.nil_prefix
 ·have h3:Y' <+: 47 :: r:=(List.prefix_append_right_inj hp).1 hY;cases Y' with
  | nil=>
    rw [Je,pre_all 47 hp h47,List.drop_length];exact List.nil_prefix
  | cons y Y'=>
    obtain ⟨rfl,h4⟩:=Xp.1 h3;rw [(takeW_stop 47 hp Y' h47).1,List.drop_left];exact h3
theorem trimE_prefix (l:List UInt8):trimE l <+: l:=by unfold trimE;have:=List.reverse_prefix.2 (List.dropWhile_suffix wsB (l:=l.reverse));simpa using this
theorem trim_prefix {n W:List UInt8}(hn:n=httpL\/n=httpsL):trimL (n ++ W) <+: n ++ W:=by
 unfold trimL;have:trimF (n ++ W)=n ++ W:=by unfold trimF;rcases hn with rfl | rfl <;> rfl
 rw [this];exact trimE_prefix _
theorem drop2_prefix {x y:UInt8}{Z:List UInt8}:∀ {l:List UInt8},l <+: x :: y :: Z->l.drop 2 <+: Z
 | [],_=>List.nil_prefix
 | [_],_=>List.nil_prefix
 | _ :: _ :: _,h=>(Xp.1 (Xp.1 h).2).2
theorem scheme_rest {n W X:List UInt8}(hn:n=httpL\/n=httpsL)(hX:X <+: n ++ 58 :: W)(h58:(58:UInt8)∈X):pre 58 X=n/\post 58 X <+: W:=by
 have hn58:(58:UInt8) ∉ n:=by rcases hn with rfl | rfl <;> decide
 rcases List.prefix_or_prefix_of_prefix hX (List.prefix_append n (58 :: W)) with h | ⟨Y',rfl⟩
 ·exact absurd (h.subset h58) hn58
 ·have h3:Y' <+: 58 :: W:=(List.prefix_append_right_inj n).1 hX;cases Y' with
  | nil=>rw [Je] at h58;exact absurd h58 hn58
  | cons y Y'=>
    obtain ⟨rfl,h4⟩:=Xp.1 h3;obtain ⟨h1,h2⟩:=takeW_stop 58 n Y' hn58;exact ⟨h1,by rw [h2];exact h4⟩
theorem parse_path {n hp p t:List UInt8}{r:U6}(hn:n=httpL\/n=httpsL)(h47:(47:UInt8) ∉ hp)(hZ:∃ q,p ++ t=47 :: q)(hF:Fixed innerL p)(h:parseL (n ++ 58 :: (47 :: 47 :: (hp ++ (p ++ t))))=some r):
 r.2.2.2.1.length<=p.length+3 * t.length+4:=by
 unfold parseL at h;split at h
 ·next hok=>
  have h58:(58:UInt8)∈trimL (n ++ 58 :: (47 :: 47 :: (hp ++ (p ++ t)))):=by unfold schemeOk at hok;simp only [Jh,List.contains_iff_mem] at hok;exact hok.1.1
  obtain ⟨e1,e2⟩:=scheme_rest hn (trim_prefix hn) h58;have hlow:lowL n=n:=by rcases hn with rfl | rfl <;> decide
  have hab:n≠aboutL:=by rcases hn with rfl | rfl <;> decide
  rw [e1,hlow] at h;generalize post 58 (trimL (n ++ 58 :: (47 :: 47 :: (hp ++ (p ++ t)))))=R at h e2;unfold restL at h;simp only at h;rw [Ke hab] at h;have e3:(pre 35 R).drop 2 <+: hp ++ (p ++ t):=drop2_prefix ((pre_prefix 35 R).trans e2);unfold siteL at h;split at h
  ·simp only at h;split at h
   ·cases h;have e4:=cut_host h47 hZ ((pre_prefix 63 ((pre 35 R).drop 2)).trans e3);have e5:=conv_prefix innerL t p.length p _ lr hF e4;have e6:=clean_le (conv innerL true ((pre 63 ((pre 35 R).drop 2)).drop (pre 47 (pre 63 ((pre 35 R).drop 2))).length));simp only;omega
   ·cases h
  ·cases h
 ·cases h
theorem dirN_shape (l:List UInt8):∀ k,dirN l k=0\/∃ m,dirN l k=m+1/\l[m]? = some 47
 | 0=>.inl rfl
 | k+1=>by
   unfold dirN
   split
   ·next h=>exact .inr ⟨k,rfl,h⟩
   ·exact dirN_shape l k
theorem dir_fixed {l:List UInt8}(hF:Fixed innerL l)(h0:∃ q,l=47 :: q):Fixed innerL (l.take (dirN l l.length))/\∃ q,l.take (dirN l l.length)=47 :: q:=by
 have hk:okC innerL 47=true:=by decide
 obtain ⟨q,rfl⟩:=h0;rcases dirN_shape (47 :: q) (47 :: q).length with h | ⟨m,h,hm⟩
 ·exfalso;have:∀ k,0<k->dirN (47 :: q) k≠0:=by
   intro k
   induction k with
   | zero=>intro h;omega
   | succ k ih=>
     intro _
     unfold dirN
     split
     ·omega
     ·next h2=>
      refine ih ?_
      cases k with
      | zero=>exact absurd rfl h2
      | succ k=>omega
  exact this _ (by simp) h
 ·have hlt:m<(47 :: q).length:=by
   rcases Zn m (47 :: q).length with h1 | h1
   ·exact h1
   ·rw [List.getElem?_eq_none h1] at hm;cases hm
  have hget:(47 :: q)[m]=47:=by rw [Jd hlt] at hm;exact Zl hm
  have e:(47 :: q).take (m+1)=(47 :: q).take m ++ [47]:=by rw [Jf hlt,hget]
  have e2:47 :: q=(47 :: q).take m ++ 47 :: (47 :: q).drop (m+1):=by
   conv=>lhs;rw [<-Jt m (47 :: q),Zu hlt,hget]
  have hF2:Fixed innerL ((47 :: q).take m ++ 47 :: (47 :: q).drop (m+1)):=by rw [<-e2];exact hF
  have hF3:=(fixed_split innerL _ hk _ _ lr hF2).1;refine ⟨?_,?_⟩
  ·rw [h,e];exact fixed_app innerL [47] (fixed_ok innerL 47 [] hk rfl) _ _ lr hF3
  ·rw [h];exact ⟨q.take m,rfl⟩
theorem host_no47 {n a b c d f:List UInt8}(s:Site n a b c d f):(47:UInt8) ∉ a ++ tailL 58 b:=by
 have ha:=all_mem s.hok;have hb:=port_mem s.pok.1;simp only [Kz,not_or];refine ⟨okC_ne _ 47 (by decide) a ha (by decide),fun h=>?_⟩;rcases mem_tail 58 b 47 h with h | h
 ·revert h;decide
 ·exact okC_ne _ 47 (by decide) b hb (by decide) h
theorem place_eq (n a b c d f:List UInt8)(Z:List UInt8):placeL (n,a,b,c,d,f) ++ Z=n ++ 58 :: (47 :: 47 :: ((a ++ tailL 58 b) ++ Z)):=by unfold placeL tailL;simp [Jj]
theorem resolve_grow {u r:U6}{t:List UInt8}{P:Nat}(hP:u.2.2.2.1.length<=P)(hP2:P<=10000)(ht:t.length<=300)(hu:Fits 35000 u)(h:resolveL u (validB u) t=some r):Fits 35000 r/\r.2.2.2.1.length<=P+940:=by
 have small:∀ s:List UInt8,3 * s.length+2<=35000->parseL s=some r->Fits 35000 r:=fun s hs hp=>by obtain ⟨h1,h2,h3,h4,h5,h6⟩:=parse_len s r hp;exact ⟨by omega,by omega,by omega,by omega,by omega,by omega⟩
 obtain ⟨h1,h2,h3,h4,h5,h6⟩:=hu;have hconv:=conv_len (innerL ++ [63]) true t.tail;have htail:t.tail.length<=t.length:=by simp
 unfold resolveL at h;split at h
 ·exact ⟨small t (by omega) h,by have:=(parse_len t r h).2.2.2.1;omega⟩
 ·split at h
  ·cases h
  ·next hv=>
   have hv:validB u=true:=by simpa using hv
   split at h
   ·cases h;exact ⟨⟨h1,h2,h3,h4,h5,Kh _⟩,Kg hP (Nat.le_add_right _ _)⟩
   ·split at h
    ·cases h;exact ⟨⟨h1,h2,h3,h4,h5,by show (conv (innerL ++ [63]) true t.tail).length<=35000;omega⟩,Kg hP (Nat.le_add_right _ _)⟩
    ·split at h
     ·cases h
     ·next hab=>
      rcases parse_cases ((valid_iff u).1 hv) with ⟨p,g,rfl,_⟩ | ⟨n,a,b,c,d,f,rfl,s⟩
      ·exact absurd rfl hab
      ·have hn5:n.length<=5:=by rcases s.sch with rfl | rfl <;> decide
       have hh:=s.hlen.2;have hp5:=s.pok.1.2.1;have hc47:∃ q,c=47 :: q:=by rw [<-s.clean];exact clean_head c
       have hno:=host_no47 s;have hplace:(placeL (n,a,b,c,d,f)).length<=270:=by
        have:=place_eq n a b c d f [];rw [Je] at this;rw [this];have h2:(tailL 58 b).length<=b.length+1:=by unfold tailL;split <;> simp
        simp only [Kw,Kv,Zg];omega
       have hP:c.length<=P:=hP;split at h
       ·refine ⟨small _ ?_ h,?_⟩
        ·simp only [Kw,Kv];omega
        ·have:=(parse_len _ r h).2.2.2.1;simp only [Kw,Kv] at this;omega
       ·split at h
        ·next h47=>
         refine ⟨small _ (by rw [Kw];omega) h,?_⟩;have h47':∃ q,t=47 :: q:=by
          cases t with
          | nil=>cases h47
          | cons x q=>exact ⟨q,by rw [Zl h47]⟩
         rw [place_eq] at h;have:=parse_path (p:=[]) s.sch hno (by simpa using h47') rfl h;simp only [Zg] at this;omega
        ·split at h
         ·refine ⟨small _ (by simp only [Kw];show 3 * ((placeL (n,a,b,c,d,f)).length+c.length+t.length)+2<=35000;omega) h,?_⟩;rw [Jj,place_eq] at h;have:=parse_path (p:=c) s.sch hno (by obtain ⟨q,hq⟩:=hc47;exact ⟨q ++ t,by rw [hq];rfl⟩) s.pfix h;omega
         ·obtain ⟨hdF,hd0⟩:=dir_fixed (l:=c) s.pfix hc47;have hdl:(c.take (dirN c c.length)).length<=c.length:=by rw [Jk];omega
          refine ⟨small _ (by simp only [Kw];show 3 * ((placeL (n,a,b,c,d,f)).length+(c.take (dirN c c.length)).length+t.length)+2<=35000;omega) h,?_⟩;rw [Jj,place_eq] at h;have:=parse_path (p:=c.take (dirN c c.length)) s.sch hno (by obtain ⟨q,hq⟩:=hd0;exact ⟨q ++ t,by rw [hq];rfl⟩) hdF h;omega
structure HOk (m:Nat)(hs:List Hd):Prop where
 len:hs.length<=m
 sz:∀ h∈hs,h.1.size<=500/\h.2.size<=500/\(isH h loN=true->h.2.size<=300)
theorem HOk.hd {m:Nat}{hs:List Hd}(h:HOk m hs)(hm:m<=1000):HdSz hs:=⟨by have:=h.len;omega,fun x hx=>by have:=h.sz x hx;omega⟩
theorem HOk.nil (m:Nat):HOk m []:=⟨Kh _,fun h hh=>by cases hh⟩
theorem HOk.mono {m n:Nat}{hs:List Hd}(h:HOk m hs)(hm:m<=n):HOk n hs:=⟨Kg h.len hm,h.sz⟩
theorem HOk.loc {m:Nat}{hs:List Hd}(h:HOk m hs):(valL hs loN.data.toList).size<=300:=by
 unfold valL hdrL
 cases e:hs.find? (hitH loN.data.toList) with
 | none=>decide
 | some x=>
   have h1:=(h.sz x (List.mem_of_find?_eq_some e)).2.2 (by have:=List.find?_some e;exact this)
   simpa using h1
structure SOk (S:FSt):Prop where
 ho:S.ho<=10
 u:USize 35000 S.a S.b S.c S.d S.e S.f
 d:S.d.size<=1400+950 * S.ho
 ql:S.qh.length<=100
 qz:∀ h∈S.qh,h.1.size<=1000/\h.2.size<=1000
 og:S.og.size<=1000
 ur:S.ur.size<=450
 hs:HOk 800 S.hs
 sb:S.sb.size<=1048576
theorem SOk.u4 {S:FSt}(h:SOk S):USize 40000 S.a S.b S.c S.d S.e S.f:=⟨by have:=h.u.a;omega,by have:=h.u.b;omega,by have:=h.u.c;omega,by have:=h.u.d;omega,by have:=h.u.e;omega,by have:=h.u.f;omega⟩
theorem SOk.q {S:FSt}(h:SOk S):HdSz S.qh:=⟨by have:=h.ql;omega,fun x hx=>by have:=h.qz x hx;omega⟩
theorem SOk.r {S:FSt}(h:SOk S):HdSz (hdF S)/\(hdF S).length<=101:=by
 have h1:(woL S.qh [ckN,ogN]).length<=100:=Kg (Zj _ _) h.ql;have h2:∀ x∈hdF S,x.1.size<=100000/\x.2.size<=100000:=fun x hx=>by
  unfold hdF at hx;rcases Kz.1 hx with hx | hx
  ·have:=h.qz x (Zp.1 hx).1;omega
  ·split at hx
   ·obtain rfl:=Jc.1 hx;have:=h.og;exact ⟨by show ogN.size<=100000;decide,by show S.og.size<=100000;omega⟩
   ·cases hx
 have h3:(hdF S).length<=101:=by
  unfold hdF;rw [Kw];split
  ·simp only [Xo];omega
  ·simp only [Zg];omega
 exact ⟨⟨by omega,h2⟩,h3⟩
structure EOk (m:Nat)(e:En):Prop where
 hd:HOk m e.hd
 va:HdSz e.va
 bo:e.bo.size<=1048576
structure COk (n m:Nat)(C:List En):Prop where
 len:C.length<=n
 ok:∀ e∈C,EOk m e
structure JOk (J:List Ck):Prop where
 len:J.length<=202
 ok:∀ c∈J,(c.d.size<=100000/\c.p.size<=100000)/\c.n.size<=100000/\c.v.size<=100000
theorem SOk.fail {S:FSt}(h:SOk S)(e:Int):SOk (failS S e):=⟨h.ho,h.u,h.d,h.ql,h.qz,h.og,h.ur,HOk.nil _,Kh _⟩
theorem SOk.data {S:FSt}(h:SOk S)(p:ByteArray):SOk (dataF p S).1:=by
 unfold dataF;split
 ·split
  ·exact h.fail 5
  ·next hn=>exact ⟨h.ho,h.u,h.d,h.ql,h.qz,h.og,h.ur,h.hs,by show (S.sb ++ p).size<=1048576;rw [ByteArray.size_append];omega⟩
 ·exact h
theorem fits_u {S:FSt}(h:SOk S):Fits 35000 S.u:=by have:=h.u;exact ⟨by rw [show S.u.1=S.a.data.toList from rfl,size_len];exact this.a,by rw [show S.u.2.1=S.b.data.toList from rfl,size_len];exact this.b,by rw [show S.u.2.2.1=S.c.data.toList from rfl,size_len];exact this.c,by rw [show S.u.2.2.2.1=S.d.data.toList from rfl,size_len];exact this.d,by rw [show S.u.2.2.2.2.1=S.e.data.toList from rfl,size_len];exact this.e,by rw [show S.u.2.2.2.2.2=S.f.data.toList from rfl,size_len];exact this.f⟩
theorem SOk.setU {S:FSt}(h:SOk S)(h10:S.ho<10){loc:ByteArray}(hl:loc.size<=300){u:U6}(hr:resolveL S.u (validB S.u) (trimL loc.data.toList)=some u)(m:ByteArray):SOk { setU S u with ho:=S.ho+1,sm:=m }:=by
 have ht:=trimL_len loc.data.toList;rw [size_len] at ht;have hd:=h.d;obtain ⟨⟨h1,h2,h3,h4,h5,h6⟩,h7⟩:=resolve_grow (P:=1400+950 * S.ho) (by show S.d.data.toList.length<=_;rw [size_len];exact hd) (by omega) (by omega) (fits_u h) hr;refine ⟨by show S.ho+1<=10;omega,⟨?_,?_,?_,?_,?_,?_⟩,?_,h.ql,h.qz,h.og,h.ur,h.hs,h.sb⟩
 ·show (bs u.1).size<=35000;rw [bs_size];exact h1
 ·show (bs u.2.1).size<=35000;rw [bs_size];exact h2
 ·show (bs u.2.2.1).size<=35000;rw [bs_size];exact h3
 ·show (bs u.2.2.2.1).size<=35000;rw [bs_size];exact h4
 ·show (bs u.2.2.2.2.1).size<=35000;rw [bs_size];exact h5
 ·show (if u.2.2.2.2.2=[] then S.f else bs u.2.2.2.2.2).size<=35000;split
  ·exact h.u.f
  ·rw [bs_size];exact h6
 ·have h8:(bs u.2.2.2.1).size<=1400+950 * (S.ho+1):=Kg (Jl (bs_size _)) (by omega);exact h8
theorem COk.keep {n m:Nat}{C:List En}(h:COk n m C){S:FSt}(hS:SOk S)(hm:m<=800)(st:Int){hs:List Hd}(hh:HOk m hs){body:ByteArray}(hb:body.size<=1048576)(now:Int):COk (n+1) m (keepF S st hs body now C):=by
 unfold keepF;split
 ·unfold putEs;refine ⟨?_,fun e he=>?_⟩
  ·rw [Kw];have h1:(keepE C (txB S) (hdF S)).length<=C.length:=Zj _ _;have h2:=h.len;have h3:(if storL st (hdF S) hs=true then [(⟨txB S,varyE (hdF S) hs,st,hs,body,now⟩:En)] else []).length<=1:=by split <;> simp
   omega
  ·rcases Kz.1 he with he | he
   ·exact h.ok e (Zp.1 he).1
   ·split at he
    ·obtain rfl:=Jc.1 he;exact ⟨hh,HdSz.vary hS.r.1 (hh.hd (by omega)),hb⟩
    ·cases he
 ·exact ⟨by have:=h.len;omega,h.ok⟩
theorem askF_ok {n m:Nat}{C:List En}(h:COk n m C)(url:ByteArray)(rq:List Hd)(now:Int):COk n m (askF C url rq now).c/\EOk m (askF C url rq now).e:=by
 have h0:EOk m en0:=⟨HOk.nil _,⟨Kh _,fun h hh=>by cases hh⟩,Kh _⟩
 unfold askF;split
 ·exact ⟨h,h0⟩
 ·next i _=>
  split
  ·exact ⟨h,h0⟩
  ·split
   ·exact ⟨h,h0⟩
   ·next e he=>
    have he1:=h.ok e (List.mem_of_getElem? he);split
    ·refine ⟨⟨?_,fun x hx=>?_⟩,he1⟩
     ·have hi:i<C.length:=(Xi.1 he).1;rw [Kw,List.length_eraseIdx,Kf hi,Xo];have:=h.len;omega
     ·rcases Kz.1 hx with hx | hx
      ·exact h.ok x (Xr hx)
      ·obtain rfl:=Jc.1 hx;exact he1
    ·split
     ·exact ⟨h,h0⟩
     ·exact ⟨h,he1⟩
structure OOk (n m:Nat)(o:Out):Prop where
 s:SOk o.s
 c:COk n m o.c
theorem failO_ok {n m:Nat}{C:List En}(h:COk n m C){S:FSt}(hS:SOk S)(e:Int):OOk n m (failO S C e):=⟨hS.fail e,h⟩
theorem SOk.hop {S:FSt}(h:SOk S)(h10:S.ho<10):SOk { S with ho:=S.ho+1 }:=⟨by show S.ho+1<=10;omega,h.u,(by have h8:S.d.size<=1400+950 * (S.ho+1):=(by have:=h.d;omega);exact h8),h.ql,h.qz,h.og,h.ur,h.hs,h.sb⟩
theorem SOk.hid {S:FSt}(h:SOk S)(b:Bool):SOk { S with hi:=b }:=⟨h.ho,h.u,h.d,h.ql,h.qz,h.og,h.ur,h.hs,h.sb⟩
theorem SOk.chk {S:FSt}(h:SOk S)(b:Bool):SOk { S with ch:=b }:=⟨h.ho,h.u,h.d,h.ql,h.qz,h.og,h.ur,h.hs,h.sb⟩
theorem SOk.pha {S:FSt}(h:SOk S)(k:Int):SOk { S with ph:=k }:=⟨h.ho,h.u,h.d,h.ql,h.qz,h.og,h.ur,h.hs,h.sb⟩
theorem redirF_ok {n m:Nat}{snd:FSt->List En->Out}(hs:∀ S C,SOk S->COk n m C->OOk n m (snd S C))(st:Int){loc:ByteArray}(hl:loc.size<=300){S:FSt}(hS:SOk S){C:List En}(hC:COk n m C):OOk n m (redirF snd st loc S C):=by
 unfold redirF;split
 ·exact failO_ok hC hS _
 ·next h10=>
  split
  ·exact failO_ok hC (hS.hop (by omega)) _
  ·next u hu=>
   split
   ·exact failO_ok hC (hS.hop (by omega)) _
   ·split
    ·exact failO_ok hC (hS.hop (by omega)) _
    ·exact hs _ _ (hS.setU (by omega) hl hu _) hC
theorem headO_ok {n m:Nat}(st:Int){hd:List Hd}(hh:HOk 800 hd){S:FSt}(hS:SOk S){C:List En}(hC:COk n m C):OOk n m (headO st hd S C):=by
 unfold headO;split
 ·exact failO_ok hC (hS.hid _) _
 ·exact ⟨⟨hS.ho,hS.u,hS.d,hS.ql,hS.qz,hS.og,hS.ur,hh,Kh _⟩,hC⟩
theorem takeF_ok {n m:Nat}(hm:m<=800){snd:FSt->List En->Out}(hs:∀ S C,SOk S->COk n m C->OOk n m (snd S C))(net:Bool)(now st:Int){hd:List Hd}(hh:HOk m hd){S:FSt}(hS:SOk S){C:List En}(hC:COk n m C)(hk:net=true->COk n m (keepF S st hd eS now C)):OOk n m (takeF snd net now st hd S C):=by
 unfold takeF;split
 ·split
  ·exact failO_ok hC hS _
  ·cases net with
   | true=>exact redirF_ok hs st hh.loc hS (hk rfl)
   | false=>exact redirF_ok hs st hh.loc hS hC
 ·exact headO_ok st (hh.mono hm) hS hC
theorem restF_ok {n m:Nat}(p:ByteArray){o:Out}(h:OOk n m o):OOk n m (restF p o):=by
 unfold restF;split
 ·split
  ·exact ⟨(h.s.data p).pha 3,h.c⟩
  ·exact ⟨h.s.data p,h.c⟩
 ·exact h
theorem storedF_ok {n m:Nat}(hm:m<=800){snd:FSt->List En->Out}(hs:∀ S C,SOk S->COk n m C->OOk n m (snd S C))(now:Int){e:En}(he:EOk m e){S:FSt}(hS:SOk S){C:List En}(hC:COk n m C):OOk n m (storedF snd now e S C):=
 restF_ok _ (takeF_ok hm hs false now e.st he.hd (hS.chk false) hC (fun h=>by cases h))
theorem sendF_ok {n m:Nat}(hm:m<=800)(J:List Ck)(now:Int):∀ (k:Nat) (S:FSt) (C:List En),SOk S->COk n m C->OOk n m (sendF J now k S C)
 | 0,S,C,hS,hC=>⟨hS,hC⟩
 | k + 1, S, C, hS, hC => by
   have ha:=askF_ok hC (txB S) (hdF S) now
   have ho:∀ C more ch,COk n m C->OOk n m (askO J now S C more ch):=fun C more ch hC=>⟨(hS.chk ch).pha 1,hC⟩
   unfold sendF
   split
   ·simp only
    split
    ·exact storedF_ok hm (fun S C=>sendF_ok hm J now k S C) now ha.2 hS ha.1
    ·split
     ·exact ho _ _ _ ha.1
     ·exact ho _ _ _ ha.1
   ·exact ho _ _ _ hC
noncomputable def putJ (c:Ck)(gone:Bool)(a:ByteArray)(l:List Ck)(nx:Int):List Ck × Int × Int:=
 ⟨Classical.choose (put_ex c gone a l nx),Classical.choose (Classical.choose_spec (put_ex c gone a l nx)),Classical.choose (Classical.choose_spec (Classical.choose_spec (put_ex c gone a l nx)))⟩
theorem putJ_is (c:Ck)(gone:Bool)(a:ByteArray)(l:List Ck)(nx:Int):Put c gone a l nx (putJ c gone a l nx).1 (putJ c gone a l nx).2.1 (putJ c gone a l nx).2.2:=
 Classical.choose_spec (Classical.choose_spec (Classical.choose_spec (put_ex c gone a l nx)))
noncomputable def setJ (s:ByteArray)(S:FSt)(now:Int)(j:List Ck × Int):List Ck × Int:=
 if (parseC s.data.toList (takesB S.u) S.a S.b S.d now).2=0 then ((putJ (parseC s.data.toList (takesB S.u) S.a S.b S.d now).1 (exB (parseC s.data.toList (takesB S.u) S.a S.b S.d now).1 now) S.a j.1 j.2).1,(putJ (parseC s.data.toList (takesB S.u) S.a S.b S.d now).1 (exB (parseC s.data.toList (takesB S.u) S.a S.b S.d now).1 now) S.a j.1 j.2).2.1) else j
noncomputable def jarF (S:FSt)(now:Int):List Hd->List Ck × Int->List Ck × Int
 | [],j=>j
 | h :: r,j=>jarF S now r (if isH h scN then setJ h.2 S now j else j)
structure CkSz (m:Nat)(c:Ck):Prop where
 n:c.n.size<=m
 v:c.v.size<=m
 d:c.d.size<=m
 p:c.p.size<=m
theorem defpL_ln (l:List UInt8):(defpL l).length<=l.length+1:=by
 unfold defpL;split
 ·simp
 ·have:(befL l).length<=l.length:=by unfold befL;rw [Xm,Jy];have:=(Zw (fun x=>x != 47) (l:=l.reverse)).length_le;rw [Xm] at this;omega
  omega
theorem attrC_sz {host path:ByteArray}{now:Int}{c:Ck}{name value:List UInt8}{m:Nat}(hc:CkSz m c)(hh:host.size<=m)(hp:path.size<=m)(hv:value.length<=m):CkSz m (attrC host path now c name value):=by
 have hl:(lowL (undot value)).length<=m:=by rw [lowL_len];exact Kg (undot_len value) hv
 unfold attrC;split
 ·split
  ·exact ⟨hc.n,hc.v,hc.d,hc.p⟩
  ·exact hc
 ·split
  ·split
   ·exact ⟨hc.n,hc.v,hh,hc.p⟩
   ·exact ⟨hc.n,hc.v,by show (bs (lowL (undot value))).size<=m;rw [bs_size];exact hl,hc.p⟩
  ·split
   ·refine ⟨hc.n,hc.v,hc.d,?_⟩;show (if Lib.hasPrefix value [47]=true then bs value else path).size<=m;split
    ·rw [bs_size];exact hv
    ·exact hp
   ·split
    ·exact ⟨hc.n,hc.v,hc.d,hc.p⟩
    ·split
     ·exact ⟨hc.n,hc.v,hc.d,hc.p⟩
     ·exact hc
theorem fold_sz {host path:ByteArray}{now:Int}{m:Nat}(hh:host.size<=m)(hp:path.size<=m):∀ (ps:List (List UInt8)) (c:Ck),(∀ p∈ps,p.length<=m)->CkSz m c->CkSz m (ps.foldl (stepC host path now) c)
 | [],c,_,hc=>hc
 | p :: ps,c,h,hc=>fold_sz hh hp ps _ (fun q hq=>h q (Jg _ hq)) (attrC_sz hc hh hp (Kg (Kg (trimC_len _) (post_len' 61 p)) (h p Jz)))
theorem parseC_sz {field:List UInt8}{ok:Bool}{scheme host path:ByteArray}{now:Int}{m:Nat}(hf:field.length<=m)(hh:host.size<=m)(hp:path.size+1<=m):CkSz m (parseC field ok scheme host path now).1:=by
 have h0:CkSz m ck0:=⟨Kh _,Kh _,Kh _,Kh _⟩
 have hpp:(bs (defpL path.data.toList)).size<=m:=by rw [bs_size];have:=defpL_ln path.data.toList;rw [size_len] at this;omega
 unfold parseC;split
 ·exact h0
 ·split
  ·exact h0
  ·next p0 ps hs=>
   split
   ·exact h0
   ·have hl:=segs_len 59 field;rw [hs] at hl;have h1:p0.length<=m:=Kg (hl p0 Jz) hf;have h2:=fold_sz (now:=now) hh hpp ps (firstC host (bs (defpL path.data.toList)) p0) (fun p hp=>Kg (hl p (Jg _ hp)) hf) ⟨by show (bs _).size<=m;rw [bs_size];exact Kg (Kg (trimC_len _) (pre_len' 61 p0)) h1,by show (bs _).size<=m;rw [bs_size];exact Kg (Kg (trimC_len _) (post_len' 61 p0)) h1,hh,hpp⟩;unfold lastC;split
    ·exact h0
    ·split
     ·exact h0
     ·exact h2
theorem Put.mem {c:Ck}{gone:Bool}{a:ByteArray}{l l':List Ck}{nx nx' er:Int}(h:Put c gone a l nx l' nx' er):∀ x∈l',x∈l\/∃ k,x={ c with cr:=k }:=by
 cases h with
 | del k hk hi hs hg=>exact fun x hx=>.inl (Zp.1 hx).1
 | put k hk hi hs hg=>exact fun x hx=>(List.mem_or_eq_of_mem_set hx).imp id fun e=>⟨_,e⟩
 | new hi hg hl2=>
   intro x hx
   rcases Kz.1 hx with hx | hx
   ·exact .inl hx
   ·exact .inr ⟨_,Jc.1 hx⟩
 | evict q hi hg h0 hq =>
   intro x hx
   rcases Kz.1 (List.mem_of_mem_drop hx) with hx | hx
   ·exact .inl hx
   ·exact .inr ⟨_,Jc.1 hx⟩
 | _=>exact fun x hx=>.inl hx
theorem Put.nx {c:Ck}{gone:Bool}{a:ByteArray}{l l':List Ck}{nx nx' er:Int}(h:Put c gone a l nx l' nx' er):nx<=nx'/\nx'<=nx+1:=by cases h <;> omega
theorem JOk.put {c:Ck}{gone:Bool}{a:ByteArray}{l l':List Ck}{nx nx' er:Int}(hJ:JOk l)(hc:CkSz 100000 c)(h:Put c gone a l nx l' nx' er):JOk l':=
 ⟨put_len h hJ.len,fun x hx=>by
  rcases h.mem x hx with h1 | ⟨k,rfl⟩
  ·exact hJ.ok x h1
  ·exact ⟨⟨hc.d,hc.p⟩,hc.n,hc.v⟩⟩
theorem setJ_ok {s:ByteArray}{S:FSt}{now:Int}{J:List Ck}{nx:Int}(hS:USize 40000 S.a S.b S.c S.d S.e S.f)(hJ:JOk J)(hs:s.size<=1000):JOk (setJ s S now (J,nx)).1/\nx<=(setJ s S now (J,nx)).2/\(setJ s S now (J,nx)).2<=nx+1:=by
 unfold setJ;split
 ·have hz:CkSz 100000 (parseC s.data.toList (takesB S.u) S.a S.b S.d now).1:=parseC_sz (by rw [size_len];omega) (by have:=hS.b;omega) (by have:=hS.d;omega);have hp:=putJ_is (parseC s.data.toList (takesB S.u) S.a S.b S.d now).1 (exB (parseC s.data.toList (takesB S.u) S.a S.b S.d now).1 now) S.a J nx;exact ⟨hJ.put hz hp,hp.nx⟩
 ·exact ⟨hJ,Int.le_refl _,by show nx<=nx+1;omega⟩
def SetE (w:World)(jb B:Nat)(v:Value)(j:List Ck × Int)(x:Ending)(w':World):Prop:=∃ er:Int,x = .returned (.int .i64 er)/\(∃ v',JarIn w' jb B v' j.1 j.2/\OldNew v v' w.heap.size)/\RowBut w.heap.size jb v.ownBlock w w'
def SetC : Prop := ∀ (w : World) (jb B : Nat) (v : Value) (J : List Ck) (nx : Int) (s : ByteArray) (S : FSt) (now : Int), MaxAt w → JarIn w jb B v J nx → USize 40000 S.a S.b S.c S.d S.e S.f → JOk J → -1152921504606846976 ≤ nx → nx ≤ 1152921504606846976 → s.size ≤ 1000 →
    Calls Tryz.prog 72 #[.pointer (some ⟨jb,0,none⟩),.string s,urlA S.a S.b S.c S.d S.e S.f,.int .i64 now] w (SetE w jb B v (setJ s S now (J,nx)))
theorem setJ_is {w:World}{jb B:Nat}{v:Value}{J:List Ck}{nx:Int}(s:ByteArray)(S:FSt)(now:Int)(hM:MaxAt w)(hv:JarIn w jb B v J nx)(hS:USize 40000 S.a S.b S.c S.d S.e S.f)(hJ:JOk J)(hn1 : -1152921504606846976<=nx)(hn2:nx<=1152921504606846976)(hs:s.size<=1000):
 Calls Tryz.prog 72 #[.pointer (some ⟨jb,0,none⟩),.string s,urlA S.a S.b S.c S.d S.e S.f,.int .i64 now] w (SetE w jb B v (setJ s S now (J,nx))):=by
 obtain ⟨P,hP⟩:=Ka (parseC s.data.toList (takesB S.u) S.a S.b S.d now);obtain ⟨c,er⟩:=P;unfold setJ;rw [hP];by_cases h0:er=0
 ·subst h0;rw [Kf rfl];have hp:=putJ_is c (exB c now) S.a J nx;refine (set_ok s S.a S.b S.c S.d S.e S.f now (takesB S.u) rfl c hP w (by omega) hS hM jb (putJ c (exB c now) S.a J nx).2.2 (fun w'=>(∃ v',JarIn w' jb B v' (putJ c (exB c now) S.a J nx).1 (putJ c (exB c now) S.a J nx).2.1/\OldNew v v' w.heap.size)/\RowBut w.heap.size jb v.ownBlock w w') (fun w' hb=>?_)).mono ?_
  ·refine (store_any c S.a S.b S.c S.d S.e S.f now w' jb B v J _ nx _ _ (hv.below hb lr) hp hJ.len hn1 hn2).mono ?_;rintro x w2 ⟨h1,⟨v',h2,h3⟩,h4⟩;exact ⟨h1,⟨v',h2,fun g hg=>(h3 g hg).imp id (fun h=>Kg hb.size h)⟩,((RowBut.refl w.heap.size jb v.ownBlock w).below hb lr).trans (h4.mono hb.size)⟩
  ·rintro x w2 ⟨h1,h2⟩;exact ⟨_,h1,h2⟩
 ·rw [Ke h0];refine (set_err s S.a S.b S.c S.d S.e S.f now (takesB S.u) rfl c er hP h0 w (by omega) hS hM jb).mono ?_;rintro x w2 ⟨h1,h2⟩;exact ⟨er,h1,⟨v,hv.below h2 lr,OldNew.refl _ _⟩,below_row h2⟩
theorem setC:SetC:=fun _ _ _ _ _ _ s S now hM hv hS hJ hn1 hn2 hs=>setJ_is s S now hM hv hS hJ hn1 hn2 hs
end Go.Proofs.YtjdhaacmlpegoaaGreatDoor
