/- Part 28 of what the proof needs: XA. -/
import Derived.Test.YtjdhaacmlpegoaaGreatDoorP13
import Derived.Test.YtjdhaacmlpegoaaGreatDoorP25
import Derived.Test.YtjdhaacmlpegoaaGreatDoorP27
import Derived.Test.YtjdhaacmlpegoaaGreatDoorP20
import Derived.Test.YtjdhaacmlpegoaaGreatDoorP09
import Derived.Test.YtjdhaacmlpegoaaGreatDoorP14
namespace Go.Proofs.YtjdhaacmlpegoaaGreatDoor
open Go.RowKit
set_option linter.unusedSimpArgs false
set_option linter.unusedVariables false
structure FS where
 tk:Int
 me:ByteArray
 ur:ByteArray
 og:ByteArray
 mo:Int
 qh:List Hd
 qb:ByteArray
 ck:Bool
 ph:Int
 a:ByteArray
 b:ByteArray
 c:ByteArray
 d:ByteArray
 e:ByteArray
 f:ByteArray
 sm:ByteArray
 ho:Nat
 ch:Bool
 hi:Bool
 st:Int
 hs:List Hd
 sb:ByteArray
 er:Int
structure Ev where
 k:Int
 me:ByteArray
 ur:ByteArray
 hs:List Hd
 bo:ByteArray
 st:Int
 er:Int
structure Out where
 s:FS
 c:List En
 ev:List Ev
abbrev getS:ByteArray:=⟨#[71,69,84]⟩
abbrev getT:List UInt8:=[71,69,84]
abbrev headT:List UInt8:=[72,69,65,68]
abbrev postT:List UInt8:=[80,79,83,84]
abbrev ckN:ByteArray:=⟨#[67,111,111,107,105,101]⟩
abbrev ogN:ByteArray:=⟨#[79,114,105,103,105,110]⟩
abbrev scN:ByteArray:=⟨#[83,101,116,45,67,111,111,107,105,101]⟩
abbrev loN:ByteArray:=⟨#[76,111,99,97,116,105,111,110]⟩
abbrev eS:ByteArray:=⟨#[]⟩
def FS.u (S:FS):U6:=u6 S.a S.b S.c S.d S.e S.f
def fgB (S:FS):Bool:=!(orgL S.u == S.og.data.toList)
def txB (S:FS):ByteArray:=bs (formatL (u6 S.a S.b S.c S.d S.e eS))
def isH (h:Hd)(n:ByteArray):Bool:=lowL h.1.data.toList == lowL n.data.toList
def woL (hs:List Hd)(ns:List ByteArray):List Hd:=hs.filter fun h=>!(ns.any (isH h))
def hdF (S:FS):List Hd:=woL S.qh [ckN,ogN] ++ if fgB S || (!(S.sm.toList == getT) && !(S.sm.toList == headT)) then [(ogN,S.og)] else []
def failS (S:FS)(e:Int):FS:={ S with ph:=4,er:=e,st:=0,hs:=[],sb:=eS }
def failV (e:Int):Ev:=⟨5,eS,eS,[],eS,0,e⟩
def rdF (S:FS)(hs:List Hd):Bool:=decide (S.mo=4) || readB S.og S.mo S.ck (bs (orgL S.u)) hs
def keepF (S:FS)(st:Int)(hs:List Hd)(body:ByteArray)(now:Int)(C:List En):List En:=
 if S.sm.toList == getT then putEs C (txB S) (hdF S) st hs body now (storL st (hdF S) hs) else C
def movB (st:Int):Bool:=decide (st=301\/st=302\/st=303\/st=307\/st=308)
def nextM (st:Int)(m:ByteArray):ByteArray:=if (decide (st=303) && !(m.toList == headT)) || ((decide (st=301) || decide (st=302)) && (m.toList == postT)) then getS else m
def setU (S:FS)(u:U6):FS:={ S with a:=bs u.1,b:=bs u.2.1,c:=bs u.2.2.1,d:=bs u.2.2.2.1,e:=bs u.2.2.2.2.1,f:=if u.2.2.2.2.2=[] then S.f else bs u.2.2.2.2.2 }
def failO (S:FS)(C:List En)(e:Int):Out:=⟨failS S e,C,[failV e]⟩
def redirF (snd:FS->List En->Out)(st:Int)(loc:ByteArray)(S:FS)(C:List En):Out:=
 if 10<=S.ho then failO S C 16
 else match resolveL S.u (validB S.u) (trimL loc.data.toList) with
  | none=>failO { S with ho:=S.ho+1 } C 17
  | some u => if webB (bs u.1) = false then failO { S with ho := S.ho + 1 } C 17
    else if decide (S.mo=2) && fgB (setU S u) then failO { S with ho:=S.ho+1 } C 15
    else snd { setU S u with ho:=S.ho+1,sm:=nextM st S.sm } C
def headO (st:Int)(hs:List Hd)(S:FS)(C:List En):Out:=
 if rdF S hs=false then failO { S with hi:=decide (S.mo=4) && fgB S } C 15
 else ⟨{ S with ph:=2,hi:=decide (S.mo=4) && fgB S,st:=st,hs:=hs,sb:=eS },C,
  [if decide (S.mo=4) && fgB S then ⟨2,eS,eS,[],eS,0,0⟩ else ⟨2,eS,bs (formatL S.u),woL hs [scN],eS,st,0⟩]⟩
def takeF (snd:FS->List En->Out)(net:Bool)(now:Int)(st:Int)(hs:List Hd)(S:FS)(C:List En):Out:=
 if (hdrL hs loN.data.toList).isSome && movB st then
  if rdF S hs=false then failO S C 15
  else redirF snd st (valL hs loN.data.toList) S (if net then keepF S st hs eS now C else C)
 else headO st hs S C
def dataF (p:ByteArray)(S:FS):FS × List Ev:=
 if S.ph=2 then
  if 1048576<S.sb.size+p.size then (failS S 5,[failV 5])
  else ({ S with sb:=S.sb ++ p },if p.size=0\/S.hi=true then [] else [⟨3,eS,eS,[],p,0,0⟩])
 else (S,[])
def endV:Ev:=⟨4,eS,eS,[],eS,0,0⟩
def restF (p:ByteArray)(o:Out):Out:=
 if o.s.ph=2 then
  if (dataF p o.s).1.ph=2 then ⟨{ (dataF p o.s).1 with ph:=3 },o.c,o.ev ++ (dataF p o.s).2 ++ [endV]⟩
  else ⟨(dataF p o.s).1,o.c,o.ev ++ (dataF p o.s).2⟩
 else o
def storedF (snd:FS->List En->Out)(now:Int)(e:En)(S:FS)(C:List En):Out:=restF e.bo (takeF snd false now e.st e.hd { S with ch:=false } C)
def cookF (J:List Ck)(now:Int)(S:FS):ByteArray:=if takesB S.u then bs (joinL (insS ltC (J.filter (hitB S.a S.b S.d now)))) else eS
def lastI {α:Type}(p:α->Bool):List α->Option Nat
 | []=>none
 | x :: l => match lastI p l with
   | some k=>some (k+1)
   | none=>if p x then some 0 else none
structure Plan where
 k:Int
 e:En
 hs:List Hd
 c:List En
def askF (C:List En)(url:ByteArray)(rq:List Hd)(now:Int):Plan:=
 match lastI (fun e=>ansB e url rq) C with
 | none=>⟨1,en0,[],C⟩
 | some i => if (dirL rq).ns then ⟨1, en0, [], C⟩ else match C[i]? with
   | none=>⟨1,en0,[],C⟩
   | some e=>if useB (dirL rq) e now then ⟨2,e,[],C.eraseIdx i ++ [e]⟩ else if chkL e.hd=[] then ⟨1,en0,[],C⟩ else ⟨3,e,chkL e.hd,C⟩
def askO (J:List Ck)(now:Int)(S:FS)(C:List En)(more:List Hd)(ch:Bool):Out:=
 ⟨{ S with ch:=ch,ph:=1 },C,[⟨1,S.sm,txB S,hdF S ++ more ++ (if S.ck && !(cookF J now S).toList.isEmpty then [(ckN,cookF J now S)] else []),if S.sm.toList == S.me.toList then S.qb else eS,0,0⟩]⟩
def sendF (J:List Ck)(now:Int):Nat->FS->List En->Out
 | 0,S,C=>⟨S,C,[]⟩
 | n+1,S,C=>
   if S.sm.toList == getT then
    let p:=askF C (txB S) (hdF S) now
    if p.k=2 then storedF (sendF J now n) now p.e S p.c
    else if p.k=3 then askO J now S p.c p.hs true
    else askO J now S p.c [] false
   else askO J now S C [] false
def newS (tk:Int)(me ur og:ByteArray)(mo:Int)(qh:List Hd)(qb:ByteArray)(ck:Bool):FS:=⟨tk,me,ur,og,mo,qh,qb,ck,0,eS,eS,eS,eS,eS,eS,eS,0,false,false,0,[],eS,0⟩
def putU (S:FS)(u:U6):FS:={ S with a:=bs u.1,b:=bs u.2.1,c:=bs u.2.2.1,d:=bs u.2.2.2.1,e:=bs u.2.2.2.2.1,f:=bs u.2.2.2.2.2 }
def beginF (J:List Ck)(now:Int)(S:FS)(C:List En):Out:=
 if S.mo<1\/4<S.mo\/knownB S.me=false then failO S C 1
 else match parseL S.ur.data.toList with
  | none=>failO S C 4
  | some u => if webB (bs u.1) = false then failO S C 4
    else if decide (S.mo=2) && fgB (putU S u) then failO S C 15
    else sendF J now 11 { putU S u with sm:=S.me } C
def endF (now:Int)(S:FS)(C:List En):Out:=
 if S.ph=2 then ⟨{ S with ph:=3 },keepF S S.st S.hs S.sb now C,[endV]⟩ else ⟨S,C,[]⟩
def stopF (e:Int)(S:FS):FS × List Ev:=if S.ph=1\/S.ph=2 then (failS S e,[failV e]) else (S,[])
def confF (C:List En)(url:ByteArray)(rq hs:List Hd)(now:Int):Option (En × List En):=
 match lastI (fun e=>ansB e url rq) C with
 | none=>none
 | some i => match C[i]? with
   | none=>none
   | some e=>some (confE e hs now,C.eraseIdx i ++ [confE e hs now])
def headF (J:List Ck)(now:Int)(st:Int)(hs:List Hd)(S:FS)(C:List En):Out:=
 if S.ch && decide (st=304) then
  match confF C (txB S) (hdF S) hs now with
  | none=>failO S C 17
  | some (e,C')=>storedF (sendF J now 11) now e S C'
 else takeF (sendF J now 11) true now st hs S C
end Go.Proofs.YtjdhaacmlpegoaaGreatDoor
