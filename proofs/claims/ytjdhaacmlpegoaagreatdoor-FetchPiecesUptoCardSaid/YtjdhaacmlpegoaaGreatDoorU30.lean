/- Part 30 of what the proof needs: YE2 Y5A. -/
import Derived.Test.YtjdhaacmlpegoaaGreatDoorU25
set_option linter.unusedSimpArgs false
set_option linter.unusedVariables false
namespace Go.Proofs.YtjdhaacmlpegoaaGreatDoor
open Go.RowKit
def BoK (l:List Ev):Prop:=∀ e∈l,e.bo.size<=1048576
theorem BoK.app {a b:List Ev}(h:BoK a)(k:BoK b):BoK (a ++ b):=fun e he=>(Kz.1 he).elim (h e) (k e)
theorem BoK.nil:BoK []:=fun e he=>by cases he
theorem BoK.one {e:Ev}(h:e.bo.size<=1048576):BoK [e]:=fun x hx=>by obtain rfl:=Jc.1 hx;exact h
structure BO (q:ByteArray)(o:Out):Prop where
 ev:BoK o.ev
 qb:o.s.qb=q
theorem failO_bo {S:FSt}{q:ByteArray}(h:S.qb=q)(C:List En)(e:Int):BO q (failO S C e):=⟨BoK.one (Kh _),h⟩
theorem redirF_bo {snd:FSt->List En->Out}{S:FSt}{q:ByteArray}(h:S.qb=q)(hs:∀ S' C,S'.qb=q->BO q (snd S' C))(st:Int)(loc:ByteArray)(C:List En):BO q (redirF snd st loc S C):=by
 unfold redirF;split
 ·exact failO_bo h _ _
 ·split
  ·exact failO_bo (S:={ S with ho:=S.ho+1 }) h _ _
  ·split
   ·exact failO_bo (S:={ S with ho:=S.ho+1 }) h _ _
   ·split
    ·exact failO_bo (S:={ S with ho:=S.ho+1 }) h _ _
    ·exact hs _ _ h
theorem headO_bo (st:Int)(hd:List Hd){S:FSt}{q:ByteArray}(h:S.qb=q)(C:List En):BO q (headO st hd S C):=by
 unfold headO;split
 ·exact failO_bo (S:={ S with hi:=decide (S.mo=4) && fgB S }) h _ _
 ·refine ⟨BoK.one ?_,h⟩;split <;> exact Kh _
theorem takeF_bo {snd:FSt->List En->Out}{S:FSt}{q:ByteArray}(h:S.qb=q)(hs:∀ S' C,S'.qb=q->BO q (snd S' C))(net:Bool)(now st:Int)(hd:List Hd)(C:List En):BO q (takeF snd net now st hd S C):=by
 unfold takeF;split
 ·split
  ·exact failO_bo h _ _
  ·exact redirF_bo h hs _ _ _
 ·exact headO_bo _ _ h _
theorem dataF_bo (p:ByteArray)(S:FSt):BoK (dataF p S).2/\(dataF p S).1.qb=S.qb:=by
 unfold dataF;split
 ·split
  ·exact ⟨BoK.one (Kh _),rfl⟩
  ·refine ⟨?_,rfl⟩;show BoK (if _ then _ else _);split
   ·exact BoK.nil
   ·exact BoK.one (by show p.size<=1048576;omega)
 ·exact ⟨BoK.nil,rfl⟩
theorem restF_bo (p:ByteArray){q:ByteArray}{o:Out}(k:BO q o):BO q (restF p o):=by
 obtain ⟨h1,h2⟩:=dataF_bo p o.s;unfold restF;split
 ·split
  ·exact ⟨(k.ev.app h1).app (BoK.one (Kh _)),h2.trans k.qb⟩
  ·exact ⟨k.ev.app h1,h2.trans k.qb⟩
 ·exact k
theorem askO_bo (J:List Ck)(now:Int){S:FSt}{q:ByteArray}(h:S.qb=q)(hq:q.size<=1048576)(C:List En)(more:List Hd)(ch:Bool):BO q (askO J now S C more ch):=by
 refine ⟨BoK.one ?_,h⟩;show (if S.sm.toList == S.me.toList then S.qb else eS).size<=1048576;split
 ·rw [h];exact hq
 ·exact Kh _
theorem sendF_bo (J:List Ck)(now:Int){q:ByteArray}(hq:q.size<=1048576):∀ (k:Nat) (S:FSt) (C:List En),S.qb=q->BO q (sendF J now k S C)
 | 0,S,C,h=>⟨BoK.nil,h⟩
 | k + 1, S, C, h => by
   unfold sendF
   split
   ·simp only
    split
    ·exact restF_bo _ (takeF_bo (S:={ S with ch:=false }) h (sendF_bo J now hq k) _ _ _ _ _)
    ·split
     ·exact askO_bo J now h hq _ _ _
     ·exact askO_bo J now h hq _ _ _
   ·exact askO_bo J now h hq _ _ _
theorem startF_bo (now:Int){S:FSt}{q:ByteArray}(h:S.qb=q)(hq:q.size<=1048576)(j:List Ck × Int)(C:List En):BoK (startF now S j C).ev/\(startF now S j C).s.qb=q:=by
 have k:BO q (beginF j.1 now S C):=by
  unfold beginF;split
  ·exact failO_bo h _ _
  ·split
   ·exact failO_bo h _ _
   ·split
    ·exact failO_bo h _ _
    ·split
     ·exact failO_bo h _ _
     ·exact sendF_bo _ _ hq _ _ _ h
 exact ⟨k.ev,k.qb⟩
theorem headF_bo (J:List Ck)(now st:Int)(hs:List Hd){S:FSt}{q:ByteArray}(h:S.qb=q)(hq:q.size<=1048576)(C:List En):BO q (headF J now st hs S C):=by
 unfold headF;split
 ·split
  ·exact failO_bo h _ _
  ·exact restF_bo _ (takeF_bo (S:={ S with ch:=false }) h (sendF_bo J now hq 11) _ _ _ _ _)
 ·exact takeF_bo h (sendF_bo J now hq 11) _ _ _ _ _
theorem endF_bo (now:Int)(S:FSt)(C:List En):BoK (endF now S C).ev/\(endF now S C).s.qb=S.qb:=by
 unfold endF;split
 ·exact ⟨BoK.one (Kh _),rfl⟩
 ·exact ⟨BoK.nil,rfl⟩
theorem stopF_bo (e:Int)(S:FSt):BoK (stopF e S).2/\(stopF e S).1.qb=S.qb:=by
 unfold stopF;split
 ·exact ⟨BoK.one (Kh _),rfl⟩
 ·exact ⟨BoK.nil,rfl⟩
theorem opF_bo (now:Int)(o:Op4){r:Rn}{q:ByteArray}(hq:q.size<=1048576)(h:BoK r.ev/\r.s.qb=q):BoK (opF now o r).ev/\(opF now o r).s.qb=q:=by
 obtain ⟨h1,h2⟩:=h;unfold opF;split
 ·have k:BoK (headA now o.st o.hs r.s r.j r.c).2.ev/\(headA now o.st o.hs r.s r.j r.c).2.s.qb=q:=by
   unfold headA;split
   ·have:=headF_bo (jarH r.s now o.hs r.j).1 now o.st o.hs h2 hq r.c;exact ⟨this.ev,this.qb⟩
   ·exact ⟨BoK.nil,h2⟩
  exact ⟨h1.app k.1,k.2⟩
 ·split
  ·have k:=dataF_bo o.bo r.s;exact ⟨h1.app k.1,k.2.trans h2⟩
  ·split
   ·have k:=endF_bo now r.s r.c;exact ⟨h1.app k.1,k.2.trans h2⟩
   ·split
    ·have k:=stopF_bo 17 r.s;exact ⟨h1.app k.1,k.2.trans h2⟩
    ·have k:=stopF_bo 18 r.s;exact ⟨h1.app k.1,k.2.trans h2⟩
theorem runF_bo (now:Int){q:ByteArray}(hq:q.size<=1048576):∀ (ops:List Op4) (r:Rn),BoK r.ev/\r.s.qb=q->BoK (runF now ops r).ev/\(runF now ops r).s.qb=q
 | [],r,h=>h
 | o :: ops,r,h=>runF_bo now hq ops _ (opF_bo now o hq h)
theorem ba_app_size (a b:ByteArray):(a ++ b).size=a.size+b.size:=by rw [<-size_len,<-size_len,<-size_len,app_list,Kw]
theorem datF_sz:∀ (l:List Ev)(a:ByteArray) ,BoK l->(l.foldl datF a).size<=a.size+l.length * 1048576
 | [],a,_=>by show a.size<=a.size+0 * 1048576;omega
 | e :: l, a, h => by
   have h1:=datF_sz l (datF a e) (fun x hx=>h x (Jg _ hx))
   have h2:(datF a e).size<=a.size+1048576:=by
    unfold datF
    split
    ·rw [ba_app_size];have:=h e (Jz ..);omega
    ·omega
   show (l.foldl datF (datF a e)).size<=a.size+(l.length+1) * 1048576
   omega
theorem datB_sz {l:List Ev}(h:BoK l)(k:Nat)(hl:l.length<=100):(datB (l.take k)).size<=104857600:=by
 have h1:=datF_sz (l.take k) eS (fun x hx=>h x (Xk hx));have h2:(l.take k).length<=100:=by rw [Jk];omega
 have h3:(l.take k).length * 1048576<=100 * 1048576:=Zq _ h2;have h4:eS.size=0:=rfl;unfold datB;omega
theorem datB_succ {l:List Ev}{k:Nat}(h:k<l.length):datB (l.take (k+1))=datF (datB (l.take k)) l[k]:=by unfold datB;rw [Jf h,Xj];rfl
def othV (l:List (Value × Ev)):List (Value × Ev):=l.filter fun y=>!decide (y.2.k=3)
theorem othV_map (l:List (Value × Ev)):(othV l).map (·.2)=othE (l.map (·.2)):=by unfold othV othE;rw [List.filter_map];rfl
theorem othV_succ {l:List (Value × Ev)}{k:Nat}(h:k<l.length):othV (l.take (k+1))=othV (l.take k) ++ (if l[k].2.k=3 then [] else [l[k]]):=by
 unfold othV;rw [Jf h,Zs];congr 1;by_cases e:l[k].2.k=3
 ·rw [Kf e,List.filter_cons_of_neg (by simp [e]),List.filter_nil]
 ·rw [Ke e,List.filter_cons_of_pos (by simp [e]),List.filter_nil]
theorem othV_len (l:List (Value × Ev))(k:Nat):(othV (l.take k)).length<=l.length:=
 Kg (Zj _ _) (by rw [Jk];omega)
theorem othV_mem {l:List (Value × Ev)}{k:Nat}{y:Value × Ev}(h:y∈othV (l.take k)):y∈l:=Xk (Zp.1 h).1
end Go.Proofs.YtjdhaacmlpegoaaGreatDoor
