/- Fetch: how many headers an event can have;in plain Lean. -/
import Derived.Test.YtjdhaacmlpegoaaGreatDoorU30
import Derived.Test.YtjdhaacmlpegoaaGreatDoorU25
import Derived.Test.YtjdhaacmlpegoaaGreatDoorU21
namespace Go.Proofs.YtjdhaacmlpegoaaGreatDoor
set_option linter.unusedVariables false
set_option linter.unusedSimpArgs false
open Go.RowKit
def EvN (l:List Ev):Prop:=∀ e∈l,e.hs.length<=2000
theorem EvN.app {a b:List Ev}(h:EvN a)(k:EvN b):EvN (a ++ b):=fun e he=>(List.mem_append.1 he).elim (h e) (k e)
theorem EvN.nil:EvN []:=fun e he=>by cases he
theorem EvN.one {e:Ev}(h:e.hs.length<=2000):EvN [e]:=fun x hx=>by obtain rfl:=List.mem_singleton.1 hx;exact h
structure EH (q:List Hd)(o:Out):Prop where
 ev:EvN o.ev
 qh:o.s.qh=q
theorem failO_eh {S:FSt}{q:List Hd}(h:S.qh=q)(C:List En)(e:Int):EH q (failO S C e):=⟨EvN.one (Nat.zero_le _),h⟩
theorem redirF_eh {snd:FSt->List En->Out}{S:FSt}{q:List Hd}(h:S.qh=q){C:List En}(hs:∀ S',S'.qh=q->EH q (snd S' C))(st:Int)(loc:ByteArray):EH q (redirF snd st loc S C):=by
 unfold redirF;split
 ·exact failO_eh h _ _
 ·split
  ·exact failO_eh (S:={ S with ho:=S.ho+1 }) h _ _
  ·split
   ·exact failO_eh (S:={ S with ho:=S.ho+1 }) h _ _
   ·split
    ·exact failO_eh (S:={ S with ho:=S.ho+1 }) h _ _
    ·exact hs _ h
theorem headO_eh (st:Int){hd:List Hd}(hl:hd.length<=2000){S:FSt}{q:List Hd}(h:S.qh=q)(C:List En):EH q (headO st hd S C):=by
 unfold headO;split
 ·exact failO_eh (S:={ S with hi:=decide (S.mo=4) && fgB S }) h _ _
 ·refine ⟨EvN.one ?_,h⟩;split
  ·exact Nat.zero_le _
  ·exact Nat.le_trans (List.length_filter_le _ _) hl
theorem takeF_eh {snd:FSt->List En->Out}{S:FSt}{q:List Hd}(h:S.qh=q){C:List En}(hs:∀ S',S'.qh=q->EH q (snd S' C))(now st:Int){hd:List Hd}(hl:hd.length<=2000):EH q (takeF snd false now st hd S C):=by
 unfold takeF;split
 ·split
  ·exact failO_eh h _ _
  ·exact redirF_eh h hs _ _
 ·exact headO_eh _ hl h _
theorem dataF_eh (p:ByteArray)(S:FSt):EvN (dataF p S).2/\(dataF p S).1.qh=S.qh:=by
 unfold dataF;split
 ·split
  ·exact ⟨EvN.one (Nat.zero_le _),rfl⟩
  ·refine ⟨?_,rfl⟩;show EvN (if _ then _ else _);split
   ·exact EvN.nil
   ·exact EvN.one (Nat.zero_le _)
 ·exact ⟨EvN.nil,rfl⟩
theorem restF_eh (p:ByteArray){q:List Hd}{o:Out}(k:EH q o):EH q (restF p o):=by
 obtain ⟨h1,h2⟩:=dataF_eh p o.s;unfold restF;split
 ·split
  ·exact ⟨(k.ev.app h1).app (EvN.one (Nat.zero_le _)),h2.trans k.qh⟩
  ·exact ⟨k.ev.app h1,h2.trans k.qh⟩
 ·exact k
theorem hdF_len (S:FSt):(hdF S).length<=S.qh.length+1:=by
 unfold hdF;rw [List.length_append];have h1:(woL S.qh [ckN,ogN]).length<=S.qh.length:=List.length_filter_le _ _;split
 ·simp only [List.length_singleton];omega
 ·simp only [List.length_nil];omega
theorem askO_eh (J:List Ck)(now:Int){S:FSt}{q:List Hd}(h:S.qh=q)(hq:q.length<=1000)(C:List En){more:List Hd}(hm:more.length<=2)(ch:Bool):EH q (askO J now S C more ch):=by
 refine ⟨EvN.one ?_,h⟩;show (hdF S ++ more ++ (if _ then _ else _)).length<=2000;have h1:=hdF_len S;rw [h] at h1;rw [List.length_append,List.length_append];split
 ·rw [List.length_singleton];omega
 ·rw [List.length_nil];omega
theorem lastI_mem {α:Type}{p:α->Bool}:∀ {l:List α} {i:Nat} {x:α},l[i]? = some x->x∈l:=fun h=>List.mem_of_getElem? h
theorem askF_eh (C:List En)(hC:∀ e∈C,e.hd.length<=2000)(url:ByteArray)(rq:List Hd)(now:Int):(∀ e∈(askF C url rq now).c,e.hd.length<=2000)/\(askF C url rq now).e.hd.length<=2000:=by
 unfold askF;split
 ·exact ⟨hC,Nat.zero_le _⟩
 ·split
  ·exact ⟨hC,Nat.zero_le _⟩
  ·split
   ·exact ⟨hC,Nat.zero_le _⟩
   ·next i _ _ e he=>
    have hm:=hC e (List.mem_of_getElem? he);split
    ·refine ⟨fun x hx=>?_,hm⟩;rcases List.mem_append.1 hx with hx | hx
     ·exact hC x (List.mem_of_mem_eraseIdx hx)
     ·obtain rfl:=List.mem_singleton.1 hx;exact hm
    ·split
     ·exact ⟨hC,Nat.zero_le _⟩
     ·exact ⟨hC,hm⟩
theorem sendF_eh (J:List Ck)(now:Int){q:List Hd}(hq:q.length<=1000):∀ (k:Nat) (S:FSt) (C:List En),S.qh=q->(∀ e∈C,e.hd.length<=2000)->EH q (sendF J now k S C)
 | 0,S,C,h,_=>⟨EvN.nil,h⟩
 | k+1,S,C,h,hC=>by
  obtain ⟨h1,h2⟩:=askF_eh C hC (txB S) (hdF S) now
  have h3:=askF_hl C (txB S) (hdF S) now
  unfold sendF
  split
  ·simp only
   split
   ·exact restF_eh _ (takeF_eh (S:={ S with ch:=false }) h (fun S' hS'=>sendF_eh J now hq k S' _ hS' h1) _ _ h2)
   ·split
    ·exact askO_eh J now h hq _ h3 _
    ·exact askO_eh J now h hq _ (Nat.zero_le _) _
  ·exact askO_eh J now h hq _ (Nat.zero_le _) _
theorem startF_eh (now:Int){S:FSt}(hq:S.qh.length<=1000)(j:List Ck × Int){C:List En}(hC:∀ e∈C,e.hd.length<=2000):EvN (startF now S j C).ev:=by
 have k:EH S.qh (beginF j.1 now S C):=by
  unfold beginF;split
  ·exact failO_eh rfl _ _
  ·split
   ·exact failO_eh rfl _ _
   ·split
    ·exact failO_eh rfl _ _
    ·split
     ·exact failO_eh rfl _ _
     ·exact sendF_eh _ _ hq _ _ _ rfl hC
 exact k.ev
theorem endF_eh (now:Int)(S:FSt)(C:List En):EvN (endF now S C).ev:=by
 unfold endF;split
 ·exact EvN.one (Nat.zero_le _)
 ·exact EvN.nil
theorem dataR_eh (now:Int):∀ (ps:List ByteArray) (r:Rn),EvN r.ev->EvN (runF now (ps.map dOp ++ [eOp]) r).ev
 | [],r,h=>by
  show EvN (opF now eOp r).ev
  rw [op_end]
  exact h.app (endF_eh _ _ _)
 | p :: ps,r,h=>by
  show EvN (runF now (ps.map dOp ++ [eOp]) (opF now (dOp p) r)).ev
  refine dataR_eh now ps _ ?_
  rw [op_data]
  exact h.app (dataF_eh _ _).1
theorem headR_eh (now:Int){S:FSt}(hq:S.qh.length<=1000)(j:List Ck × Int){C:List En}(hC:∀ e∈C,e.hd.length<=2000)(bo:ByteArray):EvN (opF now ⟨0,200,okHs,bo⟩ (startF now S j C)).ev:=by
 have h0:=startF_eh now hq j hC;obtain ⟨r,hr⟩:∃ r,startF now S j C=r:=⟨_,rfl⟩
 rw [hr] at h0 ⊢;unfold opF;rw [if_pos (by show 0 % 5=0;decide)];refine h0.app ?_;unfold headA;split
 ·show EvN (headF _ now 200 okHs r.s r.c).ev;rw [head_ok];exact (headO_eh 200 (by decide) rfl _).ev
 ·exact EvN.nil
end Go.Proofs.YtjdhaacmlpegoaaGreatDoor
