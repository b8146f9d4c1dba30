/- Part 15 of what the proof needs: DP DR. -/
import Derived.Test.YtjdhaacmlpegoaaGreatDoorP09
import Derived.Test.YtjdhaacmlpegoaaGreatDoorP14
import Derived.BigQuiet
import Derived.Lib.SliceRun
namespace Go.Proofs.YtjdhaacmlpegoaaGreatDoor
open Go.RowKit
set_option linter.unusedSimpArgs false
set_option linter.unusedVariables false
def OldNew (v v':Value)(n:Nat):Prop:=∀ g,v'.ownBlock=some g->v.ownBlock=some g\/n<=g
abbrev OpenS (a:ByteArray)(y:Ck):Prop:=y.se=false\/(y.se=true/\a.toList=[104,116,116,112,115])
inductive Put (c:Ck) (gone:Bool) (a:ByteArray) (l:List Ck) (nx:Int):List Ck->Int->Int->Prop
 | sec (k:Nat) (hk:k<l.length) (hi:idxI (sameB c) l=k) (hs:l[k].se=true) (hn:a.data.toList≠httpsL):Put c gone a l nx l nx 7
 | none (hi:idxI (sameB c) l = -1) (hg:gone=true):Put c gone a l nx l nx 0
 | del (k:Nat) (hk:k<l.length) (hi:idxI (sameB c) l=k) (hs:OpenS a l[k]) (hg:gone=true):Put c gone a l nx (l.filter (fun d=>!sameB c d)) nx 0
 | put (k:Nat) (hk:k<l.length) (hi:idxI (sameB c) l=k) (hs:OpenS a l[k]) (hg:gone=false):Put c gone a l nx (l.set k { c with cr:=l[k].cr }) nx 0
 | new (hi:idxI (sameB c) l = -1) (hg:gone=false) (hl:l.length<200):Put c gone a l nx (l ++ [{ c with cr:=nx }]) (nx+1) 0
 | evict (q:Nat) (hi:idxI (sameB c) l = -1) (hg:gone=false) (hq0:0<q) (hq:l.length+1=200+q):Put c gone a l nx ((l ++ [{ c with cr:=nx }]).drop q) (nx+1) 0
theorem idxI_cases (p:Ck->Bool)(l:List Ck):idxI p l = -1\/∃ k:Nat,∃ h:k<l.length,idxI p l=k/\p l[k]=true:=by
 unfold idxI
 by_cases ha:l.any p
 ·right
  rw [if_pos ha]
  have hlt:l.findIdx p<l.length:=by
   obtain ⟨x,hx,hp⟩:=List.any_eq_true.1 ha
   exact List.findIdx_lt_length_of_exists ⟨x,hx,hp⟩
  exact ⟨l.findIdx p,hlt,rfl,List.findIdx_getElem⟩
 ·left;rw [if_neg ha]
theorem put_ex (c:Ck)(gone:Bool)(a:ByteArray)(l:List Ck)(nx:Int):∃ l' nx' er,Put c gone a l nx l' nx' er:=by
 rcases idxI_cases (sameB c) l with h | ⟨k,hk,h,_⟩
 ·cases gone with
  | true=>exact ⟨_,_,_,.none h rfl⟩
  | false=>
    rcases Nat.lt_or_ge l.length 200 with hl | hl
    ·exact ⟨_,_,_,.new h rfl hl⟩
    ·exact ⟨_,_,_,.evict (l.length+1 - 200) h rfl (by omega) (by omega)⟩
 ·have hs:l[k].se=true/\a.data.toList≠httpsL\/OpenS a l[k]:=by
   cases e:l[k].se with
   | false=>exact .inr (.inl e)
   | true=>
     by_cases hh:a.data.toList=httpsL
     ·exact .inr (.inr ⟨e,by rw [ByteArray.toList_eq];exact hh⟩)
     ·exact .inl ⟨rfl,hh⟩
  rcases hs with ⟨hs,hn⟩ | hs
  ·exact ⟨_,_,_,.sec k hk h hs hn⟩
  ·cases gone with
   | true=>exact ⟨_,_,_,.del k hk h hs rfl⟩
   | false=>exact ⟨_,_,_,.put k hk h hs rfl⟩
theorem put_len {c:Ck}{gone:Bool}{a:ByteArray}{l l':List Ck}{nx nx' er:Int}(h:Put c gone a l nx l' nx' er)(hl:l.length<=202):l'.length<=202:=by
 cases h with
 | del k hk hi hs hg=>exact Nat.le_trans (List.length_filter_le _ _) hl
 | put k hk hi hs hg=>rw [List.length_set];exact hl
 | new hi hg hl2=>simp;omega
 | evict q hi hg h0 hq=>simp;omega
 | _=>exact hl
end Go.Proofs.YtjdhaacmlpegoaaGreatDoor
