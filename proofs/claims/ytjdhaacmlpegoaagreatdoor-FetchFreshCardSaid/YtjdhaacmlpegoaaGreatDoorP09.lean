/- Part 9 of what the proof needs: RG B8 B9. -/
import Derived.Test.YtjdhaacmlpegoaaGreatDoorP08
import Derived.Test.YtjdhaacmlpegoaaGreatDoorP07
import Derived.Test.YtjdhaacmlpegoaaGreatDoorP06
import Derived.Test.YtjdhaacmlpegoaaGreatDoorP05
import Derived.IntWalk
import Derived.Test.YtjdhaacmlpegoaaGreatDoorP02
import Derived.Test.YtjdhaacmlpegoaaGreatDoorP04
import Derived.Shelf.SlicesQ.IndexFunc
import Derived.Deep.LoopGhost
import Derived.Deep.QuietTactic
import Derived.BigQuiet
import Derived.OneCell
import Derived.Deep.RegionHeld3
import Derived.Deep.RegionLaw
import Derived.Deep.AppendLies
import Derived.Outline
import Derived.Deep.DeepCutAuto
import Derived.Test.YtjdhaacmlpegoaaGreatDoorP01
import Derived.KernelRfl
import Derived.Lib.SliceRun
namespace Go.Proofs.YtjdhaacmlpegoaaGreatDoor
open Go.RowKit
set_option linter.unusedSimpArgs false
set_option linter.unusedVariables false
theorem resolve_any (a b c d e f s:ByteArray)(w:World)(hM:MaxAt w)(ha:a.size<=40000)(hb:b.size<=40000)(hc:c.size<=40000)(hd:d.size<=40000)(he:e.size<=40000)(hf:f.size<=40000)(hs:s.size<=40000):
 Calls Tryz.prog 189 #[.agg #[.string a,.string b,.string c,.string d,.string e,.string f],.string s] w fun x w'=>x = .returned (resV (resolveL (a.data.toList,b.data.toList,c.data.toList,d.data.toList,e.data.toList,f.data.toList) (validB (a.data.toList,b.data.toList,c.data.toList,d.data.toList,e.data.toList,f.data.toList)) (trimL s.data.toList)))/\Below w.heap.size w w':=by
 obtain ⟨T,hT⟩:=list_bytes (trimL s.data.toList)
 have P:Pre a b c d e f s T:=⟨ha,hb,hc,hd,he,hf,hs,hT⟩
 rw [<-hT]
 unfold resolveL
 by_cases h1:schemeOk T.data.toList=true
 ·rw [if_pos h1];exact resolve1 a b c d e f s T w hM P h1 
 ·rw [if_neg h1]
  have h1':schemeOk T.data.toList=false:=by simpa using h1
  by_cases h2:validB (a.data.toList,b.data.toList,c.data.toList,d.data.toList,e.data.toList,f.data.toList)=false
  ·rw [if_pos h2];exact resolve2 a b c d e f s T w hM P h1' h2 
  ·rw [if_neg h2]
   have h2':validB (a.data.toList,b.data.toList,c.data.toList,d.data.toList,e.data.toList,f.data.toList)=true:=by simpa using h2
   by_cases h3:T.data.toList=[]
   ·rw [if_pos h3];exact resolve3 a b c d e f s T w hM P h1' h2' (by rw [<-size_len,h3];rfl) _ rfl
   ·rw [if_neg h3]
    have h3':0<T.size:=by
     rw [<-size_len];exact List.length_pos_iff.2 h3
    by_cases h4:T.data.toList.head? = some 35
    ·rw [if_pos h4]
     exact resolve4 a b c d e f s T w hM P h1' h2' h3' h4 _ rfl
    ·rw [if_neg h4]
     by_cases h5:a.data.toList=aboutL
     ·rw [if_pos h5];exact resolve5 a b c d e f s T w hM P h1' h2' h3' h4 h5 _ rfl
     ·rw [if_neg h5]
      by_cases h6:T.data.toList.take 2=[47,47]
      ·rw [if_pos h6];exact resolve6 a b c d e f s T w hM P h1' h2' h3' h4 h5 h6 _ rfl
      ·rw [if_neg h6]
       by_cases h7:T.data.toList.head? = some 47
       ·rw [if_pos h7];exact resolve7 a b c d e f s T w hM P h1' h2' h3' h4 h5 h6 h7 _ rfl
       ·rw [if_neg h7]
        by_cases h8:T.data.toList.head? = some 63
        ·rw [if_pos h8];exact resolve8 a b c d e f s T w hM P h1' h2' h3' h4 h5 h6 h7 h8 _ rfl
        ·rw [if_neg h8];exact resolve9 a b c d e f s T w hM P h1' h2' h3' h4 h5 h6 h7 h8 _ rfl
end Go.Proofs.YtjdhaacmlpegoaaGreatDoor
namespace Go.Proofs.YtjdhaacmlpegoaaGreatDoor
set_option linter.unusedVariables false
set_option linter.unusedSimpArgs false
open Go.RowKit
structure Ck where
 n:ByteArray
 v:ByteArray
 d:ByteArray
 p:ByteArray
 ho:Bool
 se:Bool
 hi:Bool
 ex:Int
 cr:Int
abbrev ckL (c:Ck):List Value:=[.string c.n,.string c.v,.string c.d,.string c.p,.bool c.ho,.bool c.se,.bool c.hi,.int .i64 c.ex,.int .i64 c.cr]
abbrev ckA (c:Ck):Value:=.agg #[.string c.n,.string c.v,.string c.d,.string c.p,.bool c.ho,.bool c.se,.bool c.hi,.int .i64 c.ex,.int .i64 c.cr]
abbrev ck0:Ck:=⟨⟨#[]⟩,⟨#[]⟩,⟨#[]⟩,⟨#[]⟩,false,false,false,0,0⟩
def bs (l:List UInt8):ByteArray:=⟨l.toArray⟩
theorem bs_list (l:List UInt8):(bs l).data.toList=l:=rfl
theorem bs_size (l:List UInt8):(bs l).size=l.length:=by rw [<-size_len];rfl
abbrev maxageL:List UInt8:=[109,97,120,45,97,103,101]
abbrev domainL:List UInt8:=[100,111,109,97,105,110]
abbrev pathwL:List UInt8:=[112,97,116,104]
abbrev secureL:List UInt8:=[115,101,99,117,114,101]
abbrev hidL:List UInt8:=[104,116,116,112,111,110,108,121]
def undot (l:List UInt8):List UInt8:=if Lib.hasPrefix l [46]=true then l.drop 1 else l
def attrC (host path:ByteArray)(now:Int)(c:Ck)(name value:List UInt8):Ck:=
 if name=maxageL then (match ageL value with | some n=>{ c with ex:=clockI now+n * 1000 } | none=>c)
 else if name=domainL then (if lowL (undot value)=[] then { c with d:=host,ho:=true } else { c with d:=bs (lowL (undot value)),ho:=false })
 else if name=pathwL then { c with p:=if Lib.hasPrefix value [47]=true then bs value else path }
 else if name=secureL then { c with se:=true }
 else if name=hidL then { c with hi:=true }
 else c
def stepC (host path:ByteArray)(now:Int)(c:Ck)(part:List UInt8):Ck:=attrC host path now c (lowL (trimC (pre 61 part))) (trimC (post 61 part))
def ctlB (b:UInt8):Bool:=decide (b.toNat<32) && b != 9 || b == 127
def ctlL (l:List UInt8):Bool:=l.any ctlB
def firstC (host path:ByteArray)(part:List UInt8):Ck:=⟨bs (trimC (pre 61 part)),bs (trimC (post 61 part)),host,path,true,false,false,-1,0⟩
def lastC (host scheme:List UInt8)(c:Ck):Ck × Int:=
 if domL host c.d.data.toList=false\/(c.d.data.toList≠host/\c.d.data.toList.contains 46=false) then (ck0,15)
 else if c.se=true/\scheme≠httpsL then (ck0,7)
 else (c,0)
def parseC (field:List UInt8)(ok:Bool)(scheme host path:ByteArray)(now:Int):Ck × Int:=
 if ok=false then (ck0,7)
 else match segs 59 field with
  | []=>(ck0,4)
  | p0 :: ps=>
    if p0.contains 61=false\/trimC (pre 61 p0)=[]\/ctlL field=true then (ck0,4)
    else lastC host.data.toList scheme.data.toList (ps.foldl (stepC host (bs (defpL path.data.toList)) now) (firstC host (bs (defpL path.data.toList)) p0))
end Go.Proofs.YtjdhaacmlpegoaaGreatDoor
namespace Go.Proofs.YtjdhaacmlpegoaaGreatDoor
set_option linter.unusedVariables false
set_option linter.unusedSimpArgs false
open Go.RowKit
def SlK {α:Type}(enc:α->List Value)(k:Nat)(w:World)(v:Value)(l:List α):Prop:=
 (l=[]/\∃ a cap,v = .slice a 0 cap/\cap<=maxLen)\/(l≠[]/\∃ b off cap,v = .slice (some ⟨b,off,none⟩) l.length cap/\l.length<=cap/\cap<=maxLen/\b<w.heap.size/\∀ i (h:i<l.length) j u,(enc l[i])[j]? = some u->w.cell? ⟨b,off+i * k+j,none⟩=some u)
theorem SlK.below {α:Type}{enc:α->List Value}{k:Nat}{w w':World}{v:Value}{l:List α}{B:Nat}(h:SlK enc k w v l)(hb:Below B w w')(hB:w.heap.size<=B):SlK enc k w' v l:=by
 rcases h with h | ⟨h0,b,off,cap,h1,h2,h3,h4,h5⟩
 ·exact .inl h
 ·exact .inr ⟨h0,b,off,cap,h1,h2,h3,Nat.lt_of_lt_of_le h4 hb.size,fun i hi j u hu=>(hb.cell (p:=⟨b,off+i * k+j,none⟩) (by show b<B;omega)).trans (h5 i hi j u hu)⟩
theorem SlK.shape {α:Type}{enc:α->List Value}{k:Nat}{w:World}{v:Value}{l:List α}(h:SlK enc k w v l):∃ a cap,v = .slice a l.length cap/\cap<=maxLen:=by
 rcases h with ⟨rfl,a,cap,h1,h2⟩ | ⟨h0,b,off,cap,h1,h2,h3,h4,h5⟩
 ·exact ⟨a,cap,h1,h2⟩
 ·exact ⟨_,cap,h1,h3⟩
def cellsK {α:Type}(enc:α->List Value)(l:List α):List Value:=l.flatMap enc
theorem cellsK_len {α:Type}{enc:α->List Value}{k:Nat}(hk:∀ x,(enc x).length=k)(l:List α):(cellsK enc l).length=l.length * k:=by
 unfold cellsK
 induction l with
 | nil=>simp
 | cons x l ih=>rw [List.flatMap_cons,List.length_append,ih,hk,List.length_cons,Nat.add_mul];omega
theorem cellsK_app {α:Type}(enc:α->List Value)(a b:List α):cellsK enc (a ++ b)=cellsK enc a ++ cellsK enc b:=by simp [cellsK]
theorem cellsK_get {α:Type}{enc:α->List Value}{k:Nat}(hk:∀ x,(enc x).length=k):∀ (l:List α) (i:Nat) (h:i<l.length) (j:Nat) (u:Value),(enc l[i])[j]? = some u->(cellsK enc l)[i * k+j]? = some u:=by
 intro l
 induction l with
 | nil=>intro i h;simp at h
 | cons x l ih=>
   intro i h j u hu
   have hj:∀ y,(enc y)[j]? = some u->j<k:=fun y hy=>by have:=(List.getElem?_eq_some_iff.1 hy).1;rwa [hk] at this
   unfold cellsK
   rw [List.flatMap_cons]
   cases i with
   | zero=>
     simp only [List.getElem_cons_zero] at hu
     rw [Nat.zero_mul,Nat.zero_add,List.getElem?_append_left (by rw [hk];exact hj _ hu)]
     exact hu
   | succ i=>
     simp only [List.getElem_cons_succ] at hu
     rw [Nat.add_mul,Nat.one_mul,List.getElem?_append_right (by rw [hk];omega),hk,show i * k+k+j - k=i * k+j by omega]
     exact ih i (by simpa using h) j u hu
theorem SlK.of_own {α:Type}{enc:α->List Value}{k:Nat}(hk:∀ x,(enc x).length=k){w:World}{b e:Nat}{v:Value}{l:List α}(h:w.ownsRow b e k v l.length (cellsK enc l)):SlK enc k w v l:=by
 obtain ⟨a,cap,hv,hc,hm,ha⟩:=own_reads h
 by_cases hl:l=[]
 ·subst hl
  exact .inl ⟨rfl,a,cap,hv,hm⟩
 ·rcases ha with ⟨rfl,h0⟩ | ⟨g,rfl,hg,hgw,hcell⟩
  ·exact absurd (List.eq_nil_of_length_eq_zero h0) hl
  ·refine .inr ⟨hl,g,0,cap,hv,hc,hm,hgw,fun i hi j u hu=>?_⟩
   rw [Nat.zero_add]
   exact hcell _ _ (cellsK_get hk l i hi j u hu)
def idxI {α:Type}(p:α->Bool)(l:List α):Int:=if l.any p then (l.findIdx p:Nat) else -1
theorem idxI_hit {α:Type}(p:α->Bool)(l:List α)(k:Nat)(hk:k<l.length)(h:p l[k]=true)(hb:∀ j (hj:j<k),p (l[j]'(by omega))=false):idxI p l=k:=by
 unfold idxI
 have h1:l.findIdx p=k:=by
  rw [List.findIdx_eq hk]
  exact ⟨h,fun j hj=>hb j hj⟩
 rw [if_pos (List.any_eq_true.2 ⟨l[k],List.getElem_mem hk,h⟩),h1]
theorem idxI_miss {α:Type}(p:α->Bool)(l:List α)(h:∀ j (hj:j<l.length),p l[j]=false):idxI p l = -1:=by
 unfold idxI
 rw [if_neg]
 rw [List.any_eq_true]
 rintro ⟨x,hx,hp⟩
 obtain ⟨j,hj,rfl⟩:=List.getElem_of_mem hx
 rw [h j hj] at hp;cases hp
theorem ckL_len (c:Ck):(ckL c).length=9:=rfl
end Go.Proofs.YtjdhaacmlpegoaaGreatDoor
namespace Go.Proofs.YtjdhaacmlpegoaaGreatDoor
set_option linter.unusedVariables false
set_option linter.unusedSimpArgs false
open Go.RowKit
end Go.Proofs.YtjdhaacmlpegoaaGreatDoor
namespace Go.Proofs.YtjdhaacmlpegoaaGreatDoor
set_option linter.unusedVariables false
set_option linter.unusedSimpArgs false
open Go.RowKit
def exB (c:Ck)(now:Int):Bool:=decide (0<=c.ex) && decide (c.ex<=clockI now)
def sameB (c d:Ck):Bool:=(c.n.toList == d.n.toList) && (c.d.toList == d.d.toList) && (c.p.toList == d.p.toList)
end Go.Proofs.YtjdhaacmlpegoaaGreatDoor
namespace Go.Proofs.YtjdhaacmlpegoaaGreatDoor
set_option linter.unusedVariables false
set_option linter.unusedSimpArgs false
open Go.RowKit
theorem brl {B:Nat}{w0 w1:World}(hb:Below B w0 w1):∀ b o,b<B->w1.cell? ⟨b,o,none⟩=w0.cell? ⟨b,o,none⟩:=fun b o h=>hb.cell (p:=⟨b,o,none⟩) h
def takesB (u:U6):Bool:=validB u && !(u.1 == aboutL)
abbrev urlA (a b c d e f:ByteArray):Value:=.agg #[.string a,.string b,.string c,.string d,.string e,.string f]
abbrev urlL (a b c d e f:ByteArray):List Value:=[.string a,.string b,.string c,.string d,.string e,.string f]
abbrev u6 (a b c d e f:ByteArray):U6:=(a.data.toList,b.data.toList,c.data.toList,d.data.toList,e.data.toList,f.data.toList)
structure USize (n:Nat)(a b c d e f:ByteArray):Prop where
 a:a.size<=n
 b:b.size<=n
 c:c.size<=n
 d:d.size<=n
 e:e.size<=n
 f:f.size<=n
theorem neq_about (a:ByteArray):(a.toList != aboutL) = !(a.data.toList == aboutL):=by rw [ByteArray.toList_eq];rfl
end Go.Proofs.YtjdhaacmlpegoaaGreatDoor
namespace Go.Proofs.YtjdhaacmlpegoaaGreatDoor
set_option linter.unusedVariables false
set_option linter.unusedSimpArgs false
open Go.RowKit
theorem AtL.grown {w w':World}{k:Nat}{vs:List Value}{row:Option Nat}(h:AtL w k vs)(hg:w.grownBy w' row)(hr:row≠some k):AtL w' k vs:=by
 have hh:=hg.block k h.1 (fun e=>hr e.symm)
 exact ⟨Nat.lt_of_lt_of_le h.1 hg.size,fun j v hv=>⟨(World.cell?_of_block (w:=w) hh).trans (h.c j hv),(World.frozen?_of_block (w:=w) hh).trans (h.f j hv)⟩⟩
theorem own_eq {w:World}{b e s n n':Nat}{v:Value}{xs xs':List Value}(h:w.ownsRow b e s v n xs)(hn:n=n')(hx:xs=xs'):w.ownsRow b e s v n' xs':=by subst hn hx;exact h
theorem one9 (c:Ck):∀ u∈ckL c,u.oneCell'=true:=by
 intro u hu
 simp at hu
 rcases hu with rfl | rfl | rfl | rfl | rfl | rfl | rfl | rfl | rfl <;> rfl
structure RowBut (n jb:Nat)(o:Option Nat)(w w':World):Prop where
 os:w'.os=w.os
 tape:w'.tape=w.tape
 output:w'.output=w.output
 size:w.heap.size<=w'.heap.size
 block:∀ k,k<n->k≠jb->o≠some k->w'.heap[k]? = w.heap[k]?
theorem RowBut.refl (n jb:Nat)(o:Option Nat)(w:World):RowBut n jb o w w:=⟨rfl,rfl,rfl,lr,fun _ _ _ _=>rfl⟩
theorem RowBut.below {n jb B':Nat}{o:Option Nat}{W w w':World}(h:RowBut n jb o W w)(k:Below B' w w')(hB:n<=B'):RowBut n jb o W w':=
 ⟨k.os.trans h.os,k.tape.trans h.tape,k.output.trans h.output,Nat.le_trans h.size k.size,fun i hi hb ho=>(k.block i (by omega)).trans (h.block i hi hb ho)⟩
theorem RowBut.setCell {n jb:Nat}{o:Option Nat}{W w:World}(h:RowBut n jb o W w)(p:Addr)(hp:p.block=jb\/o=some p.block\/n<=p.block)(u:Value):RowBut n jb o W (w.setCell p u):=
 ⟨h.os,h.tape,h.output,by simp [World.setCell];exact h.size,fun k hk hb ho=>by
  have hne:k≠p.block:=by
   rcases hp with hp | hp | hp
   ·omega
   ·exact fun e=>ho (by rw [hp,e])
   ·omega
  exact (Below.heap_setCell w p u k hne).trans (h.block k hk hb ho)⟩
theorem RowBut.grown {n jb:Nat}{o:Option Nat}{W w w':World}(h:RowBut n jb o W w)(hg:w.grownBy w' o)(hn:n<=w.heap.size):RowBut n jb o W w':=
 ⟨hg.os.trans h.os,hg.tape.trans h.tape,hg.output.trans h.output,Nat.le_trans h.size hg.size,fun k hk hb ho=>(hg.block k (by omega) (fun e=>ho e.symm)).trans (h.block k hk hb ho)⟩
theorem RowBut.mono {n n' jb:Nat}{o:Option Nat}{w w':World}(h:RowBut n jb o w w')(hn:n'<=n):RowBut n' jb o w w':=⟨h.os,h.tape,h.output,h.size,fun k hk=>h.block k (by omega)⟩
theorem RowBut.trans {n jb:Nat}{o:Option Nat}{W w w':World}(h:RowBut n jb o W w)(k:RowBut n jb o w w'):RowBut n jb o W w':=⟨k.os.trans h.os,k.tape.trans h.tape,k.output.trans h.output,Nat.le_trans h.size k.size,fun x hx hb ho=>(k.block x hx hb ho).trans (h.block x hx hb ho)⟩
theorem own_base {w:World}{b e s n g:Nat}{v:Value}{xs:List Value}(h:w.ownsRow b e s v n xs)(ho:v.ownBlock=some g):b<=g:=by
 rcases h.2 with ⟨rfl,_⟩ | ⟨g',cap,cur,rfl,hg,_⟩
 ·simp [Value.ownBlock] at ho
 ·simp only [Value.ownBlock,Option.some.injEq] at ho
  omega
end Go.Proofs.YtjdhaacmlpegoaaGreatDoor
namespace Go.Proofs.YtjdhaacmlpegoaaGreatDoor
set_option linter.unusedVariables false
set_option linter.unusedSimpArgs false
open Go.RowKit
theorem split_is (c:UInt8)(s:ByteArray)(hs:s.size<=1000000):∃ l:List ByteArray,lists l=segs c s.data.toList/\∀ w,MaxAt w->Calls Tryz.prog 115 #[.string s,.string ⟨#[c]⟩] w fun e w'=>e = .returned (.slice (some ⟨w.heap.size,0,none⟩) l.length l.length)/\w'=w.alloc (.cells (l.map Value.string).toArray 9):=by
 refine ⟨Lib.splitB ⟨#[c]⟩ 0 (Lib.countB s ⟨#[c]⟩) s,split_segs c _ s rfl,fun w hM=>?_⟩
 obtain ⟨m,hm⟩:=hM
 have cS:=Tryz.strings_Split s ⟨#[c]⟩ m w (by omega) hm (by show 1<=1;omega)
 have hsl:=Lib.splitB_all ⟨#[c]⟩ (Nat.le_refl 1) 0 (Lib.countB s ⟨#[c]⟩) s rfl
 rw [<-hsl] at cS
 exact cS
theorem undot_len (l:List UInt8):(undot l).length<=l.length:=by
 unfold undot;split
 ·simp
 ·exact lr
theorem pre_len' (c:UInt8)(l:List UInt8):(pre c l).length<=l.length:=(List.takeWhile_sublist _).length_le
theorem post_len' (c:UInt8)(l:List UInt8):(post c l).length<=l.length:=by
 unfold post;rw [List.length_drop]
 have:=(List.dropWhile_sublist (p:=(· != c)) (l:=l)).length_le
 omega
end Go.Proofs.YtjdhaacmlpegoaaGreatDoor
namespace Go.Proofs.YtjdhaacmlpegoaaGreatDoor
set_option linter.unusedVariables false
set_option linter.unusedSimpArgs false
open Go.RowKit
end Go.Proofs.YtjdhaacmlpegoaaGreatDoor
namespace Go.Proofs.YtjdhaacmlpegoaaGreatDoor
set_option linter.unusedVariables false
set_option linter.unusedSimpArgs false
open Go.RowKit
theorem segs_sizes {c:UInt8}{s:ByteArray}{l:List ByteArray}(h:lists l=segs c s.data.toList):l.length<=s.size+1/\∀ p∈l,p.size<=s.size:=by
 constructor
 ·have h1:=segs_count c s.data.toList
  rw [<-h,size_len] at h1
  simpa [lists] using h1
 ·intro p hp
  have:=segs_len c s.data.toList p.data.toList (by rw [<-h];exact List.mem_map_of_mem hp)
  rwa [size_len,size_len] at this
end Go.Proofs.YtjdhaacmlpegoaaGreatDoor
namespace Go.Proofs.YtjdhaacmlpegoaaGreatDoor
set_option linter.unusedVariables false
set_option linter.unusedSimpArgs false
open Go.RowKit
theorem MaxAt.lt {w:World}(h:MaxAt w):0<w.heap.size:=by
 obtain ⟨m,hm⟩:=h
 exact cell_lt hm
end Go.Proofs.YtjdhaacmlpegoaaGreatDoor
namespace Go.Proofs.YtjdhaacmlpegoaaGreatDoor
set_option linter.unusedVariables false
set_option linter.unusedSimpArgs false
open Go.RowKit
end Go.Proofs.YtjdhaacmlpegoaaGreatDoor
namespace Go.Proofs.YtjdhaacmlpegoaaGreatDoor
set_option linter.unusedVariables false
set_option linter.unusedSimpArgs false
open Go.RowKit
end Go.Proofs.YtjdhaacmlpegoaaGreatDoor
namespace Go.Proofs.YtjdhaacmlpegoaaGreatDoor
set_option linter.unusedVariables false
set_option linter.unusedSimpArgs false
open Go.RowKit
end Go.Proofs.YtjdhaacmlpegoaaGreatDoor
namespace Go.Proofs.YtjdhaacmlpegoaaGreatDoor
set_option linter.unusedVariables false
set_option linter.unusedSimpArgs false
open Go.RowKit
def hitB (a b d:ByteArray)(now:Int)(c:Ck):Bool:=
 (if c.ho then c.d.toList == b.toList else domL b.data.toList c.d.data.toList) && !exB c now && pathL d.data.toList c.p.data.toList && (!c.se || a.toList == httpsL)
theorem take_hit (p:Ck->Bool)(l:List Ck)(k:Nat)(h:k<l.length)(y:Ck)(hy:l[k]=y)(b:Bool)(hb:p y=b):(l.take (k+1)).filter p=(l.take k).filter p ++ (if b then [y] else []):=by
 subst hy hb
 rw [List.take_succ_eq_append_getElem h,List.filter_append]
 cases hp:p l[k] <;> simp [hp]
end Go.Proofs.YtjdhaacmlpegoaaGreatDoor
namespace Go.Proofs.YtjdhaacmlpegoaaGreatDoor
set_option linter.unusedVariables false
set_option linter.unusedSimpArgs false
open Go.RowKit
theorem slS2:SlTy Tryz.prog 75 9 1 16:=.mk' (z:=.string ⟨#[]⟩) Tryz.underlying75 (by kernel_rfl) rfl (by decide)
def pairT (c:Ck):List UInt8:=c.n.data.toList ++ (61 :: c.v.data.toList)
end Go.Proofs.YtjdhaacmlpegoaaGreatDoor
namespace Go.Proofs.YtjdhaacmlpegoaaGreatDoor
set_option linter.unusedVariables false
set_option linter.unusedSimpArgs false
open Go.RowKit
end Go.Proofs.YtjdhaacmlpegoaaGreatDoor
namespace Go.Proofs.YtjdhaacmlpegoaaGreatDoor
set_option linter.unusedVariables false
set_option linter.unusedSimpArgs false
open Go.RowKit
end Go.Proofs.YtjdhaacmlpegoaaGreatDoor
namespace Go.Proofs.YtjdhaacmlpegoaaGreatDoor
set_option linter.unusedVariables false
set_option linter.unusedSimpArgs false
open Go.RowKit
end Go.Proofs.YtjdhaacmlpegoaaGreatDoor
namespace Go.Proofs.YtjdhaacmlpegoaaGreatDoor
set_option linter.unusedVariables false
set_option linter.unusedSimpArgs false
open Go.RowKit
theorem AtL.but {W W':World}{k B b:Nat}{vs:List Value}(h:AtL W k vs)(hb:BelowBut B b W W')(hk:k<B)(hkb:k≠b):AtL W' k vs:=by
 have hh:=hb.block k hk hkb
 exact ⟨Nat.lt_of_lt_of_le h.1 hb.size,fun j v hv=>⟨(World.cell?_of_block (w:=W) hh).trans (h.c j hv),(World.frozen?_of_block (w:=W) hh).trans (h.f j hv)⟩⟩
theorem MaxAt.but {w w':World}{B b:Nat}(h:MaxAt w)(hb:BelowBut B b w w')(hB:0<B)(hne:0≠b):MaxAt w':=by
 obtain ⟨m,hm⟩:=h
 exact ⟨m,(hb.cell (p:=⟨0,0,none⟩) hB hne).trans hm⟩
end Go.Proofs.YtjdhaacmlpegoaaGreatDoor
namespace Go.Proofs.YtjdhaacmlpegoaaGreatDoor
set_option linter.unusedVariables false
set_option linter.unusedSimpArgs false
open Go.RowKit
end Go.Proofs.YtjdhaacmlpegoaaGreatDoor
namespace Go.Proofs.YtjdhaacmlpegoaaGreatDoor
set_option linter.unusedVariables false
set_option linter.unusedSimpArgs false
open Go.RowKit
end Go.Proofs.YtjdhaacmlpegoaaGreatDoor
namespace Go.Proofs.YtjdhaacmlpegoaaGreatDoor
set_option linter.unusedVariables false
set_option linter.unusedSimpArgs false
open Go.RowKit
end Go.Proofs.YtjdhaacmlpegoaaGreatDoor
namespace Go.Proofs.YtjdhaacmlpegoaaGreatDoor
set_option linter.unusedVariables false
set_option linter.unusedSimpArgs false
open Go.RowKit
end Go.Proofs.YtjdhaacmlpegoaaGreatDoor
namespace Go.Proofs.YtjdhaacmlpegoaaGreatDoor
set_option linter.unusedVariables false
set_option linter.unusedSimpArgs false
open Go.RowKit
theorem own_zero (W0:World)(E size:Nat):(W0.alloc (.cells #[] E)).drew.ownsRow W0.heap.size E size (.slice (some ⟨W0.heap.size,0,none⟩) 0 0) 0 []:=by
 refine ⟨by simp,.inr ⟨W0.heap.size,0,#[],rfl,lr,?_,lr,by simp,by simp,by simp⟩⟩
 show (W0.heap.push _)[W0.heap.size]? = _
 simp
theorem step_app00 {P:Program}{T E size bytes:Nat}(ty:SlTy P T E size bytes)(W:World){ops:Array Oper}{o:Oper}{a:Act}{K:Act->World->Prop}{Q:Exit->Act->World->Prop}{Ep:Prop}
 (hgd:o.guard=none) (s x:Operand) (ho:o.op = .call { callee:=.builtin .append,args:=#[s,x],argTypes:=#[T,T] }) (b:Nat) (ad:Option Addr) (c:Nat)
 (hs:a.eval s = .slice (some ⟨b,0,none⟩) 0 0) (hx:a.eval x = .slice ad 0 c)
 (h:K (a.put o.dst (.slice (some ⟨b,0,none⟩) 0 0)) W) :
 if Region.wanted o (yielded ops a.tmps)=true then Oper.wp P o a W K Q else Ep:=by
 obtain ⟨hu,⟨i,z,hi,hz,h2,h3,h4⟩,hp⟩:=ty
 have hw:Region.wanted o (yielded ops a.tmps)=true:=by simp [Region.wanted,hgd]
 rw [if_pos hw]
 have hfc:(Builtin.firstCells i.size 0 (.slice ad 0 c)).run P W = .ok #[] W:=by
  cases ad with
  | none=>rfl
  | some ad=>exact run_firstCells_some (P:=P) W i.size 0 ad 0 c [] (by simp) (by simp)
 have hst:∀ p:Addr,(storeCells p []).run P W = .ok () W:=fun p=>by simp [storeCells]
 have hrun:(Builtin.append_ #[T,T] o.type #[.slice (some ⟨b,0,none⟩) 0 0,.slice ad 0 c]).run P W = .ok (.slice (some ⟨b,0,none⟩) 0 0) W:=by
  simp [Builtin.append_,run_underlying hu,sizeOf,typeInfo,hi,Builtin.lenOf,hfc,hst]
 unfold Oper.wp
 simp [execOp,ho,resolve,invoke,builtin,hs,hx,hrun,Result.andThen]
 exact h
theorem one9s (l:List Ck):∀ u∈cellsK ckL l,u.oneCell'=true:=by
 intro u hu
 obtain ⟨c,_,hu⟩:=List.mem_flatMap.1 hu
 exact one9 c u hu
theorem cellsK_inv {α:Type}{enc:α->List Value}{k:Nat}(hk:∀ x,(enc x).length=k):∀ (l:List α) (q:Nat) (u:Value),(cellsK enc l)[q]? = some u->∃ i,∃ h:i<l.length,∃ j,q=i * k+j/\(enc l[i])[j]? = some u:=by
 intro l
 induction l with
 | nil=>intro q u h;simp [cellsK] at h
 | cons x l ih=>
   intro q u h
   unfold cellsK at h
   rw [List.flatMap_cons] at h
   by_cases hq:q<(enc x).length
   ·rw [List.getElem?_append_left hq] at h
    exact ⟨0,by simp,q,by omega,h⟩
   ·rw [List.getElem?_append_right (by omega)] at h
    obtain ⟨i,hi,j,h1,h2⟩:=ih _ _ h
    refine ⟨i+1,by simpa using hi,j,?_,by simpa using h2⟩
    rw [hk] at h1 hq
    rw [Nat.add_mul]
    omega
theorem add_none (b off j:Nat):(⟨b,off,none⟩:Addr).add j=⟨b,off+j,none⟩:=by unfold Addr.add;split <;> simp_all
end Go.Proofs.YtjdhaacmlpegoaaGreatDoor
namespace Go.Proofs.YtjdhaacmlpegoaaGreatDoor
set_option linter.unusedVariables false
set_option linter.unusedSimpArgs false
open Go.RowKit
theorem own_set {w:World}{b e s n g cap:Nat}{xs:List Value}(h:w.ownsRow b e s (.slice (some ⟨g,0,none⟩) n cap) n xs)(j:Nat)(u:Value)(hj:j<n * s):
 (w.setCell ⟨g,j,none⟩ u).ownsRow b e s (.slice (some ⟨g,0,none⟩) n cap) n (xs.set j u):=by
 obtain ⟨h1,h2⟩:=h
 refine ⟨by rw [List.length_set];exact h1,.inr ?_⟩
 rcases h2 with ⟨h2,_⟩ | ⟨g',cap',cur,hv,hg,hh,hc,hm,hs,ht⟩
 ·cases h2
 ·injection hv with e1 e2 e3
  injection e1 with e1
  injection e1 with e1
  subst e1 e3
  refine ⟨g,cap,cur.setIfInBounds j u,rfl,hg,?_,hc,hm,by simpa using hs,?_⟩
  ·show (w.heap.modify g _)[g]? = _
   rw [Array.getElem?_modify,if_pos rfl,hh]
   rfl
  ·rw [Array.toList_setIfInBounds,List.take_set,ht]
theorem cellsK_split (l:List Ck)(k:Nat)(h:k<l.length):cellsK ckL l=cellsK ckL (l.take k) ++ (ckL l[k] ++ cellsK ckL (l.drop (k+1))):=by
 have e:=List.take_append_drop k l
 rw [List.drop_eq_getElem_cons h] at e
 exact (congrArg (cellsK ckL) e.symm).trans (cellsK_app ckL _ _)
theorem set9_mid (A C:List Value)(n:Nat)(hn:A.length=n)(x0 x1 x2 x3 x4 x5 x6 x7 x8 y0 y1 y2 y3 y4 y5 y6 y7 y8:Value):
 ((((((((((A ++ ([x0,x1,x2,x3,x4,x5,x6,x7,x8] ++ C)).set (n+0) y0).set (n+1) y1).set (n+2) y2).set (n+3) y3).set (n+4) y4).set (n+5) y5).set (n+6) y6).set (n+7) y7).set (n+8) y8)=A ++ ([y0,y1,y2,y3,y4,y5,y6,y7,y8] ++ C):=by
 subst hn
 simp [List.set_append]
theorem own_free {w:World}{b e s n g cap:Nat}{xs:List Value}(h:w.ownsRow b e s (.slice (some ⟨g,0,none⟩) n cap) n xs)(j:Nat):w.frozen? ⟨g,j,none⟩=false:=by
 rcases h.2 with ⟨h2,_⟩ | ⟨g',cap',cur,hv,hg,hh,hc,hm,hs,ht⟩
 ·cases h2
 ·injection hv with e1 e2 e3
  injection e1 with e1
  injection e1 with e1
  subst e1
  unfold World.frozen?
  rw [hh];simp
abbrev put9 (W:World)(g o:Nat)(c:Ck):World:=((((((((W.setCell ⟨g,o,none⟩ (.string c.n)).setCell ⟨g,o+1,none⟩ (.string c.v)).setCell ⟨g,o+2,none⟩ (.string c.d)).setCell ⟨g,o+3,none⟩ (.string c.p)).setCell ⟨g,o+4,none⟩ (.bool c.ho)).setCell ⟨g,o+5,none⟩ (.bool c.se)).setCell ⟨g,o+6,none⟩ (.bool c.hi)).setCell ⟨g,o+7,none⟩ (.int .i64 c.ex)).setCell ⟨g,o+8,none⟩ (.int .i64 c.cr)
theorem own_put9 {w:World}{b e g cap:Nat}{l:List Ck}(h:w.ownsRow b e 9 (.slice (some ⟨g,0,none⟩) l.length cap) l.length (cellsK ckL l))(k:Nat)(hk:k<l.length)(c:Ck):
 (put9 w g (k * 9) c).ownsRow b e 9 (.slice (some ⟨g,0,none⟩) l.length cap) l.length (cellsK ckL (l.set k c)):=by
 have hb:∀ j,j<9->k * 9+j<l.length * 9:=fun j hj=>by omega
 have h9:=own_set (own_set (own_set (own_set (own_set (own_set (own_set (own_set (own_set h (k * 9+0) (.string c.n) (hb 0 (by omega))) (k * 9+1) (.string c.v) (hb 1 (by omega))) (k * 9+2) (.string c.d) (hb 2 (by omega))) (k * 9+3) (.string c.p) (hb 3 (by omega))) (k * 9+4) (.bool c.ho) (hb 4 (by omega))) (k * 9+5) (.bool c.se) (hb 5 (by omega))) (k * 9+6) (.bool c.hi) (hb 6 (by omega))) (k * 9+7) (.int .i64 c.ex) (hb 7 (by omega))) (k * 9+8) (.int .i64 c.cr) (hb 8 (by omega))
 have hA:(cellsK ckL (l.take k)).length=k * 9:=by rw [cellsK_len ckL_len,List.length_take,Nat.min_eq_left (by omega)]
 have hx:=set9_mid (cellsK ckL (l.take k)) (cellsK ckL (l.drop (k+1))) (k * 9) hA (.string l[k].n) (.string l[k].v) (.string l[k].d) (.string l[k].p) (.bool l[k].ho) (.bool l[k].se) (.bool l[k].hi) (.int .i64 l[k].ex) (.int .i64 l[k].cr) (.string c.n) (.string c.v) (.string c.d) (.string c.p) (.bool c.ho) (.bool c.se) (.bool c.hi) (.int .i64 c.ex) (.int .i64 c.cr)
 have hy:cellsK ckL (l.set k c)=cellsK ckL (l.take k) ++ (ckL c ++ cellsK ckL (l.drop (k+1))):=by
  rw [cellsK_split (l.set k c) k (by simpa using hk)]
  simp [List.take_set_of_le,List.drop_set_of_lt]
 rw [hy,<-hx,<-cellsK_split l k hk]
 exact h9
end Go.Proofs.YtjdhaacmlpegoaaGreatDoor
namespace Go.Proofs.YtjdhaacmlpegoaaGreatDoor
set_option linter.unusedVariables false
set_option linter.unusedSimpArgs false
open Go.RowKit
end Go.Proofs.YtjdhaacmlpegoaaGreatDoor
namespace Go.Proofs.YtjdhaacmlpegoaaGreatDoor
set_option linter.unusedVariables false
set_option linter.unusedSimpArgs false
open Go.RowKit
end Go.Proofs.YtjdhaacmlpegoaaGreatDoor
namespace Go.Proofs.YtjdhaacmlpegoaaGreatDoor
set_option linter.unusedVariables false
set_option linter.unusedSimpArgs false
open Go.RowKit
theorem own_setCells {b e s n g cap:Nat}:∀ (vs:List Value) (o:Nat) (w:World) (xs:List Value),w.ownsRow b e s (.slice (some ⟨g,0,none⟩) n cap) n xs->o+vs.length<=n * s ->
 ∃ xs',(w.setCells g o vs).ownsRow b e s (.slice (some ⟨g,0,none⟩) n cap) n xs'/\xs'.take o=xs.take o:=by
 intro vs
 induction vs with
 | nil=>intro o w xs h _;exact ⟨xs,h,rfl⟩
 | cons v r ih=>
   intro o w xs h ho
   rw [List.length_cons] at ho
   obtain ⟨xs',h1,h2⟩:=ih (o+1) _ _ (own_set h o v (by omega)) (by omega)
   refine ⟨xs',h1,?_⟩
   have h3:=congrArg (List.take o) h2
   rw [List.take_take,List.take_take,Nat.min_eq_left (by omega),List.take_set,List.set_eq_of_length_le (by simp;omega)] at h3
   exact h3
theorem own_cut {w:World}{b e s n g cap:Nat}{xs:List Value}(h:w.ownsRow b e s (.slice (some ⟨g,0,none⟩) n cap) n xs)(m:Nat)(hm:m<=n):
 w.ownsRow b e s (.slice (some ⟨g,0,none⟩) m cap) m (xs.take (m * s)):=by
 obtain ⟨h1,h2⟩:=h
 have hms:m * s<=n * s:=Nat.mul_le_mul_right s hm
 refine ⟨by rw [List.length_take,h1,Nat.min_eq_left hms],.inr ?_⟩
 rcases h2 with ⟨h2,_⟩ | ⟨g',cap',cur,hv,hg,hh,hc,hcm,hs,ht⟩
 ·cases h2
 ·injection hv with e1 e2 e3
  injection e1 with e1
  injection e1 with e1
  subst e1 e3
  exact ⟨g,cap,cur,rfl,hg,hh,Nat.le_trans hm hc,hcm,hs,by rw [<-ht,List.take_take,Nat.min_eq_left hms]⟩
theorem run_clearK {P:Program}(w:World)(t e ty:TypeId)(z:Value)(k:Nat)(ht:P.underlying t=some (.slice e))(hv:∀ w,(zeroValue e).run P w = .ok z w)(hz:z.cells.size=k)(h1:∀ v∈z.cells.toList,v.oneCell'=true)(b o n c:Nat)(hn:0<n)(hk:0<k)
 (hc:∀ j,j<n * k->(w.cell? ⟨b,o+j,none⟩).isSome=true) (hf:∀ j,j<n * k->w.frozen? ⟨b,o+j,none⟩=false) :
 ∃ vs:List Value,vs.length=n * k/\(Builtin.clear_ #[t] ty #[.slice (some ⟨b,o,none⟩) n c]).run P w = .ok (.tuple #[]) (w.setCells b o vs):=by
 refine ⟨(Builtin.zeroCells z.cells n).toList,by simp [Builtin.zeroCells,hz],?_⟩
 have hl:(Builtin.zeroCells z.cells n).toList.length=n * k:=by simp [Builtin.zeroCells,hz]
 have hst:=run_storeCells_cells (P:=P) b o (Builtin.zeroCells z.cells n).toList 0 w (by rw [hl];simpa using hc) (by rw [hl];simpa using hf) (by
  intro v hv'
  simp only [Builtin.zeroCells,Array.toList_map,List.mem_map] at hv'
  obtain ⟨i,_,rfl⟩:=hv'
  have hi:i % z.cells.size<z.cells.size:=Nat.mod_lt _ (by omega)
  rw [getElem!_pos z.cells _ hi]
  exact h1 _ (by simp))
 simp only [Nat.add_zero] at hst
 obtain ⟨m,rfl⟩:∃ m,n=m+1:=⟨n - 1,by omega⟩
 simp [Builtin.clear_,run_underlying ht,hv,hst]
end Go.Proofs.YtjdhaacmlpegoaaGreatDoor
namespace Go.Proofs.YtjdhaacmlpegoaaGreatDoor
set_option linter.unusedVariables false
set_option linter.unusedSimpArgs false
open Go.RowKit
theorem zero_run {P:Program}{t:TypeId}{z:Value}(h:(P.info? t).map (fun i=>i.zero)=some (some z))(w:World):(zeroValue t).run P w = .ok z w:=by
 cases hi:P.info? t with
 | none=>rw [hi] at h;cases h
 | some i=>
   rw [hi] at h
   have hz:i.zero=some z:=by simpa using h
   simp [zeroValue,typeInfo,hi,hz]
theorem BelowBut.setCells {B b:Nat}{W:World}:∀ (vs:List Value) (o:Nat) (w:World),BelowBut B b W w->BelowBut B b W (w.setCells b o vs):=by
 intro vs
 induction vs with
 | nil=>intro o w h;exact h
 | cons v r ih=>intro o w h;exact ih (o+1) _ (h.setCell ⟨b,o,none⟩ (Or.inl rfl) v)
end Go.Proofs.YtjdhaacmlpegoaaGreatDoor
namespace Go.Proofs.YtjdhaacmlpegoaaGreatDoor
set_option linter.unusedVariables false
set_option linter.unusedSimpArgs false
open Go.RowKit
theorem BelowBut.setRow {B b:Nat}{W w:World}(h:BelowBut B b W w)(cs:Array Value):BelowBut B b W (w.setRow b cs):=by
 refine ⟨h.os,h.tape,h.output,by simp [World.setRow];exact h.size,fun k hk hb=>Eq.trans ?_ (h.block k hk hb)⟩
 show (w.heap.modify b _)[k]? = _
 rw [Array.getElem?_modify,if_neg (fun e=>hb e.symm)]
end Go.Proofs.YtjdhaacmlpegoaaGreatDoor
