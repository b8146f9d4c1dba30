/- Part 5 of what the proof needs: B8 B9. -/
import Derived.Shelf.SlicesQ.IndexFunc
import Derived.Test.YtjdhaacmlpegoaaGreatDoorU04
import Derived.Deep.AppendLies
set_option linter.unusedSimpArgs false
set_option linter.unusedVariables false
namespace Go.Proofs.YtjdhaacmlpegoaaGreatDoor
open Go.RowKit
structure Ck where
 n:ByteArray
 v:ByteArray
 d:ByteArray
 p:ByteArray
 ho:Bool
 se:Bool
 hi:Bool
 ex:Int
 cr:Int
abbrev ckL (c:Ck):List Value:=[.string c.n,.string c.v,.string c.d,.string c.p,.bool c.ho,.bool c.se,.bool c.hi,.int .i64 c.ex,.int .i64 c.cr]
abbrev ckA (c:Ck):Value:=.agg #[.string c.n,.string c.v,.string c.d,.string c.p,.bool c.ho,.bool c.se,.bool c.hi,.int .i64 c.ex,.int .i64 c.cr]
abbrev ck0:Ck:=⟨⟨#[]⟩,⟨#[]⟩,⟨#[]⟩,⟨#[]⟩,false,false,false,0,0⟩
def bs (l:List UInt8):ByteArray:=⟨l.toArray⟩
theorem bs_list (l:List UInt8):(bs l).data.toList=l:=rfl
theorem bs_size (l:List UInt8):(bs l).size=l.length:=by rw [<-size_len];rfl
theorem bs_of {t:ByteArray}{l:List UInt8}(h:t.data.toList=l):t=bs l:=ba_ext' h
abbrev maxageL:List UInt8:=[109,97,120,45,97,103,101]
abbrev domainL:List UInt8:=[100,111,109,97,105,110]
abbrev pathwL:List UInt8:=[112,97,116,104]
abbrev secureL:List UInt8:=[115,101,99,117,114,101]
abbrev hidL:List UInt8:=[104,116,116,112,111,110,108,121]
def undot (l:List UInt8):List UInt8:=if Lib.hasPrefix l [46]=true then l.drop 1 else l
def attrC (host path:ByteArray)(now:Int)(c:Ck)(name value:List UInt8):Ck:=
 if name=maxageL then (match ageL value with | some n=>{ c with ex:=clockI now+n * 1000 } | none=>c)
 else if name=domainL then (if lowL (undot value)=[] then { c with d:=host,ho:=true } else { c with d:=bs (lowL (undot value)),ho:=false })
 else if name=pathwL then { c with p:=if Lib.hasPrefix value [47]=true then bs value else path }
 else if name=secureL then { c with se:=true }
 else if name=hidL then { c with hi:=true }
 else c
def stepC (host path:ByteArray)(now:Int)(c:Ck)(part:List UInt8):Ck:=attrC host path now c (lowL (trimC (pre 61 part))) (trimC (post 61 part))
def ctlB (b:UInt8):Bool:=decide (b.toNat<32) && b != 9 || b == 127
def ctlL (l:List UInt8):Bool:=l.any ctlB
def firstC (host path:ByteArray)(part:List UInt8):Ck:=⟨bs (trimC (pre 61 part)),bs (trimC (post 61 part)),host,path,true,false,false,-1,0⟩
def lastC (host scheme:List UInt8)(c:Ck):Ck × Int:=
 if domL host c.d.data.toList=false\/(c.d.data.toList≠host/\c.d.data.toList.contains 46=false) then (ck0,15)
 else if c.se=true/\scheme≠httpsL then (ck0,7)
 else (c,0)
def parseC (field:List UInt8)(ok:Bool)(scheme host path:ByteArray)(now:Int):Ck × Int:=
 if ok=false then (ck0,7)
 else match segs 59 field with
  | []=>(ck0,4)
  | p0 :: ps=>
    if p0.contains 61=false\/trimC (pre 61 p0)=[]\/ctlL field=true then (ck0,4)
    else lastC host.data.toList scheme.data.toList (ps.foldl (stepC host (bs (defpL path.data.toList)) now) (firstC host (bs (defpL path.data.toList)) p0))
def resC (r:Ck × Int):Value:=.tuple #[ckA r.1,.int .i64 r.2]
def ctlN (n:Nat):Bool:=decide (n<32) && decide (n≠9) || decide (n=127)
theorem ctlN_lt (n:Nat)(h:ctlN n=true):n<128:=by unfold ctlN at h;simp only [Bool.or_eq_true,Jh,Jb] at h;omega
theorem ctlB_is (b:UInt8):ctlB b=ctlN b.toNat:=by
 unfold ctlB ctlN;have e1:(b != 9)=decide (b.toNat≠9):=by rw [Zm,bne_iff_ne,Jb];exact ⟨fun h e=>h (UInt8.toNat_inj.1 e),fun h e=>h (by rw [e];rfl)⟩
 have e2:(b == 127)=decide (b.toNat=127):=by rw [Zm,Ju,Jb];exact ⟨fun h=>by rw [h];rfl,fun h=>UInt8.toNat_inj.1 h⟩
 rw [e1,e2]
theorem dec_cases (s:ByteArray)(i:Nat):
 ((s.get! i).toNat<128/\Utf8.decode s i=((s.get! i).toNat,1))\/(128<=(s.get! i).toNat/\128<=(Utf8.decode s i).1/\1<=(Utf8.decode s i).2/\∀ k,1<=k->k<(Utf8.decode s i).2->i+k<s.size/\128<=(s.get! (i+k)).toNat):=by
 by_cases h0:(s.get! i).toNat<128
 ·left;refine ⟨h0,?_⟩;unfold Utf8.decode;simp only [Ku];rw [Kf h0]
 ·right;refine ⟨by omega,?_⟩;have cc:∀ k,(decide (i+k<s.size) && ((s.get! (i+k)).toNat / 64 == 2))=true->i+k<s.size/\128<=(s.get! (i+k)).toNat:=fun k h=>by simp only [Jh,Jb,Ju] at h;omega
  unfold Utf8.decode;simp only [Ku];rw [Ke h0];split
  ·next h=>
   simp only [Jh] at h;have c1:=cc 1 (by simp only [Jh];exact h.2);split
   ·next h2=>
    refine ⟨h2,by simp,fun k hk1 hk2=>?_⟩;simp only at hk2;obtain rfl:k=1:=by omega
    exact c1
   ·exact ⟨by decide,by omega,fun k hk1 hk2=>by simp at hk2;omega⟩
  ·split
   ·next h=>
    simp only [Jh] at h;have c1:=cc 1 (by simp only [Jh];exact h.1.2);have c2:=cc 2 (by simp only [Jh];exact h.2);split
    ·next h2=>
     simp only [Jh,Jb] at h2;refine ⟨by simp only;omega,by simp,fun k hk1 hk2=>?_⟩;simp only at hk2;rcases (by omega:k=1\/k=2) with rfl | rfl
     ·exact c1
     ·exact c2
    ·exact ⟨by decide,by omega,fun k hk1 hk2=>by simp at hk2;omega⟩
   ·split
    ·next h=>
     simp only [Jh] at h;have c1:=cc 1 (by simp only [Jh];exact h.1.1.2);have c2:=cc 2 (by simp only [Jh];exact h.1.2);have c3:=cc 3 (by simp only [Jh];exact h.2);split
     ·next h2=>
      simp only [Jh,Jb] at h2;refine ⟨by simp only;omega,by simp,fun k hk1 hk2=>?_⟩;simp only at hk2;rcases (by omega:k=1\/k=2\/k=3) with rfl | rfl | rfl
      ·exact c1
      ·exact c2
      ·exact c3
     ·exact ⟨by decide,by omega,fun k hk1 hk2=>by simp at hk2;omega⟩
    ·exact ⟨by decide,by omega,fun k hk1 hk2=>by simp at hk2;omega⟩
theorem get_at (s:ByteArray)(i:Nat)(h:i<s.size):s.get! i=s[i]:=by show s.data[i]! = _;rw [getElem!_pos s.data i h];rfl
theorem ctl_skip (s:ByteArray):∀ (n i:Nat),i+n<=s.size->(∀ k,k<n->128<=(s.get! (i+k)).toNat)->(s.data.toList.drop i).any ctlB=(s.data.toList.drop (i+n)).any ctlB:=by
 intro n
 induction n with
 | zero=>intro i _ _;rfl
 | succ n ih=>
   intro i h1 h2
   have hi:i<s.size:=by omega
   have h3:=h2 0 (by omega)
   rw [Ku,get_at s i hi] at h3
   have h4:ctlB s[i]=false:=by
    cases e:ctlB s[i] with
    | false=>rfl
    | true=>rw [ctlB_is] at e;have:=ctlN_lt _ e;omega
   rw [drop_at s i hi,List.any_cons,h4,Bool.false_or,ih (i+1) (by omega) (fun k hk=>by have:=h2 (k+1) (by omega);rwa [show i+(k+1)=i+1+k by omega] at this)]
   congr 2;omega
def SlK {α:Type}(enc:α->List Value)(k:Nat)(w:World)(v:Value)(l:List α):Prop:=
 (l=[]/\∃ a cap,v = .slice a 0 cap/\cap<=maxLen)\/(l≠[]/\∃ b off cap,v = .slice (some ⟨b,off,none⟩) l.length cap/\l.length<=cap/\cap<=maxLen/\b<w.heap.size/\∀ i (h:i<l.length) j u,(enc l[i])[j]? = some u->w.cell? ⟨b,off+i * k+j,none⟩=some u)
theorem SlK.below {α:Type}{enc:α->List Value}{k:Nat}{w w':World}{v:Value}{l:List α}{B:Nat}(h:SlK enc k w v l)(hb:Below B w w')(hB:w.heap.size<=B):SlK enc k w' v l:=by
 rcases h with h | ⟨h0,b,off,cap,h1,h2,h3,h4,h5⟩
 ·exact .inl h
 ·exact .inr ⟨h0,b,off,cap,h1,h2,h3,Ko h4 hb.size,fun i hi j u hu=>(hb.cell (p:=⟨b,off+i * k+j,none⟩) (by show b<B;omega)).trans (h5 i hi j u hu)⟩
theorem SlK.shape {α:Type}{enc:α->List Value}{k:Nat}{w:World}{v:Value}{l:List α}(h:SlK enc k w v l):∃ a cap,v = .slice a l.length cap/\cap<=maxLen:=by
 rcases h with ⟨rfl,a,cap,h1,h2⟩ | ⟨h0,b,off,cap,h1,h2,h3,h4,h5⟩
 ·exact ⟨a,cap,h1,h2⟩
 ·exact ⟨_,cap,h1,h3⟩
def cellsK {α:Type}(enc:α->List Value)(l:List α):List Value:=l.flatMap enc
theorem cellsK_len {α:Type}{enc:α->List Value}{k:Nat}(hk:∀ x,(enc x).length=k)(l:List α):(cellsK enc l).length=l.length * k:=by
 unfold cellsK
 induction l with
 | nil=>simp
 | cons x l ih=>rw [List.flatMap_cons,Kw,ih,hk,Kv,Nat.add_mul];omega
theorem cellsK_app {α:Type}(enc:α->List Value)(a b:List α):cellsK enc (a ++ b)=cellsK enc a ++ cellsK enc b:=by simp [cellsK]
theorem cellsK_get {α:Type}{enc:α->List Value}{k:Nat}(hk:∀ x,(enc x).length=k):∀ (l:List α) (i:Nat) (h:i<l.length) (j:Nat) (u:Value),(enc l[i])[j]? = some u->(cellsK enc l)[i * k+j]? = some u:=by
 intro l
 induction l with
 | nil=>intro i h;simp at h
 | cons x l ih=>
   intro i h j u hu
   have hj:∀ y,(enc y)[j]? = some u->j<k:=fun y hy=>by have:=(Xi.1 hy).1;rwa [hk] at this
   unfold cellsK
   rw [List.flatMap_cons]
   cases i with
   | zero=>
     simp only [List.getElem_cons_zero] at hu
     rw [Nat.zero_mul,Jm,List.getElem?_append_left (by rw [hk];exact hj _ hu)]
     exact hu
   | succ i=>
     simp only [List.getElem_cons_succ] at hu
     rw [Nat.add_mul,Nat.one_mul,List.getElem?_append_right (by rw [hk];omega),hk,show i * k+k+j - k=i * k+j by omega]
     exact ih i (by simpa using h) j u hu
theorem SlK.of_own {α:Type}{enc:α->List Value}{k:Nat}(hk:∀ x,(enc x).length=k){w:World}{b e:Nat}{v:Value}{l:List α}(h:w.ownsRow b e k v l.length (cellsK enc l)):SlK enc k w v l:=by
 obtain ⟨a,cap,hv,hc,hm,ha⟩:=own_reads h;by_cases hl:l=[]
 ·subst hl;exact .inl ⟨rfl,a,cap,hv,hm⟩
 ·rcases ha with ⟨rfl,h0⟩ | ⟨g,rfl,hg,hgw,hcell⟩
  ·exact absurd (Ja h0) hl
  ·refine .inr ⟨hl,g,0,cap,hv,hc,hm,hgw,fun i hi j u hu=>?_⟩;rw [Jm];exact hcell _ _ (cellsK_get hk l i hi j u hu)
def idxI {α:Type}(p:α->Bool)(l:List α):Int:=if l.any p then (l.findIdx p:Nat) else -1
theorem idxI_hit {α:Type}(p:α->Bool)(l:List α)(k:Nat)(hk:k<l.length)(h:p l[k]=true)(hb:∀ j (hj:j<k),p (l[j]'(by omega))=false):idxI p l=k:=by
 unfold idxI;have h1:l.findIdx p=k:=by rw [List.findIdx_eq hk];exact ⟨h,fun j hj=>hb j hj⟩
 rw [Kf (List.any_eq_true.2 ⟨l[k],Ky hk,h⟩),h1]
theorem idxI_miss {α:Type}(p:α->Bool)(l:List α)(h:∀ j (hj:j<l.length),p l[j]=false):idxI p l = -1:=by unfold idxI;rw [Ke];rw [List.any_eq_true];rintro ⟨x,hx,hp⟩;obtain ⟨j,hj,rfl⟩:=Xe hx;rw [h j hj] at hp;cases hp
theorem ckL_len (c:Ck):(ckL c).length=9:=rfl
def exB (c:Ck)(now:Int):Bool:=decide (0<=c.ex) && decide (c.ex<=clockI now)
def sameB (c d:Ck):Bool:=(c.n.toList == d.n.toList) && (c.d.toList == d.d.toList) && (c.p.toList == d.p.toList)
theorem brl {B:Nat}{w0 w1:World}(hb:Below B w0 w1):∀ b o,b<B->w1.cell? ⟨b,o,none⟩=w0.cell? ⟨b,o,none⟩:=fun b o h=>hb.cell (p:=⟨b,o,none⟩) h
def takesB (u:U6):Bool:=validB u && !(u.1 == aboutL)
abbrev urlA (a b c d e f:ByteArray):Value:=.agg #[.string a,.string b,.string c,.string d,.string e,.string f]
abbrev urlL (a b c d e f:ByteArray):List Value:=[.string a,.string b,.string c,.string d,.string e,.string f]
abbrev u6 (a b c d e f:ByteArray):U6:=(a.data.toList,b.data.toList,c.data.toList,d.data.toList,e.data.toList,f.data.toList)
structure USize (n:Nat)(a b c d e f:ByteArray):Prop where
 a:a.size<=n
 b:b.size<=n
 c:c.size<=n
 d:d.size<=n
 e:e.size<=n
 f:f.size<=n
theorem neq_about (a:ByteArray):(a.toList != aboutL) = !(a.data.toList == aboutL):=by rw [Kt];rfl
theorem AtL.grown {w w':World}{k:Nat}{vs:List Value}{row:Option Nat}(h:AtL w k vs)(hg:w.grownBy w' row)(hr:row≠some k):AtL w' k vs:=by have hh:=hg.block k h.1 (fun e=>hr e.symm);exact ⟨Ko h.1 hg.size,fun j v hv=>⟨(World.cell?_of_block (w:=w) hh).trans (h.c j hv),(World.frozen?_of_block (w:=w) hh).trans (h.f j hv)⟩⟩
theorem atL_drewk {w wA:World}{vs:List Value}(h:AtL w wA.drew.heap.size vs):AtL w wA.heap.size vs:=h
theorem own_fresh {w:World}{b e s n:Nat}{v:Value}{xs:List Value}(h:w.ownsRow b e s v n xs):v.ownBlock≠some w.heap.size:=by
 rcases h.2 with ⟨rfl,_⟩ | ⟨g,cap,cur,rfl,hg,hh,_⟩
 ·simp [Value.ownBlock]
 ·intro e;simp only [Value.ownBlock,Js] at e;have:=(Xq.1 hh).1;omega
theorem own_eq {w:World}{b e s n n':Nat}{v:Value}{xs xs':List Value}(h:w.ownsRow b e s v n xs)(hn:n=n')(hx:xs=xs'):w.ownsRow b e s v n' xs':=by subst hn hx;exact h
def S10 (jb K:Nat)(v:Value)(c:Ck)(wa w':World):Prop:=w'.cell? ⟨jb,0,none⟩=some v/\w'.cell? ⟨K,0,none⟩=some (.string c.n)/\w'.cell? ⟨K,1,none⟩=some (.string c.v)/\w'.cell? ⟨K,2,none⟩=some (.string c.d)/\w'.cell? ⟨K,3,none⟩=some (.string c.p)/\w'.cell? ⟨K,4,none⟩=some (.bool c.ho)/\w'.cell? ⟨K,5,none⟩=some (.bool c.se)/\w'.cell? ⟨K,6,none⟩=some (.bool c.hi)/\w'.cell? ⟨K,7,none⟩=some (.int .i64 c.ex)/\w'.cell? ⟨K,8,none⟩=some (.int .i64 c.cr)/\Below wa.heap.size wa w'
theorem s10_start {jb K:Nat}{v nx:Value}{c:Ck}{wa:World}(hj:AtL wa jb [v,nx])(hk:AtL wa K (ckL c)):S10 jb K v c wa wa:=
 ⟨hj.c 0 rfl,hk.c 0 rfl,hk.c 1 rfl,hk.c 2 rfl,hk.c 3 rfl,hk.c 4 rfl,hk.c 5 rfl,hk.c 6 rfl,hk.c 7 rfl,hk.c 8 rfl,Kc _⟩
theorem s10_next {jb K:Nat}{v:Value}{c:Ck}{wa wX w3:World}(hj:jb<wa.heap.size)(hk:K<wa.heap.size)(h:S10 jb K v c wa wX)(h3:Below wX.heap.size wX w3):S10 jb K v c wa w3:=by obtain ⟨a0,a1,a2,a3,a4,a5,a6,a7,a8,a9,hb⟩:=h;have h1:=Ko hj hb.size;have h2:=Ko hk hb.size;have r:=brl h3;exact ⟨(r jb 0 h1).trans a0,(r K 0 h2).trans a1,(r K 1 h2).trans a2,(r K 2 h2).trans a3,(r K 3 h2).trans a4,(r K 4 h2).trans a5,(r K 5 h2).trans a6,(r K 6 h2).trans a7,(r K 7 h2).trans a8,(r K 8 h2).trans a9,hb.trans (h3.mono hb.size)⟩
theorem s10_below {jb K:Nat}{v:Value}{c:Ck}{wa wX:World}(h:S10 jb K v c wa wX):Below wa.heap.size wa wX:=h.2.2.2.2.2.2.2.2.2.2
theorem grownBy_of_drew {w w':World}{row:Option Nat}(h:w.drew.grownBy w' row):w.grownBy w' row:=⟨h.os,h.tape,h.output,h.size,h.block⟩
theorem step_app {P:Program}{T E size bytes:Nat}(ty:SlTy P T E size bytes)(W0:World){ops:Array Oper}{o:Oper}{a:Act}{K:Act->World->Prop}{Q:Exit->Act->World->Prop}{Ep:Prop}
 (hgd:o.guard=none) (s x:Operand) (ho:o.op = .call { callee:=.builtin .append,args:=#[s,x],argTypes:=#[T,T] })
 (B:Nat) (v:Value) (n:Nat) (xs:List Value) (hs:a.eval s=v) (hown:W0.ownsRow B E size v n xs) (news:List Value) (m:Nat)
 (kk:Nat) (hx:a.eval x = .slice (some ⟨kk,0,none⟩) m m) (hkk:kk=W0.heap.size) (hl:news.length=m * size) (h1:∀ u∈news,u.oneCell'=true)
 (hm:0<m) (hb:(n+m) * bytes<=140737488355328) (hn:n+m<=140737488355328) (hB:B<=W0.heap.size)
 (h:∀ g cap w',w'.ownsRow B E size (.slice (some ⟨g,0,none⟩) (n+m) cap) (n+m) (xs ++ news)->W0.grownBy w' v.ownBlock->(v.ownBlock=some g\/g=W0.heap.size+1)->g<w'.heap.size->K (a.put o.dst (.slice (some ⟨g,0,none⟩) (n+m) cap)) w') :
 if Region.wanted o (yielded ops a.tmps)=true then Oper.wp P o a (W0.alloc (.cells news.toArray E)).drew K Q else Ep:=by
 subst hkk;obtain ⟨hu,⟨i,z,hi,hz,h2,h3,h4⟩,hp⟩:=ty
 exact step_append_lies _ hgd s x T ho B E i z size bytes hu hi hz h2 h3 h4 hp v n xs hs (hown.alloc _).drew ⟨W0.heap.size,0,none⟩ m m news hx hl (fun j u hu=>cells_new W0 news E j u hu) h1 hm (by unfold maxLen;omega) hb (by simp;omega) (W0.heap.size+1) (by simp)
  fun g cap w' a1 a2 a3 a4=>h g cap w' a1 (grownBy_trans_alloc (grownBy_of_drew a2)) a3 a4
theorem one9 (c:Ck):∀ u∈ckL c,u.oneCell'=true:=by intro u hu;simp at hu;rcases hu with rfl | rfl | rfl | rfl | rfl | rfl | rfl | rfl | rfl <;> rfl
def S2 (jb K:Nat)(v:Value)(c:Ck)(w':World):Prop:=w'.cell? ⟨jb,0,none⟩=some v/\w'.cell? ⟨K,0,none⟩=some (.string c.n)/\w'.cell? ⟨K,1,none⟩=some (.string c.v)/\w'.cell? ⟨K,2,none⟩=some (.string c.d)/\w'.cell? ⟨K,3,none⟩=some (.string c.p)/\w'.cell? ⟨K,4,none⟩=some (.bool c.ho)/\w'.cell? ⟨K,5,none⟩=some (.bool c.se)/\w'.cell? ⟨K,6,none⟩=some (.bool c.hi)/\w'.cell? ⟨K,7,none⟩=some (.int .i64 c.ex)/\w'.cell? ⟨K,8,none⟩=some (.int .i64 c.cr)
theorem s2_start {jb K:Nat}{v nx:Value}{c:Ck}{wa:World}(hj:AtL wa jb [v,nx])(hk:AtL wa K (ckL c)):S2 jb K v c wa:=
 ⟨hj.c 0 rfl,hk.c 0 rfl,hk.c 1 rfl,hk.c 2 rfl,hk.c 3 rfl,hk.c 4 rfl,hk.c 5 rfl,hk.c 6 rfl,hk.c 7 rfl,hk.c 8 rfl⟩
theorem s2_of {jb K:Nat}{v:Value}{c:Ck}{w w':World}(h:S2 jb K v c w)(r:∀ b o u,b=jb\/b=K->w.cell? ⟨b,o,none⟩=some u->w'.cell? ⟨b,o,none⟩=some u):S2 jb K v c w':=by obtain ⟨a0,a1,a2,a3,a4,a5,a6,a7,a8,a9⟩:=h;exact ⟨r _ _ _ (.inl rfl) a0,r _ _ _ (.inr rfl) a1,r _ _ _ (.inr rfl) a2,r _ _ _ (.inr rfl) a3,r _ _ _ (.inr rfl) a4,r _ _ _ (.inr rfl) a5,r _ _ _ (.inr rfl) a6,r _ _ _ (.inr rfl) a7,r _ _ _ (.inr rfl) a8,r _ _ _ (.inr rfl) a9⟩
theorem s2_drew {jb K:Nat}{v:Value}{c:Ck}{w:World}(h:S2 jb K v c w):S2 jb K v c w.drew:=h
structure RowBut (n jb:Nat)(o:Option Nat)(w w':World):Prop where
 os:w'.os=w.os
 tape:w'.tape=w.tape
 output:w'.output=w.output
 size:w.heap.size<=w'.heap.size
 block:∀ k,k<n->k≠jb->o≠some k->w'.heap[k]? = w.heap[k]?
theorem RowBut.refl (n jb:Nat)(o:Option Nat)(w:World):RowBut n jb o w w:=⟨rfl,rfl,rfl,lr,fun _ _ _ _=>rfl⟩
theorem RowBut.below {n jb B':Nat}{o:Option Nat}{W w w':World}(h:RowBut n jb o W w)(k:Below B' w w')(hB:n<=B'):RowBut n jb o W w':=
 ⟨k.os.trans h.os,k.tape.trans h.tape,k.output.trans h.output,Kg h.size k.size,fun i hi hb ho=>(k.block i (by omega)).trans (h.block i hi hb ho)⟩
theorem RowBut.setCell {n jb:Nat}{o:Option Nat}{W w:World}(h:RowBut n jb o W w)(p:Addr)(hp:p.block=jb\/o=some p.block\/n<=p.block)(u:Value):RowBut n jb o W (w.setCell p u):=
 ⟨h.os,h.tape,h.output,by simp [World.setCell];exact h.size,fun k hk hb ho=>by
  have hne:k≠p.block:=by
   rcases hp with hp | hp | hp
   ·omega
   ·exact fun e=>ho (by rw [hp,e])
   ·omega
  exact (Below.heap_setCell w p u k hne).trans (h.block k hk hb ho)⟩
theorem RowBut.grown {n jb:Nat}{o:Option Nat}{W w w':World}(h:RowBut n jb o W w)(hg:w.grownBy w' o)(hn:n<=w.heap.size):RowBut n jb o W w':=
 ⟨hg.os.trans h.os,hg.tape.trans h.tape,hg.output.trans h.output,Kg h.size hg.size,fun k hk hb ho=>(hg.block k (by omega) (fun e=>ho e.symm)).trans (h.block k hk hb ho)⟩
theorem RowBut.mono {n n' jb:Nat}{o:Option Nat}{w w':World}(h:RowBut n jb o w w')(hn:n'<=n):RowBut n' jb o w w':=⟨h.os,h.tape,h.output,h.size,fun k hk=>h.block k (by omega)⟩
theorem RowBut.trans {n jb:Nat}{o:Option Nat}{W w w':World}(h:RowBut n jb o W w)(k:RowBut n jb o w w'):RowBut n jb o W w':=⟨k.os.trans h.os,k.tape.trans h.tape,k.output.trans h.output,Kg h.size k.size,fun x hx hb ho=>(k.block x hx hb ho).trans (h.block x hx hb ho)⟩
theorem own_base {w:World}{b e s n g:Nat}{v:Value}{xs:List Value}(h:w.ownsRow b e s v n xs)(ho:v.ownBlock=some g):b<=g:=by
 rcases h.2 with ⟨rfl,_⟩ | ⟨g',cap,cur,rfl,hg,_⟩
 ·simp [Value.ownBlock] at ho
 ·simp only [Value.ownBlock,Js] at ho;omega
theorem trimC_nil_bs (l:List UInt8):(bs (trimC l)).toList.isEmpty=decide (trimC l=[]):=by
 rw [Kt,bs_list]
 cases trimC l with
 | nil=>rfl
 | cons b r=>simp
theorem split_is (c:UInt8)(s:ByteArray)(hs:s.size<=1000000):∃ l:List ByteArray,lists l=segs c s.data.toList/\∀ w,MaxAt w->Calls Tryz.prog 115 #[.string s,.string ⟨#[c]⟩] w fun e w'=>e = .returned (.slice (some ⟨w.heap.size,0,none⟩) l.length l.length)/\w'=w.alloc (.cells (l.map Value.string).toArray 9):=by refine ⟨Lib.splitB ⟨#[c]⟩ 0 (Lib.countB s ⟨#[c]⟩) s,split_segs c _ s rfl,fun w hM=>?_⟩;obtain ⟨m,hm⟩:=hM;have cS:=Tryz.strings_Split s ⟨#[c]⟩ m w (by omega) hm (by show 1<=1;omega);have hsl:=Lib.splitB_all ⟨#[c]⟩ (Zf 1) 0 (Lib.countB s ⟨#[c]⟩) s rfl;rw [<-hsl] at cS;exact cS
theorem kind_cases (L:ByteArray):
 ((L.toList == maxageL)=true/\L.data.toList=maxageL)\/((L.toList == maxageL)=false/\(L.toList == domainL)=true/\L.data.toList=domainL) \/
 ((L.toList == maxageL)=false/\(L.toList == domainL)=false/\(L.toList == pathwL)=true/\L.data.toList=pathwL) \/
 ((L.toList == maxageL)=false/\(L.toList == domainL)=false/\(L.toList == pathwL)=false/\(L.toList == secureL)=true/\L.data.toList=secureL) \/
 ((L.toList == maxageL)=false/\(L.toList == domainL)=false/\(L.toList == pathwL)=false/\(L.toList == secureL)=false/\(L.toList == hidL)=true/\L.data.toList=hidL) \/
 ((L.toList == maxageL)=false/\(L.toList == domainL)=false/\(L.toList == pathwL)=false/\(L.toList == secureL)=false/\(L.toList == hidL)=false/\L.data.toList≠maxageL/\L.data.toList≠domainL/\L.data.toList≠pathwL/\L.data.toList≠secureL/\L.data.toList≠hidL):=by
 rw [Kt];by_cases h1:L.data.toList=maxageL
 ·exact .inl ⟨Ju.2 h1,h1⟩
 ·refine .inr ?_;by_cases h2:L.data.toList=domainL
  ·exact .inl ⟨Ki.2 h1,Ju.2 h2,h2⟩
  ·refine .inr ?_;by_cases h3:L.data.toList=pathwL
   ·exact .inl ⟨Ki.2 h1,Ki.2 h2,Ju.2 h3,h3⟩
   ·refine .inr ?_;by_cases h4:L.data.toList=secureL
    ·exact .inl ⟨Ki.2 h1,Ki.2 h2,Ki.2 h3,Ju.2 h4,h4⟩
    ·refine .inr ?_;by_cases h5:L.data.toList=hidL
     ·exact .inl ⟨Ki.2 h1,Ki.2 h2,Ki.2 h3,Ki.2 h4,Ju.2 h5,h5⟩
     ·exact .inr ⟨Ki.2 h1,Ki.2 h2,Ki.2 h3,Ki.2 h4,Ki.2 h5,h1,h2,h3,h4,h5⟩
theorem attr_max (h p:ByteArray)(now:Int)(c:Ck)(v:List UInt8)(n:Int)(hn:ageL v=some n):attrC h p now c maxageL v={ c with ex:=clockI now+n * 1000 }:=by unfold attrC;rw [Kf rfl,hn]
theorem attr_max0 (h p:ByteArray)(now:Int)(c:Ck)(v:List UInt8)(hn:ageL v=none):attrC h p now c maxageL v=c:=by unfold attrC;rw [Kf rfl,hn]
theorem attr_dom (h p:ByteArray)(now:Int)(c:Ck)(v:List UInt8):attrC h p now c domainL v=if lowL (undot v)=[] then { c with d:=h,ho:=true } else { c with d:=bs (lowL (undot v)),ho:=false }:=by unfold attrC;rw [Ke (by decide),Kf rfl]
theorem attr_path (h p:ByteArray)(now:Int)(c:Ck)(v:List UInt8):attrC h p now c pathwL v={ c with p:=if Lib.hasPrefix v [47]=true then bs v else p }:=by unfold attrC;rw [Ke (by decide),Ke (by decide),Kf rfl]
theorem attr_sec (h p:ByteArray)(now:Int)(c:Ck)(v:List UInt8):attrC h p now c secureL v={ c with se:=true }:=by unfold attrC;rw [Ke (by decide),Ke (by decide),Ke (by decide),Kf rfl]
theorem attr_hid (h p:ByteArray)(now:Int)(c:Ck)(v:List UInt8):attrC h p now c hidL v={ c with hi:=true }:=by unfold attrC;rw [Ke (by decide),Ke (by decide),Ke (by decide),Ke (by decide),Kf rfl]
theorem attr_no (h p:ByteArray)(now:Int)(c:Ck)(l v:List UInt8)(h1:l≠maxageL)(h2:l≠domainL)(h3:l≠pathwL)(h4:l≠secureL)(h5:l≠hidL):attrC h p now c l v=c:=by unfold attrC;rw [Ke h1,Ke h2,Ke h3,Ke h4,Ke h5]
theorem low_len (l:List UInt8):(lowL l).length=l.length:=by simp [lowL]
theorem undot_len (l:List UInt8):(undot l).length<=l.length:=by
 unfold undot;split
 ·simp
 ·exact lr
theorem pre_len' (c:UInt8)(l:List UInt8):(pre c l).length<=l.length:=(List.takeWhile_sublist _).length_le
theorem post_len' (c:UInt8)(l:List UInt8):(post c l).length<=l.length:=by unfold post;rw [Jy];have:=(Zw (p:=(· != c)) (l:=l)).length_le;omega
abbrev ck0V:List Value:=[.string ⟨#[]⟩,.string ⟨#[]⟩,.string ⟨#[]⟩,.string ⟨#[]⟩,.bool false,.bool false,.bool false,.int .i64 0,.int .i64 0]
theorem parseC_no (field:List UInt8)(s h p:ByteArray)(now:Int):parseC field false s h p now=(ck0,7):=by unfold parseC;rw [Kf rfl]
theorem parseC_yes (field:List UInt8)(s h p:ByteArray)(now:Int)(p0:List UInt8)(ps:List (List UInt8))(hs:segs 59 field=p0 :: ps):
 parseC field true s h p now=if p0.contains 61=false\/trimC (pre 61 p0)=[]\/ctlL field=true then (ck0,4)
  else lastC h.data.toList s.data.toList (ps.foldl (stepC h (bs (defpL p.data.toList)) now) (firstC h (bs (defpL p.data.toList)) p0)):=by unfold parseC;rw [Ke (by decide),hs]
theorem split_at (c:UInt8)(s:ByteArray)(hs:s.size<=1000000):∃ (q0:ByteArray) (qs:List ByteArray),lists (q0 :: qs)=segs c s.data.toList/\∀ w,MaxAt w->Calls Tryz.prog 115 #[.string s,.string ⟨#[c]⟩] w fun e w'=>e = .returned (.slice (some ⟨w.heap.size,0,none⟩) (q0 :: qs).length (q0 :: qs).length)/\Below w.heap.size w w'/\w.heap.size<w'.heap.size/\w'.cell? ⟨w.heap.size,0,none⟩=some (.string q0)/\∀ j (h:j<qs.length),w'.cell? ⟨w.heap.size,1+j,none⟩=some (.string qs[j]):=by
 obtain ⟨l,hl,hc⟩:=split_is c s hs
 cases l with
 | nil=>exact absurd hl.symm (segs_ne c _)
 | cons q0 qs=>
   refine ⟨q0,qs,hl,fun w hM=>(hc w hM).mono ?_⟩
   rintro e w' ⟨rfl,rfl⟩
   have hA:=AtL.new w ((q0 :: qs).map Value.string) 9
   refine ⟨rfl,(Kc w).alloc lr _,by simp,hA.c 0 rfl,fun j hj=>?_⟩
   have:=hA.c (1+j) (v:=.string qs[j]) (by rw [Nat.add_comm,Jw,Xl,Zh,Jd hj];rfl)
   exact this
theorem segs_sizes {c:UInt8}{s:ByteArray}{l:List ByteArray}(h:lists l=segs c s.data.toList):l.length<=s.size+1/\∀ p∈l,p.size<=s.size:=by
 constructor
 ·have h1:=segs_count c s.data.toList;rw [<-h,size_len] at h1;simpa [lists] using h1
 ·intro p hp;have:=segs_len c s.data.toList p.data.toList (by rw [<-h];exact Zc hp)
  rwa [size_len,size_len] at this
theorem MaxAt.keep {w w':World}{B:Nat}(h:MaxAt w)(hb:Below B w w')(hB:0<B):MaxAt w':=by obtain ⟨m,hm⟩:=h;exact ⟨m,(hb.cell (p:=⟨0,0,none⟩) hB).trans hm⟩
theorem MaxAt.lt {w:World}(h:MaxAt w):0<w.heap.size:=by obtain ⟨m,hm⟩:=h;exact cell_lt hm
theorem bs_data (V:ByteArray):bs V.data.toList=V:=ba_ext' rfl
theorem step_is (h p:ByteArray)(now:Int)(c:Ck)(l:List UInt8)(L V:ByteArray)(hL:L.data.toList=lowL (trimC (pre 61 l)))(hV:V.data.toList=trimC (post 61 l)):stepC h p now c l=attrC h p now c L.data.toList V.data.toList:=by unfold stepC;rw [hL,hV]
theorem s2_below {jb K:Nat}{v:Value}{c:Ck}{w w':World}(h:S2 jb K v c w)(hb:Below w.heap.size w w'):S2 jb K v c w':=s2_of h fun b o u _ hu=>(brl hb b o (cell_lt hu)).trans hu
theorem s2_set {jb K:Nat}{v:Value}{c:Ck}{w:World}(h:S2 jb K v c w)(hne:jb≠K):S2 jb K v c (w.setCell ⟨jb,0,none⟩ v):=s2_of h fun b o u hb hu=>by
 by_cases e:(⟨jb,0,none⟩:Addr)=⟨b,o,none⟩
 ·have e1:b=jb/\o=0:=by injection e with e1 e2;exact ⟨e1.symm,e2.symm⟩
  obtain ⟨rfl,rfl⟩:=e1
  have:some u=some v:=hu.symm.trans h.1
  injection this with this
  subst this
  exact World.cell?_setCell_same' w _ _ (by rw [hu];rfl)
 ·rw [World.cell?_setCell_other w _ _ v e];exact hu
def hitB (a b d:ByteArray)(now:Int)(c:Ck):Bool:=
 (if c.ho then c.d.toList == b.toList else domL b.data.toList c.d.data.toList) && !exB c now && pathL d.data.toList c.p.data.toList && (!c.se || a.toList == httpsL)
theorem take_hit (p:Ck->Bool)(l:List Ck)(k:Nat)(h:k<l.length)(y:Ck)(hy:l[k]=y)(b:Bool)(hb:p y=b):(l.take (k+1)).filter p=(l.take k).filter p ++ (if b then [y] else []):=by subst hy hb;rw [Jf h,Zs];cases hp:p l[k] <;> simp [hp]
theorem slS2:SlTy Tryz.prog 75 9 1 16:=.mk' (z:=.string ⟨#[]⟩) Tryz.underlying75 (by kernel_rfl) rfl (by decide)
def pairT (c:Ck):List UInt8:=c.n.data.toList ++ (61 :: c.v.data.toList)
theorem AtL.but {W W':World}{k B b:Nat}{vs:List Value}(h:AtL W k vs)(hb:BelowBut B b W W')(hk:k<B)(hkb:k≠b):AtL W' k vs:=by have hh:=hb.block k hk hkb;exact ⟨Ko h.1 hb.size,fun j v hv=>⟨(World.cell?_of_block (w:=W) hh).trans (h.c j hv),(World.frozen?_of_block (w:=W) hh).trans (h.f j hv)⟩⟩
theorem MaxAt.but {w w':World}{B b:Nat}(h:MaxAt w)(hb:BelowBut B b w w')(hB:0<B)(hne:0≠b):MaxAt w':=by obtain ⟨m,hm⟩:=h;exact ⟨m,(hb.cell (p:=⟨0,0,none⟩) hB hne).trans hm⟩
theorem own_zero (W0:World)(E size:Nat):(W0.alloc (.cells #[] E)).drew.ownsRow W0.heap.size E size (.slice (some ⟨W0.heap.size,0,none⟩) 0 0) 0 []:=by refine ⟨by simp,.inr ⟨W0.heap.size,0,#[],rfl,lr,?_,lr,by simp,by simp,by simp⟩⟩;show (W0.heap.push _)[W0.heap.size]? = _;simp
theorem N61{p:Prop}(h:p:=by
 have hst:∀ p:Addr,(storeCells p []).run P W = .ok () W:=fun p=>by simp [storeCells]
 have hrun:(Builtin.append_ #[T,T] o.type #[.slice (some ⟨b,0,none⟩) 0 0,.slice ad 0 c]).run P W = .ok (.slice (some ⟨b,0,none⟩) 0 0) W:=by simp [Builtin.append_,run_underlying hu,sizeOf,typeInfo,hi,Builtin.lenOf,hfc,hst]
 first
  |unfold Oper.wp;simp [execOp,ho,resolve,invoke,builtin,hs,hx,hrun,Result.andThen];exact h
  |refine wpList_plain hgd fun K hK=>?_;unfold Oper.wp execOp;simp only [ho,resolve,invoke,builtin,Sem.run_bind,Sem.run_pure,Result.andThen_ok,List.map_toArray,Jw,Zt,hs,hx,hrun];exact hK _ _ h
 ):p:=h
theorem M36{p:Prop}(h:p:=by
 cases ad with
 | none=>rfl
 | some ad=>exact run_firstCells_some (P:=P) W i.size 0 ad 0 c [] (by simp) (by simp)
 ):p:=h
theorem step_app00 {P:Program}{T E size bytes:Nat}(ty:SlTy P T E size bytes)(W:World){ops:Array Oper}{o:Oper}{a:Act}{K:Act->World->Prop}{Q:Exit->Act->World->Prop}{Ep:Prop}
 (hgd:o.guard=none) (s x:Operand) (ho:o.op = .call { callee:=.builtin .append,args:=#[s,x],argTypes:=#[T,T] }) (b:Nat) (ad:Option Addr) (c:Nat)
 (hs:a.eval s = .slice (some ⟨b,0,none⟩) 0 0) (hx:a.eval x = .slice ad 0 c)
 (h:K (a.put o.dst (.slice (some ⟨b,0,none⟩) 0 0)) W) :
 if Region.wanted o (yielded ops a.tmps)=true then Oper.wp P o a W K Q else Ep:=by
 obtain ⟨hu,⟨i,z,hi,hz,h2,h3,h4⟩,hp⟩:=ty;have hw:Region.wanted o (yielded ops a.tmps)=true:=by simp [Region.wanted,hgd]
 rw [Kf hw];have hfc:(Builtin.firstCells i.size 0 (.slice ad 0 c)).run P W = .ok #[] W:=by
  exact M36
 exact N61
theorem one9s (l:List Ck):∀ u∈cellsK ckL l,u.oneCell'=true:=by intro u hu;obtain ⟨c,_,hu⟩:=List.mem_flatMap.1 hu;exact one9 c u hu
theorem cellsK_inv {α:Type}{enc:α->List Value}{k:Nat}(hk:∀ x,(enc x).length=k):∀ (l:List α) (q:Nat) (u:Value),(cellsK enc l)[q]? = some u->∃ i,∃ h:i<l.length,∃ j,q=i * k+j/\(enc l[i])[j]? = some u:=by
 intro l
 induction l with
 | nil=>intro q u h;simp [cellsK] at h
 | cons x l ih=>
   intro q u h
   unfold cellsK at h
   rw [List.flatMap_cons] at h
   by_cases hq:q<(enc x).length
   ·rw [List.getElem?_append_left hq] at h
    exact ⟨0,by simp,q,by omega,h⟩
   ·rw [List.getElem?_append_right (by omega)] at h
    obtain ⟨i,hi,j,h1,h2⟩:=ih _ _ h
    refine ⟨i+1,by simpa using hi,j,?_,by simpa using h2⟩
    rw [hk] at h1 hq
    rw [Nat.add_mul]
    omega
theorem add_none (b off j:Nat):(⟨b,off,none⟩:Addr).add j=⟨b,off+j,none⟩:=by unfold Addr.add;split <;> simp_all
theorem own_set {w:World}{b e s n g cap:Nat}{xs:List Value}(h:w.ownsRow b e s (.slice (some ⟨g,0,none⟩) n cap) n xs)(j:Nat)(u:Value)(hj:j<n * s):
 (w.setCell ⟨g,j,none⟩ u).ownsRow b e s (.slice (some ⟨g,0,none⟩) n cap) n (xs.set j u):=by
 obtain ⟨h1,h2⟩:=h;refine ⟨by rw [Zk];exact h1,.inr ?_⟩;rcases h2 with ⟨h2,_⟩ | ⟨g',cap',cur,hv,hg,hh,hc,hm,hs,ht⟩
 ·cases h2
 ·injection hv with e1 e2 e3;injection e1 with e1;injection e1 with e1;subst e1 e3;refine ⟨g,cap,cur.setIfInBounds j u,rfl,hg,?_,hc,hm,by simpa using hs,?_⟩
  ·show (w.heap.modify g _)[g]? = _;rw [Array.getElem?_modify,Kf rfl,hh];rfl
  ·rw [Array.toList_setIfInBounds,List.take_set,ht]
theorem cellsK_split (l:List Ck)(k:Nat)(h:k<l.length):cellsK ckL l=cellsK ckL (l.take k) ++ (ckL l[k] ++ cellsK ckL (l.drop (k+1))):=by have e:=Jt k l;rw [Zu h] at e;exact (Kq (cellsK ckL) e.symm).trans (cellsK_app ckL _ _)
theorem set9_mid (A C:List Value)(n:Nat)(hn:A.length=n)(x0 x1 x2 x3 x4 x5 x6 x7 x8 y0 y1 y2 y3 y4 y5 y6 y7 y8:Value):
 ((((((((((A ++ ([x0,x1,x2,x3,x4,x5,x6,x7,x8] ++ C)).set (n+0) y0).set (n+1) y1).set (n+2) y2).set (n+3) y3).set (n+4) y4).set (n+5) y5).set (n+6) y6).set (n+7) y7).set (n+8) y8)=A ++ ([y0,y1,y2,y3,y4,y5,y6,y7,y8] ++ C):=by subst hn;simp [List.set_append]
theorem own_free {w:World}{b e s n g cap:Nat}{xs:List Value}(h:w.ownsRow b e s (.slice (some ⟨g,0,none⟩) n cap) n xs)(j:Nat):w.frozen? ⟨g,j,none⟩=false:=by
 rcases h.2 with ⟨h2,_⟩ | ⟨g',cap',cur,hv,hg,hh,hc,hm,hs,ht⟩
 ·cases h2
 ·injection hv with e1 e2 e3;injection e1 with e1;injection e1 with e1;subst e1;unfold World.frozen?;rw [hh];simp
abbrev put9 (W:World)(g o:Nat)(c:Ck):World:=((((((((W.setCell ⟨g,o,none⟩ (.string c.n)).setCell ⟨g,o+1,none⟩ (.string c.v)).setCell ⟨g,o+2,none⟩ (.string c.d)).setCell ⟨g,o+3,none⟩ (.string c.p)).setCell ⟨g,o+4,none⟩ (.bool c.ho)).setCell ⟨g,o+5,none⟩ (.bool c.se)).setCell ⟨g,o+6,none⟩ (.bool c.hi)).setCell ⟨g,o+7,none⟩ (.int .i64 c.ex)).setCell ⟨g,o+8,none⟩ (.int .i64 c.cr)
theorem own_put9 {w:World}{b e g cap:Nat}{l:List Ck}(h:w.ownsRow b e 9 (.slice (some ⟨g,0,none⟩) l.length cap) l.length (cellsK ckL l))(k:Nat)(hk:k<l.length)(c:Ck):
 (put9 w g (k * 9) c).ownsRow b e 9 (.slice (some ⟨g,0,none⟩) l.length cap) l.length (cellsK ckL (l.set k c)):=by
 have hb:∀ j,j<9->k * 9+j<l.length * 9:=fun j hj=>by omega
 have h9:=own_set (own_set (own_set (own_set (own_set (own_set (own_set (own_set (own_set h (k * 9+0) (.string c.n) (hb 0 (by omega))) (k * 9+1) (.string c.v) (hb 1 (by omega))) (k * 9+2) (.string c.d) (hb 2 (by omega))) (k * 9+3) (.string c.p) (hb 3 (by omega))) (k * 9+4) (.bool c.ho) (hb 4 (by omega))) (k * 9+5) (.bool c.se) (hb 5 (by omega))) (k * 9+6) (.bool c.hi) (hb 6 (by omega))) (k * 9+7) (.int .i64 c.ex) (hb 7 (by omega))) (k * 9+8) (.int .i64 c.cr) (hb 8 (by omega));have hA:(cellsK ckL (l.take k)).length=k * 9:=by rw [cellsK_len ckL_len,Jk,Zd (by omega)]
 have hx:=set9_mid (cellsK ckL (l.take k)) (cellsK ckL (l.drop (k+1))) (k * 9) hA (.string l[k].n) (.string l[k].v) (.string l[k].d) (.string l[k].p) (.bool l[k].ho) (.bool l[k].se) (.bool l[k].hi) (.int .i64 l[k].ex) (.int .i64 l[k].cr) (.string c.n) (.string c.v) (.string c.d) (.string c.p) (.bool c.ho) (.bool c.se) (.bool c.hi) (.int .i64 c.ex) (.int .i64 c.cr);have hy:cellsK ckL (l.set k c)=cellsK ckL (l.take k) ++ (ckL c ++ cellsK ckL (l.drop (k+1))):=by rw [cellsK_split (l.set k c) k (by simpa using hk)];simp [List.take_set_of_le,List.drop_set_of_lt]
 rw [hy,<-hx,<-cellsK_split l k hk];exact h9
theorem own_setCells {b e s n g cap:Nat}:∀ (vs:List Value) (o:Nat) (w:World) (xs:List Value),w.ownsRow b e s (.slice (some ⟨g,0,none⟩) n cap) n xs->o+vs.length<=n * s ->
 ∃ xs',(w.setCells g o vs).ownsRow b e s (.slice (some ⟨g,0,none⟩) n cap) n xs'/\xs'.take o=xs.take o:=by
 intro vs
 induction vs with
 | nil=>intro o w xs h _;exact ⟨xs,h,rfl⟩
 | cons v r ih=>
   intro o w xs h ho
   rw [Kv] at ho
   obtain ⟨xs',h1,h2⟩:=ih (o+1) _ _ (own_set h o v (by omega)) (by omega)
   refine ⟨xs',h1,?_⟩
   have h3:=Kq (List.take o) h2
   rw [List.take_take,List.take_take,Zd (by omega),List.take_set,List.set_eq_of_length_le (by simp;omega)] at h3
   exact h3
theorem own_cut {w:World}{b e s n g cap:Nat}{xs:List Value}(h:w.ownsRow b e s (.slice (some ⟨g,0,none⟩) n cap) n xs)(m:Nat)(hm:m<=n):
 w.ownsRow b e s (.slice (some ⟨g,0,none⟩) m cap) m (xs.take (m * s)):=by
 obtain ⟨h1,h2⟩:=h;have hms:m * s<=n * s:=Zq s hm;refine ⟨by rw [Jk,h1,Zd hms],.inr ?_⟩;rcases h2 with ⟨h2,_⟩ | ⟨g',cap',cur,hv,hg,hh,hc,hcm,hs,ht⟩
 ·cases h2
 ·injection hv with e1 e2 e3;injection e1 with e1;injection e1 with e1;subst e1 e3;exact ⟨g,cap,cur,rfl,hg,hh,Kg hm hc,hcm,hs,by rw [<-ht,List.take_take,Zd hms]⟩
theorem run_clearK {P:Program}(w:World)(t e ty:TypeId)(z:Value)(k:Nat)(ht:P.underlying t=some (.slice e))(hv:∀ w,(zeroValue e).run P w = .ok z w)(hz:z.cells.size=k)(h1:∀ v∈z.cells.toList,v.oneCell'=true)(b o n c:Nat)(hn:0<n)(hk:0<k)
 (hc:∀ j,j<n * k->(w.cell? ⟨b,o+j,none⟩).isSome=true) (hf:∀ j,j<n * k->w.frozen? ⟨b,o+j,none⟩=false) :
 ∃ vs:List Value,vs.length=n * k/\(Builtin.clear_ #[t] ty #[.slice (some ⟨b,o,none⟩) n c]).run P w = .ok (.tuple #[]) (w.setCells b o vs):=by
 refine ⟨(Builtin.zeroCells z.cells n).toList,by simp [Builtin.zeroCells,hz],?_⟩;have hl:(Builtin.zeroCells z.cells n).toList.length=n * k:=by simp [Builtin.zeroCells,hz]
 have hst:=run_storeCells_cells (P:=P) b o (Builtin.zeroCells z.cells n).toList 0 w (by rw [hl];simpa using hc) (by rw [hl];simpa using hf) (by intro v hv';simp only [Builtin.zeroCells,Array.toList_map,List.mem_map] at hv';obtain ⟨i,_,rfl⟩:=hv';have hi:i % z.cells.size<z.cells.size:=Nat.mod_lt _ (by omega);rw [getElem!_pos z.cells _ hi];exact h1 _ (by simp));simp only [Ku] at hst;obtain ⟨m,rfl⟩:∃ m,n=m+1:=⟨n - 1,by omega⟩
 simp [Builtin.clear_,run_underlying ht,hv,hst]
theorem own_row_cells {w:World}{b e g cap:Nat}{l:List Ck}(h:w.ownsRow b e 9 (.slice (some ⟨g,0,none⟩) l.length cap) l.length (cellsK ckL l))(h0:0<l.length):b<=g/\g<w.heap.size/\∀ i (hi:i<l.length) j u,(ckL l[i])[j]? = some u->w.cell? ⟨g,i * 9+j,none⟩=some u:=by
 obtain ⟨a,cap',hv,hc,hm,ha⟩:=own_reads h;injection hv with e1 e2 e3;rcases ha with ⟨rfl,h1⟩ | ⟨g',rfl,hg,hgw,hcell⟩
 ·omega
 ·injection e1 with e1;injection e1 with e1;subst e1;exact ⟨hg,hgw,fun i hi j u hu=>hcell _ _ (cellsK_get ckL_len l i hi j u hu)⟩
theorem N51{p:Prop}(h:p:=by
 rw [Kf ha] at h;have hk:l.findIdx p=k:=by omega
 have hlt:k<l.length:=by rw [<-hk];obtain ⟨x,hx,hp⟩:=List.any_eq_true.1 ha;exact List.findIdx_lt_length_of_exists ⟨x,hx,hp⟩
 have h2:=(List.findIdx_eq hlt).1 hk;refine ⟨hlt,h2.1,?_⟩;rw [Jf hlt,Zs];have e1:(l.take k).filter (fun c=>!p c)=l.take k:=by rw [List.filter_eq_self];intro a ha;obtain ⟨i,hi,rfl⟩:=Xe ha;rw [Jk] at hi;rw [List.getElem_take,h2.2 i (by omega)];rfl
 rw [e1]
 simp [h2.1]
 ):p:=h
theorem filt_start (p:Ck->Bool)(l:List Ck)(k:Nat)(h:idxI p l=k):∃ hk:k<l.length,p l[k]=true/\(l.take (k+1)).filter (fun c=>!p c)=l.take k:=by
 unfold idxI at h;by_cases ha:l.any p
 ·exact N51
 ·rw [Ke ha] at h;omega
theorem zero_run {P:Program}{t:TypeId}{z:Value}(h:(P.info? t).map (fun i=>i.zero)=some (some z))(w:World):(zeroValue t).run P w = .ok z w:=by
 cases hi:P.info? t with
 | none=>rw [hi] at h;cases h
 | some i=>
   rw [hi] at h
   have hz:i.zero=some z:=by simpa using h
   simp [zeroValue,typeInfo,hi,hz]
theorem cellsK_take (l:List Ck)(i:Nat)(hi:i<=l.length):(cellsK ckL l).take (i * 9)=cellsK ckL (l.take i):=by
 conv=>lhs;rw [<-Jt i l,cellsK_app]
 rw [List.take_left' (by rw [cellsK_len ckL_len,Jk,Zd hi])]
theorem BelowBut.setCells {B b:Nat}{W:World}:∀ (vs:List Value) (o:Nat) (w:World),BelowBut B b W w->BelowBut B b W (w.setCells b o vs):=by
 intro vs
 induction vs with
 | nil=>intro o w h;exact h
 | cons v r ih=>intro o w h;exact ih (o+1) _ (h.setCell ⟨b,o,none⟩ (Or.inl rfl) v)
theorem BelowBut.setRow {B b:Nat}{W w:World}(h:BelowBut B b W w)(cs:Array Value):BelowBut B b W (w.setRow b cs):=by refine ⟨h.os,h.tape,h.output,by simp [World.setRow];exact h.size,fun k hk hb=>Eq.trans ?_ (h.block k hk hb)⟩;show (w.heap.modify b _)[k]? = _;rw [Array.getElem?_modify,Ke (fun e=>hb e.symm)]
theorem own_shift {W:World}{B E size n cap g q:Nat}{xs:List Value}(h:W.ownsRow B E size (.slice (some ⟨g,0,none⟩) n cap) n xs)(hq:q<=n):
 ∃ cur,W.heap[g]? = some (.cells cur E (0,0))/\0 * size+(xs.drop (q * size)).length<=cur.size/\n<=cap/\(xs.drop (q * size)).length=(n - q) * size/\∃ ys,(W.setRow g (cur.toList.take (0 * size) ++ xs.drop (q * size) ++ cur.toList.drop (0 * size+(xs.drop (q * size)).length)).toArray).ownsRow B E size (.slice (some ⟨g,0,none⟩) n cap) n ys/\ys.take ((n - q) * size)=xs.drop (q * size):=by
 obtain ⟨h1,h2⟩:=h;rcases h2 with ⟨h2,_⟩ | ⟨g',cap',cur,hv,hg,hh,hc,hcm,hs,ht⟩
 ·cases h2
 ·injection hv with e1 e2 e3;injection e1 with e1;injection e1 with e1;subst e1 e3;have hnl:(xs.drop (q * size)).length=(n - q) * size:=by rw [Jy,h1,Nat.sub_mul]
  have h3:(n - q) * size<=n * size:=Zq _ (by omega);have h4:n * size<=cap * size:=Zq _ hc;have hnew:(cur.toList.take (0 * size) ++ xs.drop (q * size) ++ cur.toList.drop (0 * size+(xs.drop (q * size)).length))=xs.drop (q * size) ++ cur.toList.drop ((n - q) * size):=by rw [hnl];simp
  have hlen:(xs.drop (q * size) ++ cur.toList.drop ((n - q) * size)).length=cap * size:=by rw [Kw,hnl,Jy,Array.length_toList,hs];omega
  refine ⟨cur,hh,by rw [hnl,hs];omega,hc,hnl,_,⟨?_,.inr ⟨g,cap,_,rfl,hg,setRow_heap W g cur _ E (0,0) hh,hc,hcm,?_,rfl⟩⟩,?_⟩
  ·rw [hnew,Jk,hlen];omega
  ·rw [hnew,List.size_toArray,hlen]
  ·rw [hnew,List.take_take,Zd h3,List.take_left' hnl]
theorem step_shift {P:Program}{T E size bytes:Nat}(ty:SlTy P T E size bytes)(W:World){ops:Array Oper}{o:Oper}{a:Act}{K:Act->World->Prop}{Q:Exit->Act->World->Prop}{Ep:Prop}
 (hgd:o.guard=none) (s x:Operand) (ho:o.op = .call { callee:=.builtin .append,args:=#[s,x],argTypes:=#[T,T] })
 (B g n cap q c:Nat) (xs:List Value) (hown:W.ownsRow B E size (.slice (some ⟨g,0,none⟩) n cap) n xs) (hq:q<=n)
 (hs:a.eval s = .slice (some ⟨g,0,none⟩) 0 cap) (hx:a.eval x = .slice (some ⟨g,q * size,none⟩) (n - q) c) (h1:∀ u∈xs,u.oneCell'=true)
 (h:∀ w' ys,w'.ownsRow B E size (.slice (some ⟨g,0,none⟩) n cap) n ys->ys.take ((n - q) * size)=xs.drop (q * size)->BelowBut W.heap.size g W w'->K (a.put o.dst (.slice (some ⟨g,0,none⟩) (n - q) cap)) w') :
 if Region.wanted o (yielded ops a.tmps)=true then Oper.wp P o a W K Q else Ep:=by
 obtain ⟨hu,⟨i,z,hi,hz,h2,h3,h4⟩,hp⟩:=ty;have hw:Region.wanted o (yielded ops a.tmps)=true:=by simp [Region.wanted,hgd]
 rw [Kf hw];obtain ⟨cur,hh,hfit,hc,hnl,ys,hy1,hy2⟩:=own_shift hown hq;have hcell:∀ j u,(xs.drop (q * size))[j]? = some u->W.cell? ((⟨g,q * size,none⟩:Addr).add j)=some u:=fun j u hu=>by
  rw [add_none];rw [List.getElem?_drop] at hu;obtain ⟨a2,c2,hv2,_,_,ha2⟩:=own_reads hown;injection hv2 with e1 _ _;rcases ha2 with ⟨rfl,_⟩ | ⟨g',rfl,_,_,hcc⟩
  ·cases e1
  ·injection e1 with e1;injection e1 with e1;subst e1;exact hcc _ _ hu
 have hrun:=run_append_room (P:=P) W T o.type E i hu hi g 0 cap cur hh ⟨g,q * size,none⟩ (n - q) c (xs.drop (q * size)) (by rw [h2];exact hnl) hcell (fun u hu=>h1 u (List.mem_of_mem_drop hu)) (by omega) (by rw [h2];exact hfit);rw [h2,Jm] at hrun;have hk:=h _ ys hy1 hy2 ((BelowBut.refl W.heap.size g W).setRow _);unfold Oper.wp;simp [execOp,ho,resolve,invoke,builtin,hs,hx,hrun,Result.andThen];rw [Oper.upon_value];simpa using hk
theorem cellsK_drop (l:List Ck)(q:Nat):(cellsK ckL l).drop (q * 9)=cellsK ckL (l.drop q):=by
 by_cases h:q<=l.length
 ·conv=>lhs;rw [<-Jt q l,cellsK_app]
  rw [List.drop_left' (by rw [cellsK_len ckL_len,Jk,Zd h])]
 ·rw [List.drop_eq_nil_of_le (by rw [cellsK_len ckL_len];omega),List.drop_eq_nil_of_le (by omega)];rfl
end Go.Proofs.YtjdhaacmlpegoaaGreatDoor
