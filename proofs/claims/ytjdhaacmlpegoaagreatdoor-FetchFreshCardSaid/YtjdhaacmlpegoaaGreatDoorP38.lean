/- Part 38 of what the proof needs: XV YA. -/
import Derived.Test.YtjdhaacmlpegoaaGreatDoorP29
import Derived.Test.YtjdhaacmlpegoaaGreatDoorP30
import Derived.Test.YtjdhaacmlpegoaaGreatDoorP15
import Derived.Test.YtjdhaacmlpegoaaGreatDoorP09
import Derived.Test.YtjdhaacmlpegoaaGreatDoorP14
import Derived.Test.YtjdhaacmlpegoaaGreatDoorP36
import Derived.Test.YtjdhaacmlpegoaaGreatDoorP01
namespace Go.Proofs.YtjdhaacmlpegoaaGreatDoor
open Go.RowKit
set_option linter.unusedSimpArgs false
set_option linter.unusedVariables false
noncomputable def putJ (c:Ck)(gone:Bool)(a:ByteArray)(l:List Ck)(nx:Int):List Ck × Int × Int:=
 ⟨Classical.choose (put_ex c gone a l nx),Classical.choose (Classical.choose_spec (put_ex c gone a l nx)),Classical.choose (Classical.choose_spec (Classical.choose_spec (put_ex c gone a l nx)))⟩
theorem putJ_is (c:Ck)(gone:Bool)(a:ByteArray)(l:List Ck)(nx:Int):Put c gone a l nx (putJ c gone a l nx).1 (putJ c gone a l nx).2.1 (putJ c gone a l nx).2.2:=
 Classical.choose_spec (Classical.choose_spec (Classical.choose_spec (put_ex c gone a l nx)))
noncomputable def setJ (s:ByteArray)(S:FS)(now:Int)(j:List Ck × Int):List Ck × Int:=
 if (parseC s.data.toList (takesB S.u) S.a S.b S.d now).2=0 then ((putJ (parseC s.data.toList (takesB S.u) S.a S.b S.d now).1 (exB (parseC s.data.toList (takesB S.u) S.a S.b S.d now).1 now) S.a j.1 j.2).1,(putJ (parseC s.data.toList (takesB S.u) S.a S.b S.d now).1 (exB (parseC s.data.toList (takesB S.u) S.a S.b S.d now).1 now) S.a j.1 j.2).2.1) else j
noncomputable def jarF (S:FS)(now:Int):List Hd->List Ck × Int->List Ck × Int
 | [],j=>j
 | h :: r,j=>jarF S now r (if isH h scN then setJ h.2 S now j else j)
structure CkSz (m:Nat)(c:Ck):Prop where
 n:c.n.size<=m
 v:c.v.size<=m
 d:c.d.size<=m
 p:c.p.size<=m
theorem defpL_ln (l:List UInt8):(defpL l).length<=l.length+1:=by
 unfold defpL
 split
 ·simp
 ·have:(befL l).length<=l.length:=by
   unfold befL
   rw [List.length_reverse,List.length_drop]
   have:=(List.dropWhile_sublist (fun x=>x != 47) (l:=l.reverse)).length_le
   rw [List.length_reverse] at this
   omega
  omega
theorem attrC_sz {host path:ByteArray}{now:Int}{c:Ck}{name value:List UInt8}{m:Nat}(hc:CkSz m c)(hh:host.size<=m)(hp:path.size<=m)(hv:value.length<=m):CkSz m (attrC host path now c name value):=by
 have hl:(lowL (undot value)).length<=m:=by rw [lowL_len];exact Nat.le_trans (undot_len value) hv
 unfold attrC
 split
 ·split
  ·exact ⟨hc.n,hc.v,hc.d,hc.p⟩
  ·exact hc
 ·split
  ·split
   ·exact ⟨hc.n,hc.v,hh,hc.p⟩
   ·exact ⟨hc.n,hc.v,by show (bs (lowL (undot value))).size<=m;rw [bs_size];exact hl,hc.p⟩
  ·split
   ·refine ⟨hc.n,hc.v,hc.d,?_⟩
    show (if Lib.hasPrefix value [47]=true then bs value else path).size<=m
    split
    ·rw [bs_size];exact hv
    ·exact hp
   ·split
    ·exact ⟨hc.n,hc.v,hc.d,hc.p⟩
    ·split
     ·exact ⟨hc.n,hc.v,hc.d,hc.p⟩
     ·exact hc
theorem fold_sz {host path:ByteArray}{now:Int}{m:Nat}(hh:host.size<=m)(hp:path.size<=m):∀ (ps:List (List UInt8)) (c:Ck),(∀ p∈ps,p.length<=m)->CkSz m c->CkSz m (ps.foldl (stepC host path now) c)
 | [],c,_,hc=>hc
 | p :: ps,c,h,hc=>fold_sz hh hp ps _ (fun q hq=>h q (List.mem_cons_of_mem _ hq)) (attrC_sz hc hh hp (Nat.le_trans (Nat.le_trans (trimC_len _) (post_len' 61 p)) (h p List.mem_cons_self)))
theorem parseC_sz {field:List UInt8}{ok:Bool}{scheme host path:ByteArray}{now:Int}{m:Nat}(hf:field.length<=m)(hh:host.size<=m)(hp:path.size+1<=m):CkSz m (parseC field ok scheme host path now).1:=by
 have h0:CkSz m ck0:=⟨Nat.zero_le _,Nat.zero_le _,Nat.zero_le _,Nat.zero_le _⟩
 have hpp:(bs (defpL path.data.toList)).size<=m:=by
  rw [bs_size]
  have:=defpL_ln path.data.toList
  rw [size_len] at this
  omega
 unfold parseC
 split
 ·exact h0
 ·split
  ·exact h0
  ·next p0 ps hs=>
   split
   ·exact h0
   ·have hl:=segs_len 59 field
    rw [hs] at hl
    have h1:p0.length<=m:=Nat.le_trans (hl p0 List.mem_cons_self) hf
    have h2:=fold_sz (now:=now) hh hpp ps (firstC host (bs (defpL path.data.toList)) p0) (fun p hp=>Nat.le_trans (hl p (List.mem_cons_of_mem _ hp)) hf) ⟨by show (bs _).size<=m;rw [bs_size];exact Nat.le_trans (Nat.le_trans (trimC_len _) (pre_len' 61 p0)) h1,by show (bs _).size<=m;rw [bs_size];exact Nat.le_trans (Nat.le_trans (trimC_len _) (post_len' 61 p0)) h1,hh,hpp⟩
    unfold lastC
    split
    ·exact h0
    ·split
     ·exact h0
     ·exact h2
theorem Put.mem {c:Ck}{gone:Bool}{a:ByteArray}{l l':List Ck}{nx nx' er:Int}(h:Put c gone a l nx l' nx' er):∀ x∈l',x∈l\/∃ k,x={ c with cr:=k }:=by
 cases h with
 | del k hk hi hs hg=>exact fun x hx=>.inl (List.mem_filter.1 hx).1
 | put k hk hi hs hg=>exact fun x hx=>(List.mem_or_eq_of_mem_set hx).imp id fun e=>⟨_,e⟩
 | new hi hg hl2=>
   intro x hx
   rcases List.mem_append.1 hx with hx | hx
   ·exact .inl hx
   ·exact .inr ⟨_,List.mem_singleton.1 hx⟩
 | evict q hi hg h0 hq =>
   intro x hx
   rcases List.mem_append.1 (List.mem_of_mem_drop hx) with hx | hx
   ·exact .inl hx
   ·exact .inr ⟨_,List.mem_singleton.1 hx⟩
 | _=>exact fun x hx=>.inl hx
theorem Put.nx {c:Ck}{gone:Bool}{a:ByteArray}{l l':List Ck}{nx nx' er:Int}(h:Put c gone a l nx l' nx' er):nx<=nx'/\nx'<=nx+1:=by
 cases h <;> omega
theorem JOk.put {c:Ck}{gone:Bool}{a:ByteArray}{l l':List Ck}{nx nx' er:Int}(hJ:JOk l)(hc:CkSz 100000 c)(h:Put c gone a l nx l' nx' er):JOk l':=
 ⟨put_len h hJ.len,fun x hx=>by
  rcases h.mem x hx with h1 | ⟨k,rfl⟩
  ·exact hJ.ok x h1
  ·exact ⟨⟨hc.d,hc.p⟩,hc.n,hc.v⟩⟩
theorem setJ_ok {s:ByteArray}{S:FS}{now:Int}{J:List Ck}{nx:Int}(hS:USize 40000 S.a S.b S.c S.d S.e S.f)(hJ:JOk J)(hs:s.size<=1000):JOk (setJ s S now (J,nx)).1/\nx<=(setJ s S now (J,nx)).2/\(setJ s S now (J,nx)).2<=nx+1:=by
 unfold setJ
 split
 ·have hz:CkSz 100000 (parseC s.data.toList (takesB S.u) S.a S.b S.d now).1:=parseC_sz (by rw [size_len];omega) (by have:=hS.b;omega) (by have:=hS.d;omega)
  have hp:=putJ_is (parseC s.data.toList (takesB S.u) S.a S.b S.d now).1 (exB (parseC s.data.toList (takesB S.u) S.a S.b S.d now).1 now) S.a J nx
  exact ⟨hJ.put hz hp,hp.nx⟩
 ·exact ⟨hJ,Int.le_refl _,by show nx<=nx+1;omega⟩
def SetE (w:World)(jb B:Nat)(v:Value)(j:List Ck × Int)(x:Ending)(w':World):Prop:=∃ er:Int,x = .returned (.int .i64 er)/\(∃ v',JarIn w' jb B v' j.1 j.2/\OldNew v v' w.heap.size)/\RowBut w.heap.size jb v.ownBlock w w'
def SetC : Prop := ∀ (w : World) (jb B : Nat) (v : Value) (J : List Ck) (nx : Int) (s : ByteArray) (S : FS) (now : Int), MaxAt w → JarIn w jb B v J nx → USize 40000 S.a S.b S.c S.d S.e S.f → JOk J → -1152921504606846976 ≤ nx → nx ≤ 1152921504606846976 → s.size ≤ 1000 →
    Calls Tryz.prog 72 #[.pointer (some ⟨jb,0,none⟩),.string s,urlA S.a S.b S.c S.d S.e S.f,.int .i64 now] w (SetE w jb B v (setJ s S now (J,nx)))
structure Op4 where
 k:Nat
 st:Int
 hs:List Hd
 bo:ByteArray
structure Rn where
 s:FS
 j:List Ck × Int
 c:List En
 ev:List Ev
noncomputable def jarH (S:FS)(now:Int)(hs:List Hd)(j:List Ck × Int):List Ck × Int:=if S.ck=true then jarF S now hs j else j
noncomputable def headA (now st:Int)(hs:List Hd)(S:FS)(j:List Ck × Int)(C:List En):(List Ck × Int) × Out:=
 if S.ph=1 then (jarH S now hs j,headF (jarH S now hs j).1 now st hs S C) else (j,⟨S,C,[]⟩)
noncomputable def opF (now:Int)(o:Op4)(r:Rn):Rn:=
 if o.k % 5=0 then ⟨(headA now o.st o.hs r.s r.j r.c).2.s,(headA now o.st o.hs r.s r.j r.c).1,(headA now o.st o.hs r.s r.j r.c).2.c,r.ev ++ (headA now o.st o.hs r.s r.j r.c).2.ev⟩
 else if o.k % 5=1 then ⟨(dataF o.bo r.s).1,r.j,r.c,r.ev ++ (dataF o.bo r.s).2⟩
 else if o.k % 5=2 then ⟨(endF now r.s r.c).s,r.j,(endF now r.s r.c).c,r.ev ++ (endF now r.s r.c).ev⟩
 else if o.k % 5=3 then ⟨(stopF 17 r.s).1,r.j,r.c,r.ev ++ (stopF 17 r.s).2⟩
 else ⟨(stopF 18 r.s).1,r.j,r.c,r.ev ++ (stopF 18 r.s).2⟩
def startF (now:Int)(S:FS)(j:List Ck × Int)(C:List En):Rn:=⟨(beginF j.1 now S C).s,j,(beginF j.1 now S C).c,(beginF j.1 now S C).ev⟩
noncomputable def runF (now:Int)(ops:List Op4)(r:Rn):Rn:=ops.foldl (fun r o=>opF now o r) r
theorem runF_snoc (now:Int)(ops:List Op4)(o:Op4)(r:Rn):runF now (ops ++ [o]) r=opF now o (runF now ops r):=by
 unfold runF
 rw [List.foldl_append]
 rfl
theorem runF_cons (now:Int)(ops:List Op4)(o:Op4)(r:Rn):runF now (o :: ops) r=runF now ops (opF now o r):=rfl
structure OpOk (o:Op4):Prop where
 hs:HOk 8 o.hs
 bo:o.bo.size<=100000
structure POk (P:List Hd->Prop)(o:Out):Prop where
 s:P o.s.hs
 c:∀ e∈o.c,P e.hd
theorem keepF_p {P:List Hd->Prop}(S:FS)(st:Int){hd:List Hd}(hh:P hd)(body:ByteArray)(now:Int){C:List En}(hC:∀ e∈C,P e.hd):∀ e∈keepF S st hd body now C,P e.hd:=by
 unfold keepF
 split
 ·intro e he
  rcases List.mem_append.1 he with he | he
  ·exact hC e (List.mem_filter.1 he).1
  ·split at he
   ·obtain rfl:=List.mem_singleton.1 he;exact hh
   ·cases he
 ·exact hC
section
variable {P : List Hd → Prop} (h0 : P [])
include h0
theorem redirF_p {snd:FS->List En->Out}(hs:∀ S C,P S.hs->(∀ e∈C,P e.hd)->POk P (snd S C))(st:Int)(loc:ByteArray){S:FS}(hS:P S.hs){C:List En}(hC:∀ e∈C,P e.hd):POk P (redirF snd st loc S C):=by
 unfold redirF
 split
 ·exact ⟨h0,hC⟩
 ·split
  ·exact ⟨h0,hC⟩
  ·split
   ·exact ⟨h0,hC⟩
   ·split
    ·exact ⟨h0,hC⟩
    ·exact hs _ _ hS hC
theorem takeF_p {snd:FS->List En->Out}(hs:∀ S C,P S.hs->(∀ e∈C,P e.hd)->POk P (snd S C))(net:Bool)(now st:Int){hd:List Hd}(hh:P hd){S:FS}(hS:P S.hs){C:List En}(hC:∀ e∈C,P e.hd):POk P (takeF snd net now st hd S C):=by
 unfold takeF
 split
 ·split
  ·exact ⟨h0,hC⟩
  ·refine redirF_p h0 hs st _ hS ?_
   split
   ·exact keepF_p S st hh eS now hC
   ·exact hC
 ·unfold headO
  split
  ·exact ⟨h0,hC⟩
  ·exact ⟨hh,hC⟩
theorem dataF_p (p:ByteArray){S:FS}(hS:P S.hs):P (dataF p S).1.hs:=by
 unfold dataF
 split
 ·split
  ·exact h0
  ·exact hS
 ·exact hS
theorem storedF_p {snd:FS->List En->Out}(hs:∀ S C,P S.hs->(∀ e∈C,P e.hd)->POk P (snd S C))(now:Int){e:En}(he:P e.hd){S:FS}(hS:P S.hs){C:List En}(hC:∀ e∈C,P e.hd):POk P (storedF snd now e S C):=by
 have ht:=takeF_p h0 hs false now e.st he (S:={ S with ch:=false }) hS hC
 unfold storedF restF
 split
 ·split
  ·exact ⟨dataF_p h0 _ ht.s,ht.c⟩
  ·exact ⟨dataF_p h0 _ ht.s,ht.c⟩
 ·exact ht
theorem askF_p (C:List En)(url:ByteArray)(rq:List Hd)(now:Int)(hC:∀ e∈C,P e.hd):P (askF C url rq now).e.hd/\∀ e∈(askF C url rq now).c,P e.hd:=by
 unfold askF
 split
 ·exact ⟨h0,hC⟩
 ·next i _=>
  split
  ·exact ⟨h0,hC⟩
  ·split
   ·exact ⟨h0,hC⟩
   ·next e he=>
    have he1:=hC e (List.mem_of_getElem? he)
    split
    ·refine ⟨he1,fun x hx=>?_⟩
     rcases List.mem_append.1 hx with hx | hx
     ·exact hC x (List.mem_of_mem_eraseIdx hx)
     ·obtain rfl:=List.mem_singleton.1 hx;exact he1
    ·split
     ·exact ⟨h0,hC⟩
     ·exact ⟨he1,hC⟩
theorem sendF_p (J:List Ck)(now:Int):∀ (k:Nat) (S:FS) (C:List En),P S.hs->(∀ e∈C,P e.hd)->POk P (sendF J now k S C)
 | 0,S,C,hS,hC=>⟨hS,hC⟩
 | k + 1, S, C, hS, hC => by
   have ha:=askF_p h0 C (txB S) (hdF S) now hC
   unfold sendF
   split
   ·simp only
    split
    ·exact storedF_p h0 (fun S C=>sendF_p J now k S C) now ha.1 hS ha.2
    ·split
     ·exact ⟨hS,ha.2⟩
     ·exact ⟨hS,ha.2⟩
   ·exact ⟨hS,hC⟩
end
structure ROk (i:Nat)(r:Rn):Prop where
 s:SOk r.s
 h:HOk (100+10 * i) r.s.hs
 c:COk (20+2 * i) (100+10 * i) r.c
 j:JOk r.j.1
 n1:0<=r.j.2
 n2:r.j.2<=1125899906842624+10 * i
 e:r.ev.length<=3 * (i+1)
theorem EOk.mono {m n:Nat}{e:En}(h:EOk m e)(hm:m<=n):EOk n e:=⟨h.hd.mono hm,h.va,h.bo⟩
theorem COk.mono {n m n' m':Nat}{C:List En}(h:COk n m C)(hn:n<=n')(hm:m<=m'):COk n' m' C:=⟨Nat.le_trans h.len hn,fun e he=>(h.ok e he).mono hm⟩
theorem jarF_ok {S:FS}{now:Int}(hS:USize 40000 S.a S.b S.c S.d S.e S.f):∀ (hs:List Hd) (j:List Ck × Int),JOk j.1->(∀ h∈hs,h.2.size<=1000)->JOk (jarF S now hs j).1/\j.2<=(jarF S now hs j).2/\(jarF S now hs j).2<=j.2+hs.length
 | [],j,hJ,_=>⟨hJ,Int.le_refl _,by show j.2<=j.2+((0:Nat):Int);omega⟩
 | h :: r, j, hJ, hz => by
   have h1:JOk (if isH h scN then setJ h.2 S now j else j).1/\j.2<=(if isH h scN then setJ h.2 S now j else j).2/\(if isH h scN then setJ h.2 S now j else j).2<=j.2+1:=by
    split
    ·exact setJ_ok hS hJ (hz h List.mem_cons_self)
    ·exact ⟨hJ,Int.le_refl _,by omega⟩
   have h2:=jarF_ok hS (now:=now) r _ h1.1 (fun x hx=>hz x (List.mem_cons_of_mem _ hx))
   have e:jarF S now (h :: r) j=jarF S now r (if isH h scN then setJ h.2 S now j else j):=rfl
   rw [e]
   exact ⟨h2.1,by omega,by have:(h :: r).length=r.length+1:=rfl;omega⟩
theorem merge_ok {m:Nat}{old hs:List Hd}(h1:HOk m old)(h2:HOk 8 hs):HOk (m+8) (mergeL old hs):=by
 unfold mergeL
 refine ⟨?_,fun x hx=>?_⟩
 ·rw [List.length_append]
  have:=List.length_filter_le (fun d=>!hasH hs d) old
  have:=h1.len
  have:=h2.len
  omega
 ·rcases List.mem_append.1 hx with hx | hx
  ·exact h1.sz x (List.mem_filter.1 hx).1
  ·exact h2.sz x hx
theorem conf_ok {n m:Nat}{C:List En}(hC:COk n m C){hs:List Hd}(hh:HOk 8 hs)(url:ByteArray)(rq:List Hd)(now:Int):∀ p,confF C url rq hs now=some p->EOk (m+8) p.1/\COk n (m+8) p.2:=by
 intro p hp
 unfold confF at hp
 split at hp
 ·cases hp
 ·next i _=>
  split at hp
  ·cases hp
  ·next e he=>
   injection hp with hp
   subst hp
   have he0:=hC.ok e (List.mem_of_getElem? he)
   have he1:EOk (m+8) (confE e hs now):=⟨merge_ok he0.hd hh,he0.va,he0.bo⟩
   refine ⟨he1,?_,fun x hx=>?_⟩
   ·have hi:i<C.length:=(List.getElem?_eq_some_iff.1 he).1
    rw [List.length_append,List.length_eraseIdx,if_pos hi,List.length_singleton]
    have:=hC.len;omega
   ·rcases List.mem_append.1 hx with hx | hx
    ·exact (hC.ok x (List.mem_of_mem_eraseIdx hx)).mono (by omega)
    ·obtain rfl:=List.mem_singleton.1 hx;exact he1
theorem OOk.mono {n m n' m':Nat}{o:Out}(h:OOk n m o)(hn:n<=n')(hm:m<=m'):OOk n' m' o:=⟨h.s,h.c.mono hn hm⟩
theorem headF_ok {n m:Nat}(hm:m+8<=800)(J:List Ck)(now st:Int){hs:List Hd}(hh:HOk 8 hs)(h8:8<=m){S:FS}(hS:SOk S){C:List En}(hC:COk n m C):OOk (n+1) (m+8) (headF J now st hs S C):=by
 unfold headF
 split
 ·split
  ·exact failO_ok (hC.mono (by omega) (by omega)) hS _
  ·next e C' he=>
   have h:=conf_ok hC hh _ _ _ _ he
   exact (storedF_ok (by omega) (fun S C hS hC=>sendF_ok (by omega) J now 11 S C hS hC) now h.1 hS h.2).mono (by omega) lr
 ·exact takeF_ok (n:=n+1) hm (fun S C hS hC=>sendF_ok hm J now 11 S C hS hC) true now st (hh.mono (by omega)) hS (hC.mono (by omega) (by omega)) (fun _=>(hC.mono (Nat.le_refl n) (Nat.le_add_right m 8)).keep hS hm st (hh.mono (by omega)) (Nat.zero_le _) now)
theorem headF_h {n m:Nat}(J:List Ck)(now st:Int){hs:List Hd}(hh:HOk 8 hs){S:FS}(hS:HOk m S.hs){C:List En}(hC:COk n m C):HOk (m+8) (headF J now st hs S C).s.hs:=by
 have hS2:=hS.mono (Nat.le_add_right m 8)
 unfold headF
 split
 ·split
  ·exact HOk.nil _
  ·next e C' he=>
   have h:=conf_ok hC hh _ _ _ _ he
   exact (storedF_p (HOk.nil (m+8)) (fun S C=>sendF_p (HOk.nil (m+8)) J now 11 S C) now h.1.hd hS2 (fun e he=>(h.2.ok e he).hd)).s
 ·exact (takeF_p (HOk.nil (m+8)) (fun S C=>sendF_p (HOk.nil (m+8)) J now 11 S C) true now st (hh.mono (by omega)) hS2 (fun e he=>(hC.ok e he).hd.mono (by omega))).s
theorem headA_h {n m:Nat}(now st:Int){hs:List Hd}(hh:HOk 8 hs){S:FS}(hS:HOk m S.hs){C:List En}(hC:COk n m C)(j:List Ck × Int):HOk (m+8) (headA now st hs S j C).2.s.hs:=by
 unfold headA
 split
 ·exact headF_h _ now st hh hS hC
 ·exact hS.mono (by omega)
theorem headA_ok {n m:Nat}(hm:m+8<=800)(h8:8<=m)(now st:Int){hs:List Hd}(hh:HOk 8 hs){S:FS}(hS:SOk S){C:List En}(hC:COk n m C){j:List Ck × Int}(hJ:JOk j.1):OOk (n+1) (m+8) (headA now st hs S j C).2/\JOk (headA now st hs S j C).1.1/\j.2<=(headA now st hs S j C).1.2/\(headA now st hs S j C).1.2<=j.2+8:=by
 unfold headA
 split
 ·refine ⟨headF_ok hm _ now st hh h8 hS hC,?_⟩
  unfold jarH
  split
  ·have h1:=jarF_ok (now:=now) hS.u4 hs j hJ (fun h hx=>by have:=hh.sz h hx;omega)
   have h2:=hh.len
   exact ⟨h1.1,h1.2.1,by show (jarF S now hs j).2<=j.2+8;omega⟩
  ·exact ⟨hJ,Int.le_refl _,by show j.2<=j.2+8;omega⟩
 ·exact ⟨⟨hS,hC.mono (by omega) (by omega)⟩,hJ,Int.le_refl _,by show j.2<=j.2+8;omega⟩
theorem headA_ev (now st:Int)(hs:List Hd)(S:FS)(j:List Ck × Int)(C:List En):(headA now st hs S j C).2.ev.length<=3:=by
 unfold headA
 split
 ·unfold headF
  split
  ·split
   ·exact (failO_ev _ _ _).2
   ·exact (restF_ev _ (takeF_ev (fun S C=>sendF_ev _ now 11 S C) false now _ _ _ _)).2
  ·exact (takeF_ev (fun S C=>sendF_ev _ now 11 S C) true now st hs S C).2
 ·exact Nat.zero_le _
theorem SOk.stop {S:FS}(h:SOk S)(e:Int):SOk (stopF e S).1:=by
 unfold stopF
 split
 ·exact h.fail e
 ·exact h
theorem stop_ev (e:Int)(S:FS):(stopF e S).2.length<=1:=by
 unfold stopF
 split
 ·exact lr
 ·exact Nat.zero_le _
theorem opF_ok {now:Int}{o:Op4}(ho:OpOk o){i:Nat}(hi:i<=50){r:Rn}(h:ROk i r):ROk (i+1) (opF now o r):=by
 have hC:COk (20+2 * (i+1)) (100+10 * (i+1)) r.c:=h.c.mono (by omega) (by omega)
 have hH:HOk (100+10 * (i+1)) r.s.hs:=h.h.mono (by omega)
 have he:=h.e
 have h1:=h.n1
 have h2:=h.n2
 unfold opF
 split
 ·have hk:=headA_ok (n:=20+2 * i) (m:=100+10 * i) (by omega) (by omega) now o.st ho.hs h.s h.c h.j
  have hh:=headA_h now o.st ho.hs h.h h.c r.j
  have hv:=headA_ev now o.st o.hs r.s r.j r.c
  exact ⟨hk.1.s,hh.mono (by omega),hk.1.c.mono (by omega) (by omega),hk.2.1,by show 0<=(headA now o.st o.hs r.s r.j r.c).1.2;omega,by show (headA now o.st o.hs r.s r.j r.c).1.2<=_;omega,by show (r.ev ++ _).length<=_;rw [List.length_append];omega⟩
 ·split
  ·have hv:=data_ev o.bo r.s
   exact ⟨h.s.data _,dataF_p (HOk.nil _) _ hH,hC,h.j,h1,by show r.j.2<=_;omega,by show (r.ev ++ _).length<=_;rw [List.length_append];omega⟩
  ·split
   ·unfold endF
    split
    ·exact ⟨h.s.pha 3,hH,(h.c.keep h.s (by omega) r.s.st h.h h.s.sb now).mono (by omega) (by omega),h.j,h1,by show r.j.2<=_;omega,by show (r.ev ++ [endV]).length<=_;rw [List.length_append,List.length_singleton];omega⟩
    ·exact ⟨h.s,hH,hC,h.j,h1,by show r.j.2<=_;omega,by show (r.ev ++ []).length<=_;rw [List.append_nil];omega⟩
   ·have hst:∀ e:Int,ROk (i+1) ⟨(stopF e r.s).1,r.j,r.c,r.ev ++ (stopF e r.s).2⟩:=fun e=>by
     have hv:=stop_ev e r.s
     refine ⟨h.s.stop e,?_,hC,h.j,h1,by show r.j.2<=_;omega,by show (r.ev ++ _).length<=_;rw [List.length_append];omega⟩
     show HOk _ (stopF e r.s).1.hs
     unfold stopF
     split
     ·exact HOk.nil _
     ·exact hH
    split
    ·exact hst 17
    ·exact hst 18
theorem newS_ok {tk:Int}{me ur og:ByteArray}{mo:Int}{qh:List Hd}{qb:ByteArray}{ck:Bool}(ql:qh.length<=100)(qz:∀ h∈qh,h.1.size<=1000/\h.2.size<=1000)(hg:og.size<=1000)(hu:ur.size<=450):SOk (newS tk me ur og mo qh qb ck):=
 ⟨Nat.zero_le _,⟨Nat.zero_le _,Nat.zero_le _,Nat.zero_le _,Nat.zero_le _,Nat.zero_le _,Nat.zero_le _⟩,Nat.zero_le _,ql,qz,hg,hu,HOk.nil _,Nat.zero_le _⟩
theorem SOk.putU {S:FS}(h:SOk S){u:U6}(hu:parseL S.ur.data.toList=some u)(m:ByteArray):SOk { putU S u with sm:=m }:=by
 obtain ⟨h1,h2,h3,h4,h5,h6⟩:=parse_len _ _ hu
 have hz:=h.ur
 rw [size_len] at h1 h2 h3 h4 h5 h6
 have hb:∀ l:List UInt8,l.length<=3 * S.ur.size+2->(bs l).size<=1352:=fun l hl=>by rw [bs_size];omega
 have a1:=hb _ h1
 have a2:=hb _ h2
 have a3:=hb _ h3
 have a4:=hb _ h4
 have a5:=hb _ h5
 have a6:=hb _ h6
 exact ⟨h.ho,⟨Nat.le_trans a1 (by omega),Nat.le_trans a2 (by omega),Nat.le_trans a3 (by omega),Nat.le_trans a4 (by omega),Nat.le_trans a5 (by omega),Nat.le_trans a6 (by omega)⟩,Nat.le_trans a4 (by omega),h.ql,h.qz,h.og,h.ur,h.hs,h.sb⟩
theorem beginF_ok {n m:Nat}(hm:m<=800)(J:List Ck)(now:Int){S:FS}(hS:SOk S){C:List En}(hC:COk n m C):OOk n m (beginF J now S C):=by
 unfold beginF
 split
 ·exact failO_ok hC hS _
 ·split
  ·exact failO_ok hC hS _
  ·next u hu=>
   split
   ·exact failO_ok hC hS _
   ·split
    ·exact failO_ok hC hS _
    ·exact sendF_ok hm J now 11 _ _ (hS.putU hu _) hC
theorem beginF_h {P:List Hd->Prop}(h0:P [])(J:List Ck)(now:Int){S:FS}(hS:P S.hs){C:List En}(hC:∀ e∈C,P e.hd):POk P (beginF J now S C):=by
 unfold beginF
 split
 ·exact ⟨h0,hC⟩
 ·split
  ·exact ⟨h0,hC⟩
  ·split
   ·exact ⟨h0,hC⟩
   ·split
    ·exact ⟨h0,hC⟩
    ·exact sendF_p h0 J now 11 _ _ hS hC
theorem beginF_ev (J:List Ck)(now:Int)(S:FS)(C:List En):(beginF J now S C).ev.length<=3:=by
 unfold beginF
 split
 ·exact (failO_ev _ _ _).2
 ·split
  ·exact (failO_ev _ _ _).2
  ·split
   ·exact (failO_ev _ _ _).2
   ·split
    ·exact (failO_ev _ _ _).2
    ·exact (sendF_ev J now 11 _ _).2
theorem startF_ok {now:Int}{S:FS}(hS:SOk S)(hh:S.hs=[]){j:List Ck × Int}(hJ:JOk j.1)(h1:0<=j.2)(h2:j.2<=1125899906842624){C:List En}(hC:COk 20 100 C):ROk 0 (startF now S j C):=by
 have h:=beginF_ok (by omega) j.1 now hS hC
 exact ⟨h.s,(beginF_h (P:=HOk 100) (HOk.nil _) j.1 now (by rw [hh];exact HOk.nil _) (fun e he=>(hC.ok e he).hd)).s,h.c,hJ,h1,by show j.2<=_;omega,beginF_ev _ _ _ _⟩
theorem runF_ok {now:Int}:∀ (ops:List Op4) (i:Nat) (r:Rn),(∀ o∈ops,OpOk o)->i+ops.length<=50->ROk i r->ROk (i+ops.length) (runF now ops r)
 | [],i,r,_,_,h=>h
 | o :: ops, i, r, ho, hi, h => by
   have hi:i+(ops.length+1)<=50:=hi
   have:=runF_ok (now:=now) ops (i+1) (opF now o r) (fun x hx=>ho x (List.mem_cons_of_mem _ hx)) (by omega) (opF_ok (ho o List.mem_cons_self) (by omega) h)
   rw [runF_cons]
   show ROk (i+(ops.length+1)) _
   rw [show i+(ops.length+1)=i+1+ops.length by omega]
   exact this
end Go.Proofs.YtjdhaacmlpegoaaGreatDoor
