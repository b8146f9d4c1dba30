/- Part 16 of what the proof needs: B7 TK. -/
import Derived.Test.YtjdhaacmlpegoaaGreatDoorP11
import Derived.ProofKit
import Derived.Deep.Slices
import Derived.JoinedCond
import Derived.Test.YtjdhaacmlpegoaaGreatDoorP01
set_option maxRecDepth 20000
set_option maxHeartbeats 16000000
namespace Go.Proofs.YtjdhaacmlpegoaaGreatDoor
set_option linter.unusedVariables false
set_option linter.unusedSimpArgs false
open Go.RowKit
def WtH (l:List Hd):Prop:=∀ h∈l,h.1.size<=140737488355328/\h.2.size<=140737488355328
end Go.Proofs.YtjdhaacmlpegoaaGreatDoor
namespace Go.Proofs.YtjdhaacmlpegoaaGreatDoor
set_option linter.unusedVariables false
set_option linter.unusedSimpArgs false
open Go.RowKit
theorem wt_each {H:Type}{P:Program}:∀ {ts:List TypeId} {ds:List (DataW H)} (i:Nat) {t:TypeId} {d:DataW H} {n:Nat},ts[i]? = some t->ds[i]? = some d->n∈d.weights P t->n∈DataW.weightsEach P ts ds:=by
 intro ts
 induction ts with
 | nil=>intro ds i t d n h;simp at h
 | cons u ts ih=>
   intro ds i t d n h1 h2 h3
   cases ds with
   | nil=>simp at h2
   | cons x ds=>
     unfold DataW.weightsEach
     cases i with
     | zero =>
       simp at h1 h2
       subst h1 h2
       exact List.mem_append_left _ h3
     | succ i=>exact List.mem_append_right _ (ih i (by simpa using h1) (by simpa using h2) h3)
theorem wt_all {H:Type}{P:Program}{e:TypeId}:∀ {ds:List (DataW H)} (i:Nat) {d:DataW H} {n:Nat},ds[i]? = some d->n∈d.weights P e->n∈DataW.weightsAll P e ds:=by
 intro ds
 induction ds with
 | nil=>intro i d n h;simp at h
 | cons x ds ih=>
   intro i d n h1 h2
   unfold DataW.weightsAll
   cases i with
   | zero=>
     simp at h1
     subst h1
     exact List.mem_append_left _ h2
   | succ i=>exact List.mem_append_right _ (ih i (by simpa using h1) h2)
theorem wt_struct {H:Type}{P:Program}{t:TypeId}{fs:Array Field}(ht:P.underlying t=some (.struct fs)){parts:List (DataW H)}(i:Nat){f:Field}{d:DataW H}{n:Nat}(hf:fs[i]? = some f)(hd:parts[i]? = some d)(h:n∈d.weights P f.type):n∈(DataW.agg parts).weights P t:=by
 unfold DataW.weights
 rw [ht]
 refine wt_each i ?_ hd h
 rw [List.getElem?_map]
 have:fs.toList[i]? = some f:=by simpa using hf
 rw [this];rfl
theorem wt_slice {H:Type}{P:Program}{t e:TypeId}(ht:P.underlying t=some (.slice e)){elems spare:List (DataW H)}(i:Nat){d:DataW H}{n:Nat}(hd:elems[i]? = some d)(h:n∈d.weights P e):n∈(DataW.slice elems spare).weights P t:=by
 unfold DataW.weights
 rw [ht]
 exact List.mem_cons_of_mem _ (List.mem_append_left _ (wt_all i hd h))
theorem wt_string {H:Type}{P:Program}{t:TypeId}(s:ByteArray):s.size∈(DataW.lit (H:=H) (.string s.data.toList)).weights P t:=by
 unfold DataW.weights
 simp
def WtOk {H:Type}(P:Program)(t:TypeId)(d:DataW H):Prop:=∀ n∈d.weights P t,n<=reachBytes
theorem wt_at {H:Type}{P:Program}{ts:List TypeId}{ds:List (DataW H)}(h:(DataW.weightsEach P ts ds).all (·<=reachBytes)=true)(i:Nat){t:TypeId}{d:DataW H}(ht:ts[i]? = some t)(hd:ds[i]? = some d):WtOk P t d:=fun n hn=>by
 have:=List.all_eq_true.1 h n (wt_each i ht hd hn)
 simpa using this
theorem WtOk.struct {H:Type}{P:Program}{t:TypeId}{fs:Array Field}{parts:List (DataW H)}(h:WtOk P t (.agg parts))(ht:P.underlying t=some (.struct fs))(i:Nat){f:Field}{d:DataW H}(hf:fs[i]? = some f)(hd:parts[i]? = some d):WtOk P f.type d:=fun n hn=>h n (wt_struct ht i hf hd hn)
theorem WtOk.slice {H:Type}{P:Program}{t e:TypeId}{elems spare:List (DataW H)}(h:WtOk P t (.slice elems spare))(ht:P.underlying t=some (.slice e))(i:Nat){d:DataW H}(hd:elems[i]? = some d):WtOk P e d:=fun n hn=>h n (wt_slice ht i hd hn)
theorem WtOk.str {H:Type}{P:Program}{t:TypeId}{s:ByteArray}(h:WtOk P t (DataW.lit (H:=H) (.string s.data.toList))):s.size<=140737488351232:=h _ (wt_string s)
end Go.Proofs.YtjdhaacmlpegoaaGreatDoor
namespace Go.Proofs.YtjdhaacmlpegoaaGreatDoor
set_option linter.unusedVariables false
set_option linter.unusedSimpArgs false
open Go.RowKit
section
variable {H : Type} {enc : TypeId × Value → H} {P : Program} {w : World} {base : Nat} {held : Bool}
theorem pick_rows {α:Type}(n:Nat)(Q:Nat->α->Prop)(h:∀ i,i<n->∃ p,Q i p):∃ l:List α,l.length=n/\∀ i (hi:i<l.length),Q i l[i]:=by
 induction n with
 | zero=>exact ⟨[],rfl,fun i hi=>by simp at hi⟩
 | succ n ih=>
   obtain ⟨l,hl,hq⟩:=ih (fun i hi=>h i (by omega))
   obtain ⟨p,hp⟩:=h n (by omega)
   refine ⟨l ++ [p],by simp [hl],fun i hi=>?_⟩
   by_cases hin:i<l.length
   ·rw [List.getElem_append_left hin];exact hq i hin
   ·obtain rfl:i=l.length:=by simp at hi;omega
    rw [List.getElem_append_right lr]
    simpa [hl] using hp
theorem cell_spot2 {w:World}{a:Addr}{u:Value}(h:w.cell? a=some u):a.spot=none/\a.block<w.heap.size:=by
 unfold World.cell? at h
 by_cases hlt:a.block<w.heap.size
 ·refine ⟨?_,hlt⟩
  cases hs:a.spot with
  | none=>rfl
  | some k=>
    split at h
    ·simp [hs] at h
    ·cases h
 ·rw [Array.getElem?_eq_none (by omega)] at h
  simp at h
theorem open_rows {α:Type}(en:α->List Value)(K:Nat)(hK:∀ x,(en x).length=K)(hK0:0<K)(Good Wt:α->Prop){t e:TypeId}{fuel:Nat}{cs:List Value}{x:DataW H × List MemPlace}
 (ht:P.underlying t=some (.slice e)) (hce:P.cellsOf e=K)
 (each:∀ n cs (x:DataW H × List MemPlace),DataW.trod enc P w base (fun _=>true) held n e cs=some x->∃ c,cs=en c/\Good c/\(WtOk P e x.1->Wt c))
 (h:DataW.trod enc P w base (fun _=>true) held fuel t cs=some x):∃ v l,cs=[v]/\SlK en K w v l/\(∀ c∈l,Good c)/\(WtOk P t x.1->∀ c∈l,Wt c):=by
 rcases Go.Deep.open_slice ht h with ⟨hc0,-⟩ | ⟨a,len,cap,m,n,D,Pl,hcs,hb,hl,hm,hmm,hx,hi⟩
 ·exact ⟨_,[],hc0,.inl ⟨rfl,none,0,rfl,Nat.zero_le _⟩,(fun c hc=>by cases hc),(fun _ c hc=>by cases hc)⟩
 ·have key:∀ k,k<len->∃ c:α,(∀ j u,(en c)[j]? = some u->w.cell? ((a.add (k * K)).add j)=some u)/\Good c/\(WtOk P e (D k)->Wt c):=fun k hk=>by
   obtain ⟨cs',hc',ht'⟩:=hi k (by rw [hmm];simp;omega)
   rw [hce] at hc'
   obtain ⟨_,hcl,hat⟩:=World.cells?_some hc'
   obtain ⟨c,rfl,hg,hw⟩:=each _ _ _ ht'
   refine ⟨c,fun j u hu=>?_,hg,hw⟩
   have hj:j<K:=by rw [<-hK c];exact (List.getElem?_eq_some_iff.1 hu).1
   rw [hat j hj];exact hu
  obtain ⟨l,hll,hq⟩:=pick_rows len _ key
  refine ⟨_,l,hcs,?_,fun c hc=>?_,fun hw c hc=>?_⟩
  ·cases l with
   | nil=>exact .inl ⟨rfl,some a,cap,by rw [<-hll];rfl,hm⟩
   | cons p l=>
     have hp:0<(en p).length:=by rw [hK];exact hK0
     have z0:=(hq 0 (by simp)).1 0 _ (List.getElem?_eq_getElem hp)
     have hz:(a.add (0 * K)).add 0=a:=by unfold Addr.add;simp
     rw [hz] at z0
     obtain ⟨hsp,hlt⟩:=cell_spot2 z0
     obtain ⟨ab,ao,sp⟩:=a
     have hsp:sp=none:=hsp
     subst hsp
     refine .inr ⟨by simp,ab,ao,cap,by rw [hll],by omega,hm,hlt,fun k hk j u hu=>?_⟩
     have:=(hq k hk).1 j u hu
     have e1:∀ o x:Nat,(⟨ab,o,none⟩:Addr).add x=⟨ab,o+x,none⟩:=fun o x=>by unfold Addr.add;split <;> simp_all
     rw [e1,e1] at this
     exact this
  ·obtain ⟨k,hk,rfl⟩:=List.getElem_of_mem hc
   exact (hq k hk).2.1
  ·obtain ⟨k,hk,rfl⟩:=List.getElem_of_mem hc
   rw [hx] at hw
   exact (hq k hk).2.2 (hw.slice ht k (d:=D k) (by rw [List.getElem?_map,List.getElem?_range (by omega)];rfl))
theorem open_hd {e s:TypeId}{f0 f1:Field}{fuel:Nat}{cs:List Value}{x:DataW H × List MemPlace}(he:P.underlying e=some (.struct #[f0,f1]))(hs:P.underlying s=some .string)(o:f0.offset=0/\f1.offset=1/\f0.type=s/\f1.type=s)(hcs:P.cellsOf s=1)(hce:P.cellsOf e=2)
 (h:DataW.trod enc P w base (fun _=>true) held fuel e cs=some x):∃ c:Hd,cs=hdC c/\True/\(WtOk P e x.1->c.1.size<=140737488355328/\c.2.size<=140737488355328):=by
 obtain ⟨xs,n,_,rfl,hl,hlen,hf⟩:=DataW.trod_struct he h
 match xs,hlen with
 | [y0,y1],_=>
   have g0:=hf 0 f0 rfl
   have g1:=hf 1 f1 rfl
   rw [o.1,o.2.2.1,hcs] at g0
   rw [o.2.1,o.2.2.2,hcs] at g1
   obtain ⟨s0,e0,d0,_⟩:=DataW.trod_string hs g0
   obtain ⟨s1,e1,d1,_⟩:=DataW.trod_string hs g1
   rw [hce] at hl
   match cs,hl with
   | [u0,u1],_=>
     simp at e0 e1
     subst e0 e1
     refine ⟨(s0,s1),rfl,trivial,fun hw=>?_⟩
     have w0:=hw.struct he 0 (f:=f0) (d:=y0.1) rfl rfl
     have w1:=hw.struct he 1 (f:=f1) (d:=y1.1) rfl rfl
     rw [d0] at w0
     rw [d1] at w1
     exact ⟨Nat.le_trans w0.str (by decide),Nat.le_trans w1.str (by decide)⟩
structure HTy (P:Program)(t e s:TypeId)(f0 f1:Field):Prop where
 ht:P.underlying t=some (.slice e)
 he:P.underlying e=some (.struct #[f0,f1])
 hs:P.underlying s=some .string
 o:f0.offset=0/\f1.offset=1/\f0.type=s/\f1.type=s
 cs:P.cellsOf s=1
 ce:P.cellsOf e=2
 ct:P.cellsOf t=1
theorem open_hds {t e s:TypeId}{f0 f1:Field}(ty:HTy P t e s f0 f1){fuel:Nat}{cs:List Value}{x:DataW H × List MemPlace}
 (h:DataW.trod enc P w base (fun _=>true) held fuel t cs=some x):∃ (v:Value) (l:List Hd),cs=[v]/\SlK hdC 2 w v l/\(WtOk P t x.1->WtH l):=by
 obtain ⟨v,l,h1,h2,_,h3⟩:=open_rows hdC 2 (fun _=>rfl) (by decide) (fun _=>True) (fun c=>c.1.size<=140737488355328/\c.2.size<=140737488355328) ty.ht ty.ce (fun n cs x hx=>open_hd ty.he ty.hs ty.o ty.cs ty.ce hx) h
 exact ⟨v,l,h1,h2,h3⟩
end
end Go.Proofs.YtjdhaacmlpegoaaGreatDoor
namespace Go.Proofs.YtjdhaacmlpegoaaGreatDoor
set_option linter.unusedVariables false
set_option linter.unusedSimpArgs false
open Go.RowKit
abbrev fqC (tk:Int)(me ur og:ByteArray)(mo:Int)(vh:Value)(bo:ByteArray)(ck:Bool):List Value:=[.int .i64 tk,.string me,.string ur,.string og,.int .i64 mo,vh,.string bo,.bool ck]
section
variable {H : Type} {enc : TypeId × Value → H} {P : Program} {w : World} {base : Nat} {held : Bool}
structure QTy (P:Program)(t h e s i b:TypeId)(f0 f1 g0 g1 g2 g3 g4 g5 g6 g7:Field):Prop where
 hh:HTy P h e s f0 f1
 ht:P.underlying t=some (.struct #[g0,g1,g2,g3,g4,g5,g6,g7])
 hi:P.underlying i=some (.int .i64)
 hb:P.underlying b=some .bool
 o:g0.offset=0/\g1.offset=1/\g2.offset=2/\g3.offset=3/\g4.offset=4/\g5.offset=5/\g6.offset=6/\g7.offset=7
 tt:g0.type=i/\g1.type=s/\g2.type=s/\g3.type=s/\g4.type=i/\g5.type=h/\g6.type=s/\g7.type=b
 ci:P.cellsOf i=1
 cb:P.cellsOf b=1
 ct:P.cellsOf t=8
theorem open_fq {t h e s i b:TypeId}{f0 f1 g0 g1 g2 g3 g4 g5 g6 g7:Field}(ty:QTy P t h e s i b f0 f1 g0 g1 g2 g3 g4 g5 g6 g7){fuel:Nat}{cs:List Value}{x:DataW H × List MemPlace}
 (hx:DataW.trod enc P w base (fun _=>true) held fuel t cs=some x):∃ (tk:Int) (me ur og:ByteArray) (mo:Int) (vh:Value) (bo:ByteArray) (ck:Bool) (l:List Hd),cs=fqC tk me ur og mo vh bo ck/\SlK hdC 2 w vh l/\(WtOk P t x.1->WtH l):=by
 obtain ⟨xs,n,_,rfl,hl,hlen,hf⟩:=DataW.trod_struct ty.ht hx
 match xs,hlen with
 | [y0, y1, y2, y3, y4, y5, y6, y7], _ =>
   have k0:=hf 0 g0 rfl
   have k1:=hf 1 g1 rfl
   have k2:=hf 2 g2 rfl
   have k3:=hf 3 g3 rfl
   have k4:=hf 4 g4 rfl
   have k5:=hf 5 g5 rfl
   have k6:=hf 6 g6 rfl
   have k7:=hf 7 g7 rfl
   obtain ⟨o0,o1,o2,o3,o4,o5,o6,o7⟩:=ty.o
   obtain ⟨t0,t1,t2,t3,t4,t5,t6,t7⟩:=ty.tt
   rw [o0,t0,ty.ci] at k0
   rw [o1,t1,ty.hh.cs] at k1
   rw [o2,t2,ty.hh.cs] at k2
   rw [o3,t3,ty.hh.cs] at k3
   rw [o4,t4,ty.ci] at k4
   rw [o5,t5,ty.hh.ct] at k5
   rw [o6,t6,ty.hh.cs] at k6
   rw [o7,t7,ty.cb] at k7
   obtain ⟨n0,e0,_⟩:=DataW.trod_int ty.hi k0
   obtain ⟨s1,e1,_⟩:=DataW.trod_string ty.hh.hs k1
   obtain ⟨s2,e2,_⟩:=DataW.trod_string ty.hh.hs k2
   obtain ⟨s3,e3,_⟩:=DataW.trod_string ty.hh.hs k3
   obtain ⟨n4,e4,_⟩:=DataW.trod_int ty.hi k4
   obtain ⟨v5,l5,e5,b5,z5⟩:=open_hds ty.hh k5
   obtain ⟨s6,e6,_⟩:=DataW.trod_string ty.hh.hs k6
   obtain ⟨q7,e7,_⟩:=DataW.trod_bool ty.hb k7
   rw [ty.ct] at hl
   match cs,hl with
   | [u0, u1, u2, u3, u4, u5, u6, u7], _ =>
     simp at e0 e1 e2 e3 e4 e5 e6 e7
     subst e0 e1 e2 e3 e4 e5 e6 e7
     refine ⟨n0,s1,s2,s3,n4,u5,s6,q7,l5,rfl,b5,fun hw=>?_⟩
     have:=hw.struct ty.ht 5 (f:=g5) (d:=y5.1) rfl rfl
     rw [t5] at this
     exact z5 this
abbrev fsC (tk:Int)(me ur og:ByteArray)(mo:Int)(vh:Value)(bo:ByteArray)(ck:Bool)(ph:Int)(a b c d e f:ByteArray)(sm:ByteArray)(ho:Int)(ch hi:Bool)(st:Int)(wh:Value)(sb:ByteArray)(er:Int):List Value:=[.int .i64 tk,.string me,.string ur,.string og,.int .i64 mo,vh,.string bo,.bool ck,.int .i64 ph,.string a,.string b,.string c,.string d,.string e,.string f,.string sm,.int .i64 ho,.bool ch,.bool hi,.int .i64 st,wh,.string sb,.int .i64 er]
end
end Go.Proofs.YtjdhaacmlpegoaaGreatDoor
namespace Go.Proofs.YtjdhaacmlpegoaaGreatDoor
open Go.RowKit
set_option linter.unusedSimpArgs false
set_option linter.unusedVariables false
abbrev okH44 (h:Hd):Bool:=decide (h.1.size+h.2.size<=300)
def attrB44 (l:List Hd):Bool:=l.all okH44 && decide (l.length<=8)
theorem attrB44_sz {l:List Hd}(h:attrB44 l=true):HdSz l/\l.length<=8:=by
 unfold attrB44 at h
 rw [Bool.and_eq_true,List.all_eq_true,decide_eq_true_eq] at h
 have h1:∀ x∈l,x.1.size+x.2.size<=300:=fun x hx=>of_decide_eq_true (h.1 x hx)
 exact ⟨⟨by omega,fun x hx=>by have:=h1 x hx;omega⟩,h.2⟩
theorem attrs44_is (l:List Hd)(v:Value)(w:World)(hv:SlK hdC 2 w v l)(hz:WtH l)(R:Bool)(hR:attrB44 l=R):
 Calls Tryz.prog 22 #[v] w fun e w'=>e = .returned (.bool R)/\Below w.heap.size w w':=by
 have HR:=Lib.hid hR
 have HZ:=Lib.hid hz
 have hle:l.length<=9223372036854775807:=by
  rcases hv with ⟨rfl,_⟩ | ⟨_,b0,off,cap,he,hc1,hc2,hc3,hcell⟩
  ·exact Nat.zero_le _
  ·unfold maxLen at hc2;omega
 have HC:Hid (0<l.length->∃ b0 off cap:Nat,v = .slice (some ⟨b0,off,none⟩) l.length cap/\b0<w.heap.size/\∀ kk (h:kk<l.length) j u,(hdC l[kk])[j]? = some u->w.cell? ⟨b0,off+kk * 2+j,none⟩=some u):=Lib.hid (by
  intro h0
  rcases hv with ⟨rfl,_⟩ | ⟨_,b0,off,cap,he,hc1,hc2,hc3,hcell⟩
  ·simp at h0
  ·exact ⟨b0,off,cap,he,hc3,hcell⟩)
 obtain ⟨sa,sc,rfl,_⟩:=hv.shape
 clear hv hR hz
 go_enter Tryz.func22,Tryz.ntmps22
 go_wp2_with fail
 go_loopw [7] (fun iv wr=>∃ k:Nat,k<=l.length/\iv = .int .i64 k/\Hid ((l.take k).all okH44=true)/\Below w.heap.size w wr) (fun iv _=>l.length - (intOf iv).toNat)
 case atStart=>exact ⟨0,Nat.zero_le _,rfl,Lib.hid rfl,Below.refl _ _⟩
 case round=>
  obtain ⟨kk,hk,rfl,HA,hbw⟩:=hrel
  by_cases hlt:kk<l.length
  ·obtain ⟨b0,off,cap,he,hb0,hcell⟩:=HC.out (by omega)
   injection he with e1 e2 e3
   subst e1 e3
   have cc:∀ j u,(hdC l[kk])[j]? = some u->wr.cell? ⟨b0,off+kk * 2+j,none⟩=some u:=fun j u hu=>(brl hbw _ _ hb0).trans (hcell kk hlt j u hu)
   have hzz:=HZ.out _ (List.getElem_mem hlt)
   have hst:(l.take (kk+1)).all okH44=okH44 l[kk]:=by
    rw [List.take_succ_eq_append_getElem hlt,List.all_append,HA.out];simp
   have hmem:l[kk]∈l:=List.getElem_mem hlt
   obtain ⟨y,hy⟩:∃ y,l[kk]=y:=⟨_,rfl⟩
   rw [hy] at cc hzz hst hmem
   clear hy hcell e2
   obtain ⟨yn,yv⟩:=y
   have hz1:yn.size<=140737488355328:=hzz.1
   have hz2:yv.size<=140737488355328:=hzz.2
   have c0:=cc 0 _ rfl
   have c1:=cc 1 _ rfl
   simp only [Nat.add_zero] at c0
   have HST:=Lib.hid hst
   have HMEM:=Lib.hid hmem
   clear cc hzz hst hmem
   have hki:(kk:Int)<(l.length:Int):=by omega
   have hal:Below w.heap.size w (wr.alloc (.cells #[.string yn,.string yv] 70)):=hbw.alloc hbw.size _
   by_cases hbig:yn.size+yv.size<=300
   ·have g1:¬ (300:Int)<(yn.size:Int)+(yv.size:Int):=by omega
    go_wp2_with fail
    go_roundw
    case rel=>exact ⟨kk+1,by omega,by go_num,Lib.hid (by rw [HST.out];exact decide_eq_true hbig),hal⟩
    case measure=>simp [intOf];omega
   ·have g1:(300:Int)<(yn.size:Int)+(yv.size:Int):=by omega
    go_wp2_with fail
    go_ret
    refine ⟨ret_bool ?_,hal⟩
    rw [<-HR.out]
    unfold attrB44
    have:l.all okH44=false:=by
     rw [Bool.eq_false_iff]
     intro h
     exact hbig (of_decide_eq_true (List.all_eq_true.1 h _ HMEM.out))
    rw [this];rfl
  ·obtain rfl:kk=l.length:=by omega
   have hall:l.all okH44=true:=by have:=HA.out;rwa [List.take_length] at this
   have HALL:=Lib.hid hall
   clear hall
   go_wp2_with fail
   go_ret
   refine ⟨ret_bool ?_,hbw⟩
   rw [<-HR.out]
   unfold attrB44
   rw [HALL.out,Bool.true_and,Bool.eq_iff_iff,decide_eq_true_eq,decide_eq_true_eq]
   omega
end Go.Proofs.YtjdhaacmlpegoaaGreatDoor
