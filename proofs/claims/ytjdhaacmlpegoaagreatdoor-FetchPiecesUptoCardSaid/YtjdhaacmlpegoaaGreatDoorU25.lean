/- Part 25 of what the proof needs: YS YT HV YN YE WG. -/
import Derived.Test.YtjdhaacmlpegoaaGreatDoorU24
import Derived.OpenShut
set_option maxRecDepth 20000
set_option maxHeartbeats 16000000
set_option linter.unusedSimpArgs false
set_option linter.unusedVariables false
namespace Go.Proofs.YtjdhaacmlpegoaaGreatDoor
open Go.RowKit
structure RunM (r:Rn)(ev:Value)(l:List (Value × Ev))(vj vc:Value)(lx:List Ee)(w:World):Prop where
 ev:SlK evC 7 w ev l
 eq:l.map (·.2)=r.ev
 hs:∀ y∈l,SlK hdC 2 w y.1 y.2.hs
 ja:SlK ckL 9 w vj r.j.1
 ca:SlK eeC 6 w vc lx
 rd:∀ x∈lx,Rd w x.1 x.2
 ce:lx.map (·.2)=r.c
theorem RunM.below {r:Rn}{ev:Value}{l:List (Value × Ev)}{vj vc:Value}{lx:List Ee}{w w':World}(h:RunM r ev l vj vc lx w)(k:Below w.heap.size w w'):RunM r ev l vj vc lx w':=
 ⟨h.ev.below k lr,h.eq,fun y hy=>(h.hs y hy).below k lr,h.ja.below k lr,h.ca.below k lr,fun x hx=>(h.rd x hx).below k lr,h.ce⟩
structure RunL (w:World)(now:Int)(r:Rn)(s:Nat)(L:List Value)(ev:Value)(l:List (Value × Ev))(vj vc:Value)(lx:List Ee)(w8:World):Prop where
 st:AtL w8 s L
 wd:AtL w8 (s+1) [vj,.int .i64 r.j.2,vc,.int .i64 now]
 le:w.heap.size<=s
 pre:∃ w3:World,w3.heap.size=s/\RunM r ev l vj vc lx w3/\Below s w3 w8
 ls:∃ (va:Option Addr) (vk:Nat) (wa:Option Addr) (wk:Nat),L=fsV r.s (.slice va r.s.qh.length vk) (.slice wa r.s.hs.length wk)/\SlK hdC 2 w8 (.slice va r.s.qh.length vk) r.s.qh/\SlK hdC 2 w8 (.slice wa r.s.hs.length wk) r.s.hs
 ev:SlK evC 7 w8 ev l
 eq:l.map (·.2)=r.ev
 hs:∀ y∈l,SlK hdC 2 w8 y.1 y.2.hs
 ja:SlK ckL 9 w8 vj r.j.1
 ca:SlK eeC 6 w8 vc lx
 rd:∀ x∈lx,Rd w8 x.1 x.2
 ce:lx.map (·.2)=r.c
 bl:Below w.heap.size w w8
theorem RunL.next {w w8 w9:World}{now:Int}{r:Rn}{s:Nat}{L:List Value}{ev:Value}{l:List (Value × Ev)}{vj vc:Value}{lx:List Ee}(h:RunL w now r s L ev l vj vc lx w8)(k:Below w8.heap.size w8 w9):RunL w now r s L ev l vj vc lx w9:=by obtain ⟨va,vk,wa,wk,e,h1,h2⟩:=h.ls;obtain ⟨w3,e3,m3,b3⟩:=h.pre;exact ⟨h.st.next k,h.wd.next k,h.le,⟨w3,e3,m3,b3.trans (k.mono (by rw [<-e3];exact b3.size))⟩,⟨va,vk,wa,wk,e,h1.below k lr,h2.below k lr⟩,h.ev.below k lr,h.eq,fun y hy=>(h.hs y hy).below k lr,h.ja.below k lr,h.ca.below k lr,fun x hx=>(h.rd x hx).below k lr,h.ce,h.bl.trans (k.mono h.bl.size)⟩
theorem RunL.ph {w w8:World}{now:Int}{r:Rn}{s:Nat}{L:List Value}{ev:Value}{l:List (Value × Ev)}{vj vc:Value}{lx:List Ee}(h:RunL w now r s L ev l vj vc lx w8):w8.cell? ⟨s,8,none⟩=some (.int .i64 r.s.ph):=by obtain ⟨va,vk,wa,wk,e,_⟩:=h.ls;exact h.st.c 8 (by rw [e];rfl)
theorem RunL.er {w w8:World}{now:Int}{r:Rn}{s:Nat}{L:List Value}{ev:Value}{l:List (Value × Ev)}{vj vc:Value}{lx:List Ee}(h:RunL w now r s L ev l vj vc lx w8):w8.cell? ⟨s,22,none⟩=some (.int .i64 r.s.er):=by obtain ⟨va,vk,wa,wk,e,_⟩:=h.ls;exact h.st.c 22 (by rw [e];rfl)
def lawW (w3:World)(L V:List Value):World:=(((w3.alloc (.cells fz.toArray 40)).alloc (.cells wz.toArray 27)).setCells w3.heap.size 0 L).setCells (w3.heap.size+1) 0 V
theorem lawW_at (w3:World):AtL ((w3.alloc (.cells fz.toArray 40)).alloc (.cells wz.toArray 27)) w3.heap.size fz:=(AtL.new w3 fz 40).alloc (.cells wz.toArray 27)
theorem lawW_at2 (w3:World)(L:List Value):AtL (((w3.alloc (.cells fz.toArray 40)).alloc (.cells wz.toArray 27)).setCells w3.heap.size 0 L) (w3.heap.size+1) wz:=by have h:=AtL.new (w3.alloc (.cells fz.toArray 40)) wz 27;rw [show (w3.alloc (.cells fz.toArray 40)).heap.size=w3.heap.size+1 by simp] at h;exact AtL.farSets (by omega) (o:=0) L h
theorem RunQ.law {w:World}{now:Int}{r:Rn}{x:Ending}{w3:World}(h:RunQ w now r x w3):
 ∃ (L V:List Value) (ea:Option Addr) (n ek:Nat) (l:List (Value × Ev)) (vj vc:Value) (lx:List Ee),x = .returned (.tuple #[.agg L.toArray,.slice ea n ek,.agg V.toArray])/\n=l.length/\(L.length=23/\L.all (·.oneCell')=true)/\(V.length=4/\V.all (·.oneCell')=true)/\RunL w now r w3.heap.size L (.slice ea n ek) l vj vc lx (lawW w3 L V):=by
 obtain ⟨va,vk,wa,wk,ea,ek,l,ja,jk,ca,ck,lx,rfl,⟨hq,hh⟩,⟨hev,hle,hevh⟩,hj,⟨hc,hcr,hce⟩,hb⟩:=h
 have hb2:Below w3.heap.size w3 (lawW w3 (fsV r.s (.slice va r.s.qh.length vk) (.slice wa r.s.hs.length wk)) [.slice ja r.j.1.length jk,.int .i64 r.j.2,.slice ca lx.length ck,.int .i64 now]):=
  Below.sets (k:=w3.heap.size+1) (by omega) (o:=0) _ (Below.sets (k:=w3.heap.size) lr (o:=0) _ (((Kc w3).alloc lr _).alloc (by simp) _))
 have hwd:AtL (lawW w3 (fsV r.s (.slice va r.s.qh.length vk) (.slice wa r.s.hs.length wk)) [.slice ja r.j.1.length jk,.int .i64 r.j.2,.slice ca lx.length ck,.int .i64 now]) (w3.heap.size+1) [.slice ja r.j.1.length jk,.int .i64 r.j.2,.slice ca lx.length ck,.int .i64 now]:=AtL.sets (lawW_at2 w3 _) rfl;refine ⟨_,[.slice ja r.j.1.length jk,.int .i64 r.j.2,.slice ca lx.length ck,.int .i64 now],ea,l.length,ek,l,.slice ja r.j.1.length jk,.slice ca lx.length ck,lx,rfl,rfl,⟨rfl,rfl⟩,⟨rfl,rfl⟩,⟨?_,hwd,hb.size,⟨w3,rfl,⟨SlK.of_own evC_len hev,hle,hevh,hj,hc,hcr,hce⟩,hb2⟩,⟨va,vk,wa,wk,rfl,hq.below hb2 lr,hh.below hb2 lr⟩,SlK.of_own evC_len (own_below hev hb2 lr),hle,fun y hy=>(hevh y hy).below hb2 lr,hj.below hb2 lr,hc.below hb2 lr,fun x hx=>(hcr x hx).below hb2 lr,hce,Kd hb hb2⟩⟩;exact AtL.farSets (by omega) (o:=0) _ (AtL.sets (lawW_at w3) rfl)
theorem slk_tail {α:Type}{enc:α->List Value}{k:Nat}{w:World}{b off c:Nat}{z:α}{l:List α}(h:SlK enc k w (.slice (some ⟨b,off,none⟩) (l.length+1) c) (z :: l)):SlK enc k w (.slice (some ⟨b,off+k,none⟩) l.length (c - 1)) l:=by
 rcases h with ⟨h,_⟩ | ⟨_,b2,off2,c2,hv,h1,h2,h3,h4⟩
 ·cases h
 ·injection hv with e1 e2 e3;injection e1 with e1;injection e1 with e1 e4;subst e1 e3 e4;rw [Kv] at h1;by_cases h0:l=[]
  ·subst h0;exact .inl ⟨rfl,_,_,rfl,by omega⟩
  ·exact .inr ⟨h0,_,_,_,rfl,by omega,by omega,h3,fun i hi j u hu=>by have:=h4 (i+1) (by rw [Kv];omega) j u (by simpa using hu);rw [show off+k+i * k+j=off+(i+1) * k+j by rw [Nat.add_mul];omega];exact this⟩
theorem SlK.of_at {α:Type}{enc:α->List Value}{k':Nat}(hk:∀ x,(enc x).length=k'){w:World}{b:Nat}{l:List α}{vs:List Value}(h:AtL w b vs)(he:vs=cellsK enc l)(h0:l≠[])(hl:l.length<=maxLen):SlK enc k' w (.slice (some ⟨b,0,none⟩) l.length l.length) l:=
 .inr ⟨h0,b,0,l.length,rfl,lr,hl,h.lt,fun i hi j u hu=>by rw [Jm];exact h.c _ (by rw [he];exact cellsK_get hk l i hi j u hu)⟩
theorem WIn.zero (w:World):WIn w (.slice none 0 0) [] (.slice none 0 0) []:=⟨slk_nil4 w,slk_nil4 w,fun x hx=>(by cases hx),fun x hx=>(by cases hx),fun x hx=>(by cases hx)⟩
theorem OIn.one {w:World}{k:Nat}{a:Nat}{st:Int}{vh:Value}{hs:List Hd}{bo:ByteArray}(h:AtL w k [.int .u8 a,.int .i64 st,vh,.string bo])(hv:SlK hdC 2 w vh hs)(hz:WtH hs):OIn w (.slice (some ⟨k,0,none⟩) 1 1) [(vh,⟨a,st,hs,bo⟩)]:=
 ⟨SlK.of_at (l:=[(vh,(⟨a,st,hs,bo⟩:Op4))]) opC_len h rfl (by simp) (show 1<=maxLen by decide),fun x hx=>(by obtain rfl:=Jc.1 hx;exact hv),fun x hx=>(by obtain rfl:=Jc.1 hx;exact hz)⟩
theorem few4_sz {J:List Ck}{nx:Int}{es:List En}{qh:List Hd}{ur og qb:ByteArray}{ops:List Op4}(h:few4 J nx es qh ur og qb ops=true):ur.size<=400/\og.size<=400/\qb.size<=400:=by unfold few4 at h;simp only [Jh,Jb] at h;obtain ⟨_,_,h7,_⟩:=h;omega
theorem few4_op {J:List Ck}{nx:Int}{es:List En}{qh:List Hd}{ur og qb:ByteArray}{ops:List Op4}(h:few4 J nx es qh ur og qb ops=true):∀ o∈ops,o.bo.size<=500/\HOk 8 o.hs:=by unfold few4 at h;simp only [Jh,Jb,Jv] at h;obtain ⟨_,_,_,_,_,h10⟩:=h;intro o ho;have:=h10 o ho;unfold opB4 at this;simp only [Jh,Jb] at this;exact ⟨this.2,(attr_hok this.1).1⟩
theorem OIn.row {w:World}{k:Nat}{vs:List Value}{lo:List (Value × Op4)}(h:AtL w k vs)(he:vs=cellsK opC lo)(h0:lo≠[])(hl:lo.length<=maxLen)(hv:∀ x∈lo,SlK hdC 2 w x.1 x.2.hs)(hz:∀ x∈lo,WtH x.2.hs):OIn w (.slice (some ⟨k,0,none⟩) lo.length lo.length) lo:=
 ⟨SlK.of_at opC_len h he h0 hl,hv,hz⟩
theorem wth_nil:WtH []:=fun x hx=>by cases hx
theorem url_fit {t:ByteArray}{u:U6}(h:parseL t.data.toList=some u)(hs:t.size<=400):(bs u.1).size<=40000/\(bs u.2.1).size<=40000/\(bs u.2.2.1).size<=40000/\(bs u.2.2.2.1).size<=40000/\(bs u.2.2.2.2.1).size<=40000/\(bs u.2.2.2.2.2).size<=40000:=by obtain ⟨h1,h2,h3,h4,h5,h6⟩:=parse_len _ _ h;rw [size_len] at h1 h2 h3 h4 h5 h6;simp only [bs_size];omega
theorem two_h {w:World}{l:List Hd}{sa sb:Option Addr}{sc sd:Nat}(hv:SlK hdC 2 w (.slice sa l.length sc) l)(hv2:SlK hdC 2 w (.slice sb l.length sd) l):
 0<l.length->∃ b0 off b2 off2:Nat,sa=some ⟨b0,off,none⟩/\sb=some ⟨b2,off2,none⟩/\∀ kk (h:kk<l.length) j u,(hdC l[kk])[j]? = some u->w.cell? ⟨b0,off+kk * 2+j,none⟩=some u/\w.cell? ⟨b2,off2+kk * 2+j,none⟩=some u:=by
 intro hlt;rcases hv with ⟨rfl,_⟩ | ⟨_,b0,off,cap,he,hc1,hc2,hc3,hcell⟩
 ·simp at hlt
 rcases hv2 with ⟨rfl,_⟩ | ⟨_,b2,off2,cap2,he2,hd1,hd2,hd3,hcell2⟩
 ·simp at hlt
 injection he with e1 e2 e3;injection he2 with f1 f2 f3;exact ⟨b0,off,b2,off2,e1,f1,fun kk h j u hu=>⟨hcell kk h j u hu,hcell2 kk h j u hu⟩⟩
theorem sameA (l:List Hd)(v v2:Value)(w:World)(hv:SlK hdC 2 w v l)(hv2:SlK hdC 2 w v2 l)(hl:l.length<=1000000):
 Calls Tryz.prog 46 #[v,v2] w fun x w'=>x = .returned (.bool true)/\Below w.heap.size w w':=by
 obtain ⟨sa,sc,rfl,_⟩:=hv.shape;obtain ⟨sb,sd,rfl,_⟩:=hv2.shape;have HC:=Kb (two_h hv hv2);clear hv hv2;go_enter Tryz.func46,Tryz.ntmps46;go_wp2_with fail;go_loopw [5] (fun iv wr=>∃ k:Nat,k<=l.length/\iv = .int .i64 k/\Below w.heap.size w wr) (fun iv _=>l.length - (intOf iv).toNat);case atStart=>exact ⟨0,Kh _,rfl,Kc _⟩
 case round=>
  obtain ⟨kk,hk,rfl,hbw⟩:=hrel;by_cases hlt:kk<l.length
  ·obtain ⟨b0,off,b2,off2,rfl,rfl,hcell⟩:=HC.out (by omega);have cc:∀ j u,(hdC l[kk])[j]? = some u->wr.cell? ⟨b0,off+kk * 2+j,none⟩=some u:=fun j u hu=>(brl hbw _ _ (cell_lt (hcell kk hlt j u hu).1)).trans (hcell kk hlt j u hu).1;have dd:∀ j u,(hdC l[kk])[j]? = some u->wr.cell? ⟨b2,off2+kk * 2+j,none⟩=some u:=fun j u hu=>(brl hbw _ _ (cell_lt (hcell kk hlt j u hu).2)).trans (hcell kk hlt j u hu).2;obtain ⟨y,hy⟩:=Ka (l[kk]);rw [hy] at cc dd;clear hy hcell;obtain ⟨yn,yv⟩:=y;have c0:=cc 0 _ rfl;have c1:=cc 1 _ rfl;have d0:=dd 0 _ rfl;have d1:=dd 1 _ rfl;simp only [Ku] at c0 d0;clear cc dd;have hki:(kk:Int)<(l.length:Int):=by omega
   exact M24
  ·obtain rfl:kk=l.length:=by omega
   go_wp2_with fail;go_ret;exact ⟨rfl,hbw⟩
theorem sameE (x y:Ee)(he:x.2=y.2)(w:World)(hx:Rd w x.1 x.2)(hy:Rd w y.1 y.2)(h1:x.2.va.length<=1000000)(h2:x.2.hd.length<=1000000):
 Calls Tryz.prog 47 #[eeA x,eeA y] w fun e w'=>e = .returned (.bool true)/\Below w.heap.size w w':=by
 obtain ⟨⟨u,vv,st,hh,bo,ti⟩,ex⟩:=x;obtain ⟨⟨u2,vv2,st2,hh2,bo2,ti2⟩,ey⟩:=y;have he:ex=ey:=he;subst he;have e1:u=ex.u:=hx.u;have e2:st=ex.st:=hx.st;have e3:bo=ex.bo:=hx.bo;have e4:ti=ex.ti:=hx.ti;have f1:u2=ex.u:=hy.u;have f2:st2=ex.st:=hy.st;have f3:bo2=ex.bo:=hy.bo;have f4:ti2=ex.ti:=hy.ti;have sa:SlK hdC 2 w vv ex.va:=hx.va;have sb:SlK hdC 2 w hh ex.hd:=hx.hd;have ta:SlK hdC 2 w vv2 ex.va:=hy.va;have tb:SlK hdC 2 w hh2 ex.hd:=hy.hd;rw [<-f1] at e1;rw [<-f2] at e2;rw [<-f3] at e3;rw [<-f4] at e4;subst e1 e2 e3 e4;clear f1 f2 f3 f4 hx hy;obtain ⟨va,hva⟩:∃ va,ex.va=va:=⟨_,rfl⟩
 obtain ⟨hd,hhd⟩:∃ hd,ex.hd=hd:=⟨_,rfl⟩
 have h1:ex.va.length<=1000000:=h1;have h2:ex.hd.length<=1000000:=h2;rw [hva] at sa ta h1;rw [hhd] at sb tb h2;clear hva hhd;have hB:Below w.heap.size w ((w.alloc (.cells [.string u,vv,.int .i64 st,hh,.string bo,.int .i64 ti].toArray 90)).alloc (.cells [.string u,vv2,.int .i64 st,hh2,.string bo,.int .i64 ti].toArray 90)):=((Kc w).alloc lr _).alloc (by simp) _;have C1:=Kb (fun w (h1':SlK hdC 2 w vv va) (h2':SlK hdC 2 w vv2 va)=>sameA va vv vv2 w h1' h2' h1);have C2:=Kb (fun w (h1':SlK hdC 2 w hh hd) (h2':SlK hdC 2 w hh2 hd)=>sameA hd hh hh2 w h1' h2' h2);have hsa:=sa.below hB lr;have hsb:=sb.below hB lr;have hta:=ta.below hB lr;have htb:=tb.below hB lr;have AA:=(AtL.new w [.string u,vv,.int .i64 st,hh,.string bo,.int .i64 ti] 90).alloc (.cells [.string u,vv2,.int .i64 st,hh2,.string bo,.int .i64 ti].toArray 90);have BB:=AtL.new (w.alloc (.cells [.string u,vv,.int .i64 st,hh,.string bo,.int .i64 ti].toArray 90)) [.string u,vv2,.int .i64 st,hh2,.string bo,.int .i64 ti] 90;rw [show (w.alloc (.cells [.string u,vv,.int .i64 st,hh,.string bo,.int .i64 ti].toArray 90)).heap.size=w.heap.size+1 by simp] at BB;obtain ⟨sa1,sa2,rfl,_⟩:=sa.shape;obtain ⟨sb1,sb2,rfl,_⟩:=sb.shape;obtain ⟨ta1,ta2,rfl,_⟩:=ta.shape;obtain ⟨tb1,tb2,rfl,_⟩:=tb.shape;clear sa sb ta tb;go_enter Tryz.func47,Tryz.ntmps47
 go_wp2_with (first
  | (with_reducible refine (C1.out _ hsa hta).mono ?_;rintro e w1 ⟨rfl,hb1⟩;have A1:=AA.next hb1;have B1:=BB.next hb1;have z3:=A1.c 3 rfl;have y3:=B1.c 3 rfl;have al1:=A1.lt;have bl1:=B1.lt;have hsb1:=hsb.below hb1 lr;have htb1:=htb.below hb1 lr)
  | (with_reducible refine (C2.out _ hsb1 htb1).mono ?_;rintro e w2 ⟨rfl,hb2⟩))
 go_ret;exact ⟨rfl,hB.trans ((Kd hb1 hb2).mono hB.size)⟩
theorem two_e {w:World}{l l2:List Ee}{sa sb:Option Addr}{n sc sd:Nat}(hn:l.length=n)(hm:l.map (·.2)=l2.map (·.2))(hv:SlK eeC 6 w (.slice sa n sc) l)(hv2:SlK eeC 6 w (.slice sb n sd) l2)(hr:∀ x∈l,Rd w x.1 x.2)(hr2:∀ x∈l2,Rd w x.1 x.2):
 0<n->∃ b0 off b2 off2:Nat,sa=some ⟨b0,off,none⟩/\sb=some ⟨b2,off2,none⟩/\∀ kk (h:kk<n),∃ x y:Ee,x∈l/\x.2=y.2/\Rd w x.1 x.2/\Rd w y.1 y.2/\(∀ j u,(eeC x)[j]? = some u->w.cell? ⟨b0,off+kk * 6+j,none⟩=some u)/\(∀ j u,(eeC y)[j]? = some u->w.cell? ⟨b2,off2+kk * 6+j,none⟩=some u):=by
 intro hlt;have hl2:l2.length=n:=by have:=Kq List.length hm;simp at this;omega
 rcases hv with ⟨rfl,_⟩ | ⟨_,b0,off,cap,he,hc1,hc2,hc3,hcell⟩
 ·simp at hn;omega
 rcases hv2 with ⟨rfl,_⟩ | ⟨_,b2,off2,cap2,he2,hd1,hd2,hd3,hcell2⟩
 ·simp at hl2;omega
 injection he with e1 e2 e3;injection he2 with f1 f2 f3;refine ⟨b0,off,b2,off2,e1,f1,fun kk h=>⟨l[kk],l2[kk],Ky _,?_,hr _ (Ky _),hr2 _ (Ky _),fun j u hu=>hcell kk (by omega) j u hu,fun j u hu=>hcell2 kk (by omega) j u hu⟩⟩;have:=Kq (fun z=>z[kk]?) hm;simp only [Zh,Jd (show kk<l.length by omega),Jd (show kk<l2.length by omega),Option.map_some,Js] at this;exact this
theorem e12_mk {W w':World}{b o c p:Nat}{x0 x1 x2 x3 x4 x5 y0 y1 y2 y3 y4 y5:Value}(hx:∀ j u,[x0,x1,x2,x3,x4,x5][j]? = some u->W.cell? ⟨b,o+j,none⟩=some u)(hy:∀ j u,[y0,y1,y2,y3,y4,y5][j]? = some u->W.cell? ⟨c,p+j,none⟩=some u)(hb:Below W.heap.size W w'):
 w'.cell? ⟨b,o,none⟩=some x0/\w'.cell? ⟨b,o+1,none⟩=some x1/\w'.cell? ⟨b,o+2,none⟩=some x2/\w'.cell? ⟨b,o+3,none⟩=some x3/\w'.cell? ⟨b,o+4,none⟩=some x4/\w'.cell? ⟨b,o+5,none⟩=some x5/\w'.cell? ⟨c,p,none⟩=some y0/\w'.cell? ⟨c,p+1,none⟩=some y1/\w'.cell? ⟨c,p+2,none⟩=some y2/\w'.cell? ⟨c,p+3,none⟩=some y3/\w'.cell? ⟨c,p+4,none⟩=some y4/\w'.cell? ⟨c,p+5,none⟩=some y5:=
 have k:=fun (b o:Nat) (u:Value) (h:W.cell? ⟨b,o,none⟩=some u)=>(hb.cell (p:=⟨b,o,none⟩) (cell_lt h)).trans h
 ⟨k _ _ _ (hx 0 _ rfl),k _ _ _ (hx 1 _ rfl),k _ _ _ (hx 2 _ rfl),k _ _ _ (hx 3 _ rfl),k _ _ _ (hx 4 _ rfl),k _ _ _ (hx 5 _ rfl),k _ _ _ (hy 0 _ rfl),k _ _ _ (hy 1 _ rfl),k _ _ _ (hy 2 _ rfl),k _ _ _ (hy 3 _ rfl),k _ _ _ (hy 4 _ rfl),k _ _ _ (hy 5 _ rfl)⟩
theorem sameL (l l2:List Ee)(hm:l.map (·.2)=l2.map (·.2))(v v2:Value)(w:World)(hv:SlK eeC 6 w v l)(hv2:SlK eeC 6 w v2 l2)(hr:∀ x∈l,Rd w x.1 x.2)(hr2:∀ x∈l2,Rd w x.1 x.2)(hz:∀ x∈l,x.2.va.length<=1000000/\x.2.hd.length<=1000000)(hl:l.length<=1000000):
 Calls Tryz.prog 20 #[v,v2] w fun x w'=>x = .returned (.bool true)/\Below w.heap.size w w':=by
 have hl2:l2.length=l.length:=by have:=Kq List.length hm;simp at this;omega
 obtain ⟨sa,sc,rfl,_⟩:=hv.shape;obtain ⟨sb,sd,rfl,_⟩:=hv2.shape;rw [hl2] at hv2 ⊢;have HC:=Kb (two_e rfl hm hv hv2 hr hr2);have HZ:=Kb hz;obtain ⟨n,hn⟩:=Ka l.length;rw [hn] at hl HC ⊢;clear hv hv2 hr hr2 hm hl2 hn hz;go_enter Tryz.func20,Tryz.ntmps20;go_wp2_with fail;go_loopw [5] (fun iv wr=>∃ k:Nat,k<=n/\iv = .int .i64 k/\Below w.heap.size w wr) (fun iv _=>n - (intOf iv).toNat);case atStart=>exact ⟨0,Kh _,rfl,Kc _⟩
 case round=>
  obtain ⟨kk,hk,rfl,hbw⟩:=hrel;by_cases hlt:kk<n
  ·obtain ⟨b0,off,b2,off2,rfl,rfl,hcell⟩:=HC.out (by omega);obtain ⟨x,y,hxl,hxy,hrx,hry,hcx,hcy⟩:=hcell kk hlt;clear hcell;have hzx:=HZ.out x hxl;have cx:∀ j u,(eeC x)[j]? = some u->wr.cell? ⟨b0,off+kk * 6+j,none⟩=some u:=fun j u hu=>(brl hbw _ _ (cell_lt (hcx j u hu))).trans (hcx j u hu);have cy:∀ j u,(eeC y)[j]? = some u->wr.cell? ⟨b2,off2+kk * 6+j,none⟩=some u:=fun j u hu=>(brl hbw _ _ (cell_lt (hcy j u hu))).trans (hcy j u hu);have hrx':=hrx.below hbw lr;have hry':=hry.below hbw lr;obtain ⟨⟨a1,n1,k1,e1⟩,a2,n2,k2,e2⟩:=hrx.shp;obtain ⟨⟨a3,n3,k3,e3⟩,a4,n4,k4,e4⟩:=hry.shp;have CE:=Kb (sameE x y hxy wr.drew (hrx'.below (Kc wr).drew lr) (hry'.below (Kc wr).drew lr) hzx.1 hzx.2);obtain ⟨⟨u,vv,st,hh,bo,ti⟩,ex⟩:=x;obtain ⟨⟨u2,vv2,st2,hh2,bo2,ti2⟩,ey⟩:=y;have e1:vv = .slice a1 n1 k1:=e1;have e2:hh = .slice a2 n2 k2:=e2;have e3:vv2 = .slice a3 n3 k3:=e3;have e4:hh2 = .slice a4 n4 k4:=e4;subst e1 e2 e3 e4;have HX:=Kb cx;have HY:=Kb cy;clear hcx hcy hrx hry hrx' hry' hxy hzx hxl;have hki:(kk:Int)<(n:Int):=by omega
   have hk0:(0:Int)<=(kk:Int):=by omega
   obtain ⟨c0,c1,c2,c3,c4,c5,d0,d1,d2,d3,d4,d5⟩:=e12_mk cx cy (Kc wr);clear cx cy;go_wp2_with fail
   go_region_held3 (fun w'=>w'.cell? ⟨b0,off+kk * 6,none⟩=some (.string u)/\w'.cell? ⟨b0,off+kk * 6+1,none⟩=some (.slice a1 n1 k1)/\w'.cell? ⟨b0,off+kk * 6+2,none⟩=some (.int .i64 st)/\w'.cell? ⟨b0,off+kk * 6+3,none⟩=some (.slice a2 n2 k2)/\w'.cell? ⟨b0,off+kk * 6+4,none⟩=some (.string bo)/\w'.cell? ⟨b0,off+kk * 6+5,none⟩=some (.int .i64 ti)/\w'.cell? ⟨b2,off2+kk * 6,none⟩=some (.string u2)/\w'.cell? ⟨b2,off2+kk * 6+1,none⟩=some (.slice a3 n3 k3)/\w'.cell? ⟨b2,off2+kk * 6+2,none⟩=some (.int .i64 st2)/\w'.cell? ⟨b2,off2+kk * 6+3,none⟩=some (.slice a4 n4 k4)/\w'.cell? ⟨b2,off2+kk * 6+4,none⟩=some (.string bo2)/\w'.cell? ⟨b2,off2+kk * 6+5,none⟩=some (.int .i64 ti2))
    (first | exact e12_mk HX.out HY.out (Kc wr).drew | exact e12_mk HX.out HY.out hb4 | go_keep)
    (first | ((with_reducible refine CE.out.mono ?_);rintro e w4 ⟨rfl,hbb4⟩;have hb4:=(Kc wr).drew.trans hbb4))
   go_wp2_with fail;go_roundw;case rel=>exact ⟨kk+1,by omega,by go_num,Kd hbw hb4⟩
   case measure=>simp [intOf];omega
  ·obtain rfl:kk=n:=by omega
   go_wp2_with fail;go_ret;exact ⟨rfl,hbw⟩
theorem slk_two {α:Type}{enc:α->List Value}{k:Nat}{w:World}{v v2:Value}{l l2:List α}(hv:SlK enc k w v l)(hv2:SlK enc k w v2 l2)(hl:l.length=l2.length):0<l.length->∃ b0 off c b2 off2 c2:Nat,v = .slice (some ⟨b0,off,none⟩) l.length c/\v2 = .slice (some ⟨b2,off2,none⟩) l.length c2/\b0<w.heap.size/\b2<w.heap.size/\∀ kk (h:kk<l.length) (h2:kk<l2.length),(∀ j u,(enc l[kk])[j]? = some u->w.cell? ⟨b0,off+kk * k+j,none⟩=some u)/\(∀ j u,(enc l2[kk])[j]? = some u->w.cell? ⟨b2,off2+kk * k+j,none⟩=some u):=by
 intro h0;rcases hv with ⟨rfl,_⟩ | ⟨_,b0,off,c,e1,_,_,h3,h4⟩
 ·simp at h0
 rcases hv2 with ⟨rfl,_⟩ | ⟨_,b2,off2,c2,f1,_,_,g3,g4⟩
 ·rw [Zg] at hl;omega
 exact ⟨b0,off,c,b2,off2,c2,e1,by rw [hl];exact f1,h3,g3,fun kk h h2=>⟨h4 kk h,g4 kk h2⟩⟩
theorem sameEv (la lb:List (Value × Ev))(hm:la.map (·.2)=lb.map (·.2))(v v2:Value)(w:World)(hv:SlK evC 7 w v la)(hv2:SlK evC 7 w v2 lb)(ha:∀ r∈la,SlK hdC 2 w r.1 r.2.hs)(hb:∀ r∈lb,SlK hdC 2 w r.1 r.2.hs)(hl:la.length<=1000000)(hz:∀ r∈la,r.2.hs.length<=1000000):
 Calls Tryz.prog 18 #[v,v2] w fun x w'=>x = .returned (.bool true)/\Below w.heap.size w w':=by
 have hll:la.length=lb.length:=by have:=Kq List.length hm;simpa using this
 have HC:=Kb (slk_two hv hv2 hll);have HM:=Kb hm;have HA:=Kb ha;have HB:=Kb hb;have HZ:=Kb hz;obtain ⟨sa,sc,rfl,_⟩:=hv.shape;obtain ⟨sb,sd,rfl,_⟩:=hv2.shape;rw [<-hll];have HL:=Kb hll;clear hv hv2 hm ha hb hz hll;go_enter Tryz.func18,Tryz.ntmps18;go_wp2_with fail;go_loopw [5] (fun iv wr=>∃ k:Nat,k<=la.length/\iv = .int .i64 k/\Below w.heap.size w wr) (fun iv _=>la.length - (intOf iv).toNat);case atStart=>exact ⟨0,Kh _,rfl,Kc _⟩
 case round=>
  obtain ⟨kk,hk,rfl,hbw⟩:=hrel;by_cases hlt:kk<la.length
  ·have hlt2:kk<lb.length:=by have:=HL.out;omega
   obtain ⟨b0,off,c,b2,off2,c2,e1,e2,hb0,hb2,hcell⟩:=HC.out (by omega);injection e1 with e1 _ e1c;injection e2 with e2 _ e2c;subst e1 e1c e2 e2c;obtain ⟨cc0,dd0⟩:=hcell kk hlt hlt2;have cc:∀ j u,(evC la[kk])[j]? = some u->wr.cell? ⟨b0,off+kk * 7+j,none⟩=some u:=fun j u hu=>(brl hbw _ _ hb0).trans (cc0 j u hu);have dd:∀ j u,(evC lb[kk])[j]? = some u->wr.cell? ⟨b2,off2+kk * 7+j,none⟩=some u:=fun j u hu=>(brl hbw _ _ hb2).trans (dd0 j u hu);have hx:=(HA.out _ (Ky hlt)).below hbw lr;have hy:=(HB.out _ (Ky hlt2)).below hbw lr;have hz:=HZ.out _ (Ky hlt);have he:la[kk].2=lb[kk].2:=by have:=Kq (fun l=>l[kk]?) HM.out;simpa [hlt,hlt2] using this
   obtain ⟨x,hxx⟩:=Ka (la[kk]);obtain ⟨y,hyy⟩:=Ka (lb[kk]);rw [hxx] at cc hx he hz;rw [hyy] at dd hy he;have h0w:b0<wr.heap.size:=Ko hb0 hbw.size;have h2w:b2<wr.heap.size:=Ko hb2 hbw.size;clear hxx hyy hcell cc0 dd0;obtain ⟨vx,ex⟩:=x;obtain ⟨vy,ey⟩:=y;have he:ex=ey:=he;subst he;have hx:SlK hdC 2 wr vx ex.hs:=hx;have hy:SlK hdC 2 wr vy ex.hs:=hy;have hz:ex.hs.length<=1000000:=hz;have CS:=Kb (fun (w':World) (hb:Below wr.heap.size wr w')=>sameA ex.hs vx vy w' (hx.below hb lr) (hy.below hb lr) hz);obtain ⟨xa,xc,rfl,_⟩:=hx.shape;obtain ⟨ya,yc,rfl,_⟩:=hy.shape;have c0:=cc 0 _ rfl;have d0:=dd 0 _ rfl;have c1:=cc 1 _ rfl;have d1:=dd 1 _ rfl;have c2:=cc 2 _ rfl;have d2:=dd 2 _ rfl;have c3:=cc 3 _ rfl;have d3:=dd 3 _ rfl;have c4:=cc 4 _ rfl;have d4:=dd 4 _ rfl;have c5:=cc 5 _ rfl;have d5:=dd 5 _ rfl;have c6:=cc 6 _ rfl;have d6:=dd 6 _ rfl;simp only [Ku] at c0 d0;have X2:=((Below.refl wr.heap.size wr).alloc lr (.cells [.int .i64 ex.k,.string ex.me,.string ex.ur,.slice xa ex.hs.length xc,.string ex.bo,.int .i64 ex.st,.int .i64 ex.er].toArray 48)).alloc (by simp) (.cells [.int .i64 ex.k,.string ex.me,.string ex.ur,.slice ya ex.hs.length yc,.string ex.bo,.int .i64 ex.st,.int .i64 ex.er].toArray 48);clear cc dd hx hy hz;have hki:(kk:Int)<(la.length:Int):=by omega
   go_wp2_with (first
    | ((with_reducible refine (CS.out _ X2).mono ?_);rintro e3 w3 ⟨rfl,hb3⟩;have hB3:=Kb (hbw.trans ((X2.trans (hb3.mono X2.size)).mono hbw.size)))
    | fail)
   go_roundw;case rel=>exact ⟨kk+1,by omega,by go_num,hB3.out⟩
   case measure=>simp [intOf];omega
  ·obtain rfl:kk=la.length:=by omega
   go_wp2_with fail;go_ret;exact ⟨rfl,hbw⟩
theorem sameSt (S:FSt)(vh wh vh2 wh2:Value)(w:World)(h1:SlK hdC 2 w wh S.hs)(h2:SlK hdC 2 w wh2 S.hs)(hq:∃ a n c,vh = .slice a n c)(hq2:∃ a n c,vh2 = .slice a n c)(hl:S.hs.length<=1000000):
 Calls Tryz.prog 19 #[.agg (fsV S vh wh).toArray,.agg (fsV S vh2 wh2).toArray] w fun x w'=>x = .returned (.bool true)/\Below w.heap.size w w':=by
 obtain ⟨qa,qn,qc,rfl⟩:=hq;obtain ⟨qa2,qn2,qc2,rfl⟩:=hq2;have CS:=Kb (fun (w':World) (hb:Below w.heap.size w w')=>sameA S.hs wh wh2 w' (h1.below hb lr) (h2.below hb lr) hl);obtain ⟨wa,wc,rfl,_⟩:=h1.shape;obtain ⟨wa2,wc2,rfl,_⟩:=h2.shape;have X2:=((Below.refl w.heap.size w).alloc lr (.cells (fsV S (.slice qa qn qc) (.slice wa S.hs.length wc)).toArray 52)).alloc (by simp) (.cells (fsV S (.slice qa2 qn2 qc2) (.slice wa2 S.hs.length wc2)).toArray 52);clear h1 h2;go_enter Tryz.func19,Tryz.ntmps19
 go_wp2_with (first
  | ((with_reducible refine (CS.out _ X2).mono ?_);rintro e3 w3 ⟨rfl,hb3⟩)
  | fail)
 go_ret;exact ⟨rfl,X2.trans (hb3.mono X2.size)⟩
abbrev ccB:ByteArray:=⟨#[67,97,99,104,101,45,67,111,110,116,114,111,108]⟩
abbrev maB:ByteArray:=⟨#[109,97,120,45,97,103,101,61,54,48]⟩
abbrev starS:ByteArray:=⟨#[42]⟩
def okHs:List Hd:=[(ccB,maB),(acoC,starS)]
theorem ok_lo:hdrL okHs loN.data.toList=none:=by unfold hdrL okHs;rw [List.find?_cons_of_neg (by show ¬ (lowL ccB.data.toList == lowL loN.data.toList)=true;decide +kernel),List.find?_cons_of_neg (by show ¬ (lowL acoC.data.toList == lowL loN.data.toList)=true;decide +kernel)];rfl
theorem head_ok (J:List Ck)(now:Int)(S:FSt)(C:List En):headF J now 200 okHs S C=headO 200 okHs S C:=by unfold headF;rw [show decide ((200:Int)=304)=false from rfl,Bool.and_false,Ke (by decide)];unfold takeF;rw [ok_lo,Option.isSome_none,Bool.false_and,Ke (by decide)]
def catB:List ByteArray->ByteArray
 | []=>eS
 | p :: ps=>p ++ catB ps
theorem ba_app (a b c:ByteArray):a ++ b ++ c=a ++ (b ++ c):=ba_ext' (by simp [app_list])
theorem ba_nil (a:ByteArray):a ++ eS=a:=ba_ext' (by rw [app_list];exact Je _)
theorem nil_ba (a:ByteArray):eS ++ a=a:=ba_ext' (by rw [app_list];rfl)
theorem catB_snoc (p:ByteArray):∀ ps:List ByteArray,catB (ps ++ [p])=catB ps ++ p
 | []=>by show p ++ eS=eS ++ p;rw [ba_nil,nil_ba]
 | q :: ps=>by show q ++ catB (ps ++ [p])=q ++ catB ps ++ p;rw [catB_snoc p ps,ba_app]
theorem catB_size {n:Nat}:∀ ps:List ByteArray,(∀ p∈ps,p.size<=n)->(catB ps).size<=ps.length * n
 | [],_=>Kh _
 | p :: ps,h=>by
   have h1:=h p Jz
   have h2:=catB_size ps fun q hq=>h q (Jg _ hq)
   show (p ++ catB ps).size<=(ps.length+1) * n
   rw [ByteArray.size_append,Nat.succ_mul]
   omega
def dv (hi:Bool)(p:ByteArray):List Ev:=if p.size=0\/hi=true then [] else [⟨3,eS,eS,[],p,0,0⟩]
def evP (hi:Bool)(ps:List ByteArray):List Ev:=ps.flatMap (dv hi)
def dOp (p:ByteArray):Op4:=⟨1,0,[],p⟩
def eOp:Op4:=⟨2,0,[],eS⟩
theorem op_data (now:Int)(p:ByteArray)(r:Rn):opF now (dOp p) r=⟨(dataF p r.s).1,r.j,r.c,r.ev ++ (dataF p r.s).2⟩:=by unfold opF dOp;rw [Ke (by show ¬ (1:Nat) % 5=0;decide),Kf (by show (1:Nat) % 5=1;decide)]
theorem op_end (now:Int)(r:Rn):opF now eOp r=⟨(endF now r.s r.c).s,r.j,(endF now r.s r.c).c,r.ev ++ (endF now r.s r.c).ev⟩:=by unfold opF eOp;rw [Ke (by show ¬ (2:Nat) % 5=0;decide),Ke (by show ¬ (2:Nat) % 5=1;decide),Kf (by show (2:Nat) % 5=2;decide)]
theorem op_data2 (now:Int)(p:ByteArray)(r:Rn)(h:r.s.ph=2)(hz:r.s.sb.size+p.size<=1048576):opF now (dOp p) r=⟨{ r.s with sb:=r.s.sb ++ p },r.j,r.c,r.ev ++ dv r.s.hi p⟩:=by rw [op_data];unfold dataF dv;rw [Kf h,Ke (by omega)]
theorem op_data0 (now:Int)(p:ByteArray)(r:Rn)(h:r.s.ph≠2):opF now (dOp p) r=r:=by rw [op_data];unfold dataF;rw [Ke h];simp
theorem pieces_run (now:Int):∀ (ps:List ByteArray) (r:Rn),r.s.ph=2->r.s.sb.size+(catB ps).size<=1048576->runF now (ps.map dOp) r=⟨{ r.s with sb:=r.s.sb ++ catB ps },r.j,r.c,r.ev ++ evP r.s.hi ps⟩
 | [], r, _, _ => by
   show r=⟨{ r.s with sb:=r.s.sb ++ eS },r.j,r.c,r.ev ++ []⟩
   rw [ba_nil,Je]
 | p :: ps, r, h, hz => by
   have e:(catB (p :: ps)).size=p.size+(catB ps).size:=by show (p ++ catB ps).size=_;rw [ByteArray.size_append]
   have e2:=pieces_run now ps ⟨{ r.s with sb:=r.s.sb ++ p },r.j,r.c,r.ev ++ dv r.s.hi p⟩ h (by show (r.s.sb ++ p).size+_<=_;rw [ByteArray.size_append];omega)
   rw [Jw,runF_cons,op_data2 now p r h (by omega)]
   refine e2.trans ?_
   show (⟨{ r.s with sb:=r.s.sb ++ p ++ catB ps },r.j,r.c,r.ev ++ dv r.s.hi p ++ evP r.s.hi ps⟩:Rn)=⟨{ r.s with sb:=r.s.sb ++ (p ++ catB ps) },r.j,r.c,r.ev ++ evP r.s.hi (p :: ps)⟩
   rw [ba_app,Jj]
   rfl
theorem pieces_run0 (now:Int):∀ (ps:List ByteArray) (r:Rn),r.s.ph≠2->runF now (ps.map dOp) r=r
 | [],r,_=>rfl
 | p :: ps,r,h=>by rw [Jw,runF_cons,op_data0 now p r h];exact pieces_run0 now ps r h
def datF (a:ByteArray)(e:Ev):ByteArray:=if e.k=3 then a ++ e.bo else a
def datB (l:List Ev):ByteArray:=l.foldl datF eS
def othE (l:List Ev):List Ev:=l.filter fun e=>!decide (e.k=3)
theorem size_zero {p:ByteArray}(h:p.size=0):p=eS:=ba_ext' (by
 have:p.data.toList.length=0:=by rw [size_len];exact h
 rw [List.length_eq_zero_iff.1 this])
theorem dat_dv (hi:Bool)(p a:ByteArray):(dv hi p).foldl datF a=if hi=true then a else a ++ p:=by
 unfold dv
 cases hi with
 | true=>rw [Kf (.inr rfl),Kf rfl];rfl
 | false=>
   by_cases h:p.size=0
   ·rw [Kf (.inl h),Ke (by decide),size_zero h,ba_nil];rfl
   ·rw [Ke (by rintro (e | e);exact h e;cases e),Ke (by decide)];rfl
theorem dat_evP (hi:Bool):∀ (ps:List ByteArray) (a:ByteArray),(evP hi ps).foldl datF a=if hi=true then a else a ++ catB ps
 | [],a=>by
   show a=if hi=true then a else a ++ eS
   rw [ba_nil];split <;> rfl
 | p :: ps,a=>by
   show (dv hi p ++ evP hi ps).foldl datF a=_
   rw [Xj,dat_dv,dat_evP hi ps]
   cases hi with
   | true=>rfl
   | false=>show a ++ p ++ catB ps=a ++ (p ++ catB ps);rw [ba_app]
theorem oth_evP (hi:Bool)(ps:List ByteArray):othE (evP hi ps)=[]:=by
 unfold othE;rw [List.filter_eq_nil_iff];intro e he;obtain ⟨p,_,he⟩:=List.mem_flatMap.1 he;unfold dv at he;split at he
 ·cases he
 ·obtain rfl:=Jc.1 he;simp
theorem oth_app (a b:List Ev):othE (a ++ b)=othE a ++ othE b:=Zs ..
theorem dat_app (a b:List Ev):datB (a ++ b)=b.foldl datF (datB a):=by unfold datB;rw [Xj]
theorem pieces_end (now:Int)(ps:List ByteArray)(r:Rn)(h:r.s.ph=2->r.s.sb.size+(catB ps).size<=1048576)(A B:Rn)(hA:runF now (ps.map dOp ++ [eOp]) r=A)(hB:runF now [dOp (catB ps),eOp] r=B):
 A.s=B.s/\A.j=B.j/\A.c=B.c/\datB A.ev=datB B.ev/\othE A.ev=othE B.ev:=by
 rw [runF_snoc] at hA;rw [show [dOp (catB ps),eOp]=[dOp (catB ps)] ++ [eOp] from rfl,runF_snoc,runF_cons] at hB;have hB:opF now eOp (opF now (dOp (catB ps)) r)=B:=hB;by_cases hp:r.s.ph=2
 ·have hz:=h hp;rw [pieces_run now ps r hp hz,op_end] at hA;rw [op_data2 now _ r hp hz,op_end] at hB;subst hA hB;have e:∀ X Y:List Ev,X.foldl datF (datB r.ev)=Y.foldl datF (datB r.ev)->othE X=othE Y->datB (r.ev ++ X ++ (endF now { r.s with sb:=r.s.sb ++ catB ps } r.c).ev)=datB (r.ev ++ Y ++ (endF now { r.s with sb:=r.s.sb ++ catB ps } r.c).ev)/\othE (r.ev ++ X ++ (endF now { r.s with sb:=r.s.sb ++ catB ps } r.c).ev)=othE (r.ev ++ Y ++ (endF now { r.s with sb:=r.s.sb ++ catB ps } r.c).ev):=fun X Y h1 h2=>by
   constructor
   ·rw [dat_app,dat_app,h1,<-dat_app,<-dat_app]
   ·rw [oth_app,oth_app,oth_app,oth_app,h2]
  have e2:=e (evP r.s.hi ps) (dv r.s.hi (catB ps)) (by rw [dat_evP,dat_dv]) (by
   have h1:=oth_evP r.s.hi [catB ps];have h2:evP r.s.hi [catB ps]=dv r.s.hi (catB ps):=by unfold evP;simp
   rw [oth_evP,<-h2,h1])
  exact ⟨rfl,rfl,rfl,e2.1,e2.2⟩
 ·rw [pieces_run0 now ps r hp] at hA;rw [op_data0 now _ r hp] at hB;subst hA hB;exact ⟨rfl,rfl,rfl,rfl,rfl⟩
theorem head_sb (now:Int){S:FSt}(h0:S.ho=0)(j:List Ck × Int)(C:List En)(bo:ByteArray):(opF now ⟨0,200,okHs,bo⟩ (startF now S j C)).s.ph=2->(opF now ⟨0,200,okHs,bo⟩ (startF now S j C)).s.sb=eS:=by
 obtain ⟨hp,_⟩:=beginF_send j.1 now C h0;have hp:(startF now S j C).s.ph=1\/(startF now S j C).s.ph=3\/(startF now S j C).s.ph=4:=hp;by_cases h1:(startF now S j C).s.ph=1
 ·rw [op_head _ _ _ _ _ h1];intro h2;have h2:(headF (jarH (startF now S j C).s now okHs (startF now S j C).j).1 now 200 okHs (startF now S j C).s (startF now S j C).c).s.ph=2:=h2;show (headF (jarH (startF now S j C).s now okHs (startF now S j C).j).1 now 200 okHs (startF now S j C).s (startF now S j C).c).s.sb=eS;rw [head_ok] at h2 ⊢;revert h2;unfold headO;split
  ·intro h2;exact absurd h2 (by show (4:Int)≠2;decide)
  ·intro _;rfl
 ·rw [op_head0 _ _ _ _ _ h1];intro h2;omega
section
variable {H : Type} {enc : TypeId × Value → H} {P : Program} {w : World} {base : Nat} {held : Bool}
structure CTy (P:Program)(t s b i:TypeId)(g0 g1 g2 g3 g4 g5 g6 g7 g8:Field):Prop where
 ht:P.underlying t=some (.struct #[g0,g1,g2,g3,g4,g5,g6,g7,g8])
 hs:P.underlying s=some .string
 hb:P.underlying b=some .bool
 hi:P.underlying i=some (.int .i64)
 o:g0.offset=0/\g1.offset=1/\g2.offset=2/\g3.offset=3/\g4.offset=4/\g5.offset=5/\g6.offset=6/\g7.offset=7/\g8.offset=8
 tt:g0.type=s/\g1.type=s/\g2.type=s/\g3.type=s/\g4.type=b/\g5.type=b/\g6.type=b/\g7.type=i/\g8.type=i
 cs:P.cellsOf s=1
 cb:P.cellsOf b=1
 ci:P.cellsOf i=1
 ct:P.cellsOf t=9
theorem open_ck {t s b i:TypeId}{g0 g1 g2 g3 g4 g5 g6 g7 g8:Field}(ty:CTy P t s b i g0 g1 g2 g3 g4 g5 g6 g7 g8){fuel:Nat}{cs:List Value}{x:DataW H × List MemPlace}
 (hx:DataW.trod enc P w base (fun _=>true) held fuel t cs=some x):∃ c:Ck,cs=ckL c/\True/\(WtOk P t x.1->c.n.size<=mx47/\c.v.size<=mx47/\c.d.size<=mx47/\c.p.size<=mx47):=by
 obtain ⟨xs,n,_,rfl,hl,hlen,hf⟩:=DataW.trod_struct ty.ht hx
 match xs,hlen with
 | [y0, y1, y2, y3, y4, y5, y6, y7, y8], _ =>
   obtain ⟨o0,o1,o2,o3,o4,o5,o6,o7,o8⟩:=ty.o
   obtain ⟨t0,t1,t2,t3,t4,t5,t6,t7,t8⟩:=ty.tt
   have k0:=hf 0 g0 rfl
   rw [o0,t0,ty.cs] at k0
   have k1:=hf 1 g1 rfl
   rw [o1,t1,ty.cs] at k1
   have k2:=hf 2 g2 rfl
   rw [o2,t2,ty.cs] at k2
   have k3:=hf 3 g3 rfl
   rw [o3,t3,ty.cs] at k3
   have k4:=hf 4 g4 rfl
   rw [o4,t4,ty.cb] at k4
   have k5:=hf 5 g5 rfl
   rw [o5,t5,ty.cb] at k5
   have k6:=hf 6 g6 rfl
   rw [o6,t6,ty.cb] at k6
   have k7:=hf 7 g7 rfl
   rw [o7,t7,ty.ci] at k7
   have k8:=hf 8 g8 rfl
   rw [o8,t8,ty.ci] at k8
   obtain ⟨s0,e0,d0,_⟩:=DataW.trod_string ty.hs k0
   obtain ⟨s1,e1,d1,_⟩:=DataW.trod_string ty.hs k1
   obtain ⟨s2,e2,d2,_⟩:=DataW.trod_string ty.hs k2
   obtain ⟨s3,e3,d3,_⟩:=DataW.trod_string ty.hs k3
   obtain ⟨s4,e4,_⟩:=DataW.trod_bool ty.hb k4
   obtain ⟨s5,e5,_⟩:=DataW.trod_bool ty.hb k5
   obtain ⟨s6,e6,_⟩:=DataW.trod_bool ty.hb k6
   obtain ⟨s7,e7,_⟩:=DataW.trod_int ty.hi k7
   obtain ⟨s8,e8,_⟩:=DataW.trod_int ty.hi k8
   rw [ty.ct] at hl
   match cs,hl with
   | [u0, u1, u2, u3, u4, u5, u6, u7, u8], _ =>
     simp at e0 e1 e2 e3 e4 e5 e6 e7 e8
     subst e0 e1 e2 e3 e4 e5 e6 e7 e8
     refine ⟨⟨s0,s1,s2,s3,s4,s5,s6,s7,s8⟩,rfl,trivial,fun hw=>?_⟩
     have w0:=hw.struct ty.ht 0 (f:=g0) (d:=y0.1) rfl rfl
     rw [d0] at w0
     have w1:=hw.struct ty.ht 1 (f:=g1) (d:=y1.1) rfl rfl
     rw [d1] at w1
     have w2:=hw.struct ty.ht 2 (f:=g2) (d:=y2.1) rfl rfl
     rw [d2] at w2
     have w3:=hw.struct ty.ht 3 (f:=g3) (d:=y3.1) rfl rfl
     rw [d3] at w3
     exact ⟨Kg w0.str (by decide),Kg w1.str (by decide),Kg w2.str (by decide),Kg w3.str (by decide)⟩
structure OTy (P:Program)(t h e s i b:TypeId)(f0 f1 g0 g1 g2 g3:Field):Prop where
 hh:HTy P h e s f0 f1
 ht:P.underlying t=some (.struct #[g0,g1,g2,g3])
 hi:P.underlying i=some (.int .i64)
 hb:P.underlying b=some (.int .u8)
 o:g0.offset=0/\g1.offset=1/\g2.offset=2/\g3.offset=3
 tt:g0.type=b/\g1.type=i/\g2.type=h/\g3.type=s
 ci:P.cellsOf i=1
 cb:P.cellsOf b=1
 ct:P.cellsOf t=4
theorem open_op {t h e s i b:TypeId}{f0 f1 g0 g1 g2 g3:Field}(ty:OTy P t h e s i b f0 f1 g0 g1 g2 g3){fuel:Nat}{cs:List Value}{x:DataW H × List MemPlace}
 (hx:DataW.trod enc P w base (fun _=>true) held fuel t cs=some x):∃ r:Value × Op4,cs=opC r/\(SlK hdC 2 w r.1 r.2.hs/\r.2.k<256)/\(WtOk P t x.1->WtH r.2.hs):=by
 obtain ⟨xs,n,_,rfl,hl,hlen,hf⟩:=DataW.trod_struct ty.ht hx
 match xs,hlen with
 | [y0, y1, y2, y3], _ =>
   obtain ⟨o0,o1,o2,o3⟩:=ty.o
   obtain ⟨t0,t1,t2,t3⟩:=ty.tt
   have k0:=hf 0 g0 rfl
   rw [o0,t0,ty.cb] at k0
   have k1:=hf 1 g1 rfl
   rw [o1,t1,ty.ci] at k1
   have k2:=hf 2 g2 rfl
   rw [o2,t2,ty.hh.ct] at k2
   have k3:=hf 3 g3 rfl
   rw [o3,t3,ty.hh.cs] at k3
   obtain ⟨n0,e0,_,hw0⟩:=DataW.trod_int ty.hb k0
   obtain ⟨n1,e1,_⟩:=DataW.trod_int ty.hi k1
   obtain ⟨v2,l2,e2,b2,z2⟩:=open_hds ty.hh k2
   obtain ⟨s3,e3,d3,_⟩:=DataW.trod_string ty.hh.hs k3
   have hn:0<=n0/\n0<256:=by
    simp only [Lit.wf] at hw0
    have h1:IntKind.u8.min<=n0/\n0<=IntKind.u8.max:=by simpa using hw0
    have e1:IntKind.u8.min=0:=rfl
    have e2:IntKind.u8.max=255:=rfl
    omega
   obtain ⟨k,rfl⟩:∃ k:Nat,n0=(k:Int):=⟨n0.toNat,by omega⟩
   rw [ty.ct] at hl
   match cs,hl with
   | [u0, u1, u2, u3], _ =>
     simp at e0 e1 e2 e3
     subst e0 e1 e2 e3
     refine ⟨(_,⟨k,n1,l2,s3⟩),rfl,⟨b2,by have:=hn.2;show k<256;omega⟩,fun hw=>?_⟩
     have:=hw.struct ty.ht 2 (f:=g2) (d:=y2.1) rfl rfl
     rw [t2] at this
     exact z2 this
theorem open_opsP {b0:Nat}{rr:Reach}{sl t h e s i b:TypeId}{f0 f1 g0 g1 g2 g3:Field}(ty:OTy P t h e s i b f0 f1 g0 g1 g2 g3)(hsl:P.underlying sl=some (.slice t)){v:Value}{d:DataW H}{ps:List MemPlace}
 (hval:Value.okWide P w rr b0 sl v) (hd:DataW.Trod enc P w base (fun _=>true) held sl v d ps):∃ lo:List (Value × Op4),SlK opC 4 w v lo/\(∀ x∈lo,SlK hdC 2 w x.1 x.2.hs/\x.2.k<256)/\(WtOk P sl d->OIn w v lo):=by
 obtain ⟨fuel,hf⟩:=hd;have hv:∃ o n c,v = .slice o n c:=by
  cases v with
  | slice o n c=>exact ⟨o,n,c,rfl⟩
  | _=>simp [Value.okWide,Cell.okWide,Cell.ok,hsl] at hval
 obtain ⟨o,n,c,rfl⟩:=hv;obtain ⟨v,l,h1,h2,h3,h4⟩:=open_rows opC 4 (fun _=>rfl) (by decide) (fun r=>SlK hdC 2 w r.1 r.2.hs/\r.2.k<256) (fun r=>WtH r.2.hs) hsl ty.ct (fun n cs x hx=>open_op ty hx) hf;have:Value.slice o n c=v:=by simpa [Value.cells] using h1
 subst this;exact ⟨l,h2,h3,fun hw=>⟨h2,fun x hx=>(h3 x hx).1,h4 hw⟩⟩
theorem open_opP {b0:Nat}{rr:Reach}{t h e s i b:TypeId}{f0 f1 g0 g1 g2 g3:Field}(ty:OTy P t h e s i b f0 f1 g0 g1 g2 g3){v:Value}{d:DataW H}{ps:List MemPlace}
 (hval:Value.okWide P w rr b0 t v) (hd:DataW.Trod enc P w base (fun _=>true) held t v d ps):∃ r:Value × Op4,v = .agg #[.int .u8 r.2.k,.int .i64 r.2.st,r.1,.string r.2.bo]/\SlK hdC 2 w r.1 r.2.hs/\(WtOk P t d->WtH r.2.hs):=by obtain ⟨cs,rfl,hsz⟩:=Go.WideShapes.okWide_struct ty.ht hval;obtain ⟨fuel,hf⟩:=hd;obtain ⟨r,h1,h2,h3⟩:=open_op ty hf;refine ⟨r,?_,h2.1,h3⟩;obtain ⟨cs⟩:=cs;have h1:cs=opC r:=h1;subst h1;rfl
theorem open_wdP {b0:Nat}{rr:Reach}{t j jl c cl en h e s i b:TypeId}{f0 f1 e0 e1 e2 e3 e4 e5 c0 c1 c2 c3 c4 c5 c6 c7 c8 j0 j1 q0 q1 q2:Field}(tc:CTy P c s b i c0 c1 c2 c3 c4 c5 c6 c7 c8)(te:ETy P en h e s i f0 f1 e0 e1 e2 e3 e4 e5)(hj:P.underlying j=some (.struct #[j0,j1]))(ht:P.underlying t=some (.struct #[q0,q1,q2]))(hjl:P.underlying jl=some (.slice c))(hcl:P.underlying cl=some (.slice en))
 (oj:j0.offset=0/\j1.offset=1/\j0.type=jl/\j1.type=i) (o:q0.offset=0/\q1.offset=2/\q2.offset=3/\q0.type=j/\q1.type=cl/\q2.type=i) (kjl:P.cellsOf jl=1) (kcl:P.cellsOf cl=1) (kj:P.cellsOf j=2) (kt:P.cellsOf t=4) {v:Value} {d:DataW H} {ps:List MemPlace}
 (hval:Value.okWide P w rr b0 t v) (hd:DataW.Trod enc P w base (fun _=>true) held t v d ps):∃ (vj:Value) (J:List Ck) (nx:Int) (vc:Value) (lx:List Ee) (now:Int),v = .agg #[vj,.int .i64 nx,vc,.int .i64 now]/\(WtOk P t d->WIn w vj J vc lx):=by
 obtain ⟨cs,rfl,hsz⟩:=Go.WideShapes.okWide_struct ht hval
 obtain ⟨fuel,hf⟩:=hd
 obtain ⟨xs,n,_,hx,hlc,hlen,hfs⟩:=DataW.trod_struct ht hf
 match xs,hlen with
 | [y0, y1, y2], _ =>
   have k0:=hfs 0 q0 rfl
   have k1:=hfs 1 q1 rfl
   have k2:=hfs 2 q2 rfl
   rw [o.1,o.2.2.2.1,kj] at k0
   rw [o.2.1,o.2.2.2.2.1,kcl] at k1
   rw [o.2.2.1,o.2.2.2.2.2,tc.ci] at k2
   obtain ⟨zs,n2,_,hz,_,hzl,hzs⟩:=DataW.trod_struct hj k0
   match zs,hzl with
   | [z0,z1],_=>
     have m0:=hzs 0 j0 rfl
     have m1:=hzs 1 j1 rfl
     rw [oj.1,oj.2.2.1,kjl] at m0
     rw [oj.2.1,oj.2.2.2,tc.ci] at m1
     obtain ⟨vj,J,e1,h1,_,w1⟩:=open_rows ckL 9 (fun _=>rfl) (by decide) (fun _=>True) (fun c=>c.n.size<=mx47/\c.v.size<=mx47/\c.d.size<=mx47/\c.p.size<=mx47) hjl tc.ct (fun n cs x hx=>open_ck tc hx) m0
     obtain ⟨nx,e2,_⟩:=DataW.trod_int tc.hi m1
     obtain ⟨vc,lx,e3,h3,r3,w3⟩:=open_rows eeC 6 (fun _=>rfl) (by decide) (fun y=>Rd w y.1 y.2) (fun y=>WtE y.2) hcl te.ct (fun n cs x hx=>open_ent te hx) k1
     obtain ⟨now,e4,_⟩:=DataW.trod_int tc.hi k2
     obtain ⟨cs⟩:=cs
     have hsz:cs.length=P.cellsOf t:=hsz
     rw [kt] at hsz
     match cs,hsz with
     | [u0, u1, u2, u3], _ =>
       have a1:u0=vj:=by simpa [Value.cells] using e1
       have a2:u1 = .int .i64 nx:=by simpa [Value.cells] using e2
       have a3:u2=vc:=by simpa [Value.cells] using e3
       have a4:u3 = .int .i64 now:=by simpa [Value.cells] using e4
       clear e1 e2 e3 e4
       subst a1 a2 a3 a4
       have hdd:d = .agg [y0.1,y1.1,y2.1]:=(Prod.mk.inj hx).1
       have hzd:y0.1 = .agg [z0.1,z1.1]:=Kq Prod.fst hz
       refine ⟨_,J,nx,_,lx,now,rfl,fun hw=>⟨h1,h3,r3,?_,?_⟩⟩
       ·rw [hdd] at hw
        have hw1:=hw.struct ht 0 (f:=q0) (d:=y0.1) rfl rfl
        rw [o.2.2.2.1,hzd] at hw1
        have hw2:=hw1.struct hj 0 (f:=j0) (d:=z0.1) rfl rfl
        rw [oj.2.2.1] at hw2
        exact w1 hw2
       ·rw [hdd] at hw
        have hw1:=hw.struct ht 1 (f:=q1) (d:=y1.1) rfl rfl
        rw [o.2.2.2.2.1] at hw1
        exact fun x hx=>⟨(w3 hw1 x hx).1,(w3 hw1 x hx).2.1⟩
theorem open_fqZ {b0:Nat}{r:Reach}{t h e s i b:TypeId}{f0 f1 g0 g1 g2 g3 g4 g5 g6 g7:Field}(ty:QTy P t h e s i b f0 f1 g0 g1 g2 g3 g4 g5 g6 g7){v:Value}{d:DataW H}{ps:List MemPlace}
 (hval:Value.okWide P w r b0 t v) (hd:DataW.Trod enc P w base (fun _=>true) held t v d ps):∃ (tk:Int) (me ur og:ByteArray) (mo:Int) (vh:Value) (bo:ByteArray) (ck:Bool) (l:List Hd),v = .agg #[.int .i64 tk,.string me,.string ur,.string og,.int .i64 mo,vh,.string bo,.bool ck]/\(WtOk P t d->QIn w ur og vh l bo):=by
 obtain ⟨cs,rfl,hsz⟩:=Go.WideShapes.okWide_struct ty.ht hval
 obtain ⟨fuel,hf⟩:=hd
 obtain ⟨tk,me,ur,og,mo,vh,bo,ck,l,h1,h2,h3⟩:=open_fq ty hf
 obtain ⟨xs,n,_,hx,hl,hlen,hfs⟩:=DataW.trod_struct ty.ht hf
 match xs,hlen with
 | [y0, y1, y2, y3, y4, y5, y6, y7], _ =>
   have k2:=hfs 2 g2 rfl
   have k3:=hfs 3 g3 rfl
   have k6:=hfs 6 g6 rfl
   obtain ⟨o0,o1,o2,o3,o4,o5,o6,o7⟩:=ty.o
   obtain ⟨t0,t1,t2,t3,t4,t5,t6,t7⟩:=ty.tt
   rw [o2,t2,ty.hh.cs] at k2
   rw [o3,t3,ty.hh.cs] at k3
   rw [o6,t6,ty.hh.cs] at k6
   obtain ⟨s2,e2,d2,_⟩:=DataW.trod_string ty.hh.hs k2
   obtain ⟨s3,e3,d3,_⟩:=DataW.trod_string ty.hh.hs k3
   obtain ⟨s6,e6,d6,_⟩:=DataW.trod_string ty.hh.hs k6
   obtain ⟨cs⟩:=cs
   have h1:cs=fqC tk me ur og mo vh bo ck:=h1
   subst h1
   simp [Value.cells] at e2 e3 e6
   subst e2 e3 e6
   have hdd:d = .agg [y0.1,y1.1,y2.1,y3.1,y4.1,y5.1,y6.1,y7.1]:=(Prod.mk.inj hx).1
   refine ⟨tk,me,_,_,mo,vh,_,ck,l,rfl,fun hw=>⟨h2,h3 hw,?_,?_,?_⟩⟩
   ·rw [hdd] at hw
    have hw1:=hw.struct ty.ht 2 (f:=g2) (d:=y2.1) rfl rfl
    rw [d2] at hw1
    exact Kg hw1.str (by decide)
   ·rw [hdd] at hw
    have hw1:=hw.struct ty.ht 3 (f:=g3) (d:=y3.1) rfl rfl
    rw [d3] at hw1
    exact Kg hw1.str (by decide)
   ·rw [hdd] at hw
    have hw1:=hw.struct ty.ht 6 (f:=g6) (d:=y6.1) rfl rfl
    rw [d6] at hw1
    exact Kg hw1.str (by decide)
end
theorem s13 (w:World)(h:w.ShapedOpen Tryz.prog):MaxAt w:=
 Go.Proofs.cell_of_shapedOpen_int (zero:=#[.int .i64 0]) (t:=3) h (Xh (by kernel_rfl)) (by kernel_rfl) rfl (by kernel_rfl) (by kernel_rfl) Tryz.underlying3
end Go.Proofs.YtjdhaacmlpegoaaGreatDoor
