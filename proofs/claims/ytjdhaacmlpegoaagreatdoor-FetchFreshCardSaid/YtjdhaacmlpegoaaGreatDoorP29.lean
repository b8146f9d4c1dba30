/- Part 29 of what the proof needs: XC XK. -/
import Derived.Test.YtjdhaacmlpegoaaGreatDoorP06
import Derived.Test.YtjdhaacmlpegoaaGreatDoorP01
import Derived.Test.YtjdhaacmlpegoaaGreatDoorP28
set_option maxRecDepth 20000
set_option maxHeartbeats 16000000
namespace Go.Proofs.YtjdhaacmlpegoaaGreatDoor
open Go.RowKit
set_option linter.unusedSimpArgs false
set_option linter.unusedVariables false
theorem conv_prefix (keep:List UInt8)(t:List UInt8):∀ n (p X:List UInt8),p.length<=n->Fixed keep p->X <+: p ++ t->(conv keep true X).length<=p.length+3 * t.length+2:=by
 have base:∀ X:List UInt8,X <+: t->(conv keep true X).length<=3 * t.length:=fun X h=>by
  have:=conv_len keep true X
  have:=h.length_le
  omega
 intro n
 induction n with
 | zero=>
   intro p X hp _ hX
   obtain rfl:=List.eq_nil_of_length_eq_zero (Nat.le_zero.1 hp)
   have:=base X hX
   simp only [List.length_nil];omega
 | succ n ih=>
   intro p X hp hF hX
   match p,hp,hF,hX with
   | [],_,_,hX=>have:=base X hX;simp only [List.length_nil];omega
   | c :: r, hp, hF, hX =>
     simp only [List.length_cons] at hp
     cases X with
     | nil=>simp [conv]
     | cons x X=>
       rw [List.cons_append,List.cons_prefix_cons] at hX
       obtain ⟨rfl,hX⟩:=hX
       rcases fixed_cases keep x r hF with ⟨h1,h2⟩ | ⟨a,b,s,rfl,rfl,h3,h4⟩
       ·rw [conv_ok keep true x X h1]
        have:=ih r X (by omega) h2 hX
        simp only [List.length_cons];omega
       ·have hh:=h3
        simp only [codedL,Bool.and_eq_true,decide_eq_true_eq] at hh
        cases X with
        | nil=>have:=conv_len keep true [37];simp only [List.length_cons,List.length_nil] at *;omega
        | cons y X =>
          rw [List.cons_append,List.cons_prefix_cons] at hX
          obtain ⟨rfl,hX⟩:=hX
          cases X with
          | nil =>
            have:=conv_len keep true [37]
            have e:conv keep true [37,y]=(if (okC keep 37 || (true && codedL [37,y]))=true then [37] else pct 37) ++ conv keep true [y]:=rfl
            rw [e,List.length_append,conv_ok keep true y [] (okC_hex keep y hh.1.2)]
            have:(if (okC keep 37 || (true && codedL [37,y]))=true then [37] else pct 37).length<=3:=by split <;> simp [pct]
            simp only [conv,List.length_cons,List.length_nil];omega
          | cons z X =>
            rw [List.cons_append,List.cons_prefix_cons] at hX
            obtain ⟨rfl,hX⟩:=hX
            rw [conv_coded keep y z X ((codedL_more y z X s).trans h3)]
            have:=ih s X (by simp at hp;omega) h4 hX
            simp only [List.length_cons];omega
theorem pre_prefix (c:UInt8)(l:List UInt8):pre c l <+: l:=List.takeWhile_prefix _
theorem cut_host {hp Z Y:List UInt8}(h47:(47:UInt8) ∉ hp)(hZ:∃ r,Z=47 :: r)(hY:Y <+: hp ++ Z):Y.drop (pre 47 Y).length <+: Z:=by
 obtain ⟨r,rfl⟩:=hZ
 rcases List.prefix_or_prefix_of_prefix hY (List.prefix_append hp (47 :: r)) with h | ⟨Y',rfl⟩
 ·have h2:(47:UInt8) ∉ Y:=fun hm=>h47 (h.subset hm)
  rw [pre_all 47 Y h2,List.drop_length]
  exact List.nil_prefix
 ·have h3:Y' <+: 47 :: r:=(List.prefix_append_right_inj hp).1 hY
  cases Y' with
  | nil=>
    rw [List.append_nil,pre_all 47 hp h47,List.drop_length]
    exact List.nil_prefix
  | cons y Y'=>
    obtain ⟨rfl,h4⟩:=List.cons_prefix_cons.1 h3
    rw [(takeW_stop 47 hp Y' h47).1,List.drop_left]
    exact h3
theorem trimE_prefix (l:List UInt8):trimE l <+: l:=by
 unfold trimE
 have:=List.reverse_prefix.2 (List.dropWhile_suffix wsB (l:=l.reverse))
 simpa using this
theorem trim_prefix {n W:List UInt8}(hn:n=httpL\/n=httpsL):trimL (n ++ W) <+: n ++ W:=by
 unfold trimL
 have:trimF (n ++ W)=n ++ W:=by
  unfold trimF
  rcases hn with rfl | rfl <;> rfl
 rw [this]
 exact trimE_prefix _
theorem drop2_prefix {x y:UInt8}{Z:List UInt8}:∀ {l:List UInt8},l <+: x :: y :: Z->l.drop 2 <+: Z
 | [],_=>List.nil_prefix
 | [_],_=>List.nil_prefix
 | _ :: _ :: _,h=>(List.cons_prefix_cons.1 (List.cons_prefix_cons.1 h).2).2
theorem scheme_rest {n W X:List UInt8}(hn:n=httpL\/n=httpsL)(hX:X <+: n ++ 58 :: W)(h58:(58:UInt8)∈X):pre 58 X=n/\post 58 X <+: W:=by
 have hn58:(58:UInt8) ∉ n:=by rcases hn with rfl | rfl <;> decide
 rcases List.prefix_or_prefix_of_prefix hX (List.prefix_append n (58 :: W)) with h | ⟨Y',rfl⟩
 ·exact absurd (h.subset h58) hn58
 ·have h3:Y' <+: 58 :: W:=(List.prefix_append_right_inj n).1 hX
  cases Y' with
  | nil=>rw [List.append_nil] at h58;exact absurd h58 hn58
  | cons y Y'=>
    obtain ⟨rfl,h4⟩:=List.cons_prefix_cons.1 h3
    obtain ⟨h1,h2⟩:=takeW_stop 58 n Y' hn58
    exact ⟨h1,by rw [h2];exact h4⟩
theorem parse_path {n hp p t:List UInt8}{r:U6}(hn:n=httpL\/n=httpsL)(h47:(47:UInt8) ∉ hp)(hZ:∃ q,p ++ t=47 :: q)(hF:Fixed innerL p)(h:parseL (n ++ 58 :: (47 :: 47 :: (hp ++ (p ++ t))))=some r):
 r.2.2.2.1.length<=p.length+3 * t.length+4:=by
 unfold parseL at h
 split at h
 ·next hok=>
  have h58:(58:UInt8)∈trimL (n ++ 58 :: (47 :: 47 :: (hp ++ (p ++ t)))):=by
   unfold schemeOk at hok
   simp only [Bool.and_eq_true,List.contains_iff_mem] at hok
   exact hok.1.1
  obtain ⟨e1,e2⟩:=scheme_rest hn (trim_prefix hn) h58
  have hlow:lowL n=n:=by rcases hn with rfl | rfl <;> decide
  have hab:n≠aboutL:=by rcases hn with rfl | rfl <;> decide
  rw [e1,hlow] at h
  generalize post 58 (trimL (n ++ 58 :: (47 :: 47 :: (hp ++ (p ++ t)))))=R at h e2
  unfold restL at h
  simp only at h
  rw [if_neg hab] at h
  have e3:(pre 35 R).drop 2 <+: hp ++ (p ++ t):=drop2_prefix ((pre_prefix 35 R).trans e2)
  unfold siteL at h
  split at h
  ·simp only at h
   split at h
   ·cases h
    have e4:=cut_host h47 hZ ((pre_prefix 63 ((pre 35 R).drop 2)).trans e3)
    have e5:=conv_prefix innerL t p.length p _ lr hF e4
    have e6:=clean_le (conv innerL true ((pre 63 ((pre 35 R).drop 2)).drop (pre 47 (pre 63 ((pre 35 R).drop 2))).length))
    simp only
    omega
   ·cases h
  ·cases h
 ·cases h
theorem dirN_shape (l:List UInt8):∀ k,dirN l k=0\/∃ m,dirN l k=m+1/\l[m]? = some 47
 | 0=>.inl rfl
 | k+1=>by
   unfold dirN
   split
   ·next h=>exact .inr ⟨k,rfl,h⟩
   ·exact dirN_shape l k
theorem dir_fixed {l:List UInt8}(hF:Fixed innerL l)(h0:∃ q,l=47 :: q):Fixed innerL (l.take (dirN l l.length))/\∃ q,l.take (dirN l l.length)=47 :: q:=by
 have hk:okC innerL 47=true:=by decide
 obtain ⟨q,rfl⟩:=h0
 rcases dirN_shape (47 :: q) (47 :: q).length with h | ⟨m,h,hm⟩
 ·exfalso
  have:∀ k,0<k->dirN (47 :: q) k≠0:=by
   intro k
   induction k with
   | zero=>intro h;omega
   | succ k ih=>
     intro _
     unfold dirN
     split
     ·omega
     ·next h2=>
      refine ih ?_
      cases k with
      | zero=>exact absurd rfl h2
      | succ k=>omega
  exact this _ (by simp) h
 ·have hlt:m<(47 :: q).length:=by
   rcases Nat.lt_or_ge m (47 :: q).length with h1 | h1
   ·exact h1
   ·rw [List.getElem?_eq_none h1] at hm;cases hm
  have hget:(47 :: q)[m]=47:=by rw [List.getElem?_eq_getElem hlt] at hm;exact Option.some.inj hm
  have e:(47 :: q).take (m+1)=(47 :: q).take m ++ [47]:=by rw [List.take_succ_eq_append_getElem hlt,hget]
  have e2:47 :: q=(47 :: q).take m ++ 47 :: (47 :: q).drop (m+1):=by
   conv=>lhs;rw [<-List.take_append_drop m (47 :: q),List.drop_eq_getElem_cons hlt,hget]
  have hF2:Fixed innerL ((47 :: q).take m ++ 47 :: (47 :: q).drop (m+1)):=by rw [<-e2];exact hF
  have hF3:=(fixed_split innerL _ hk _ _ lr hF2).1
  refine ⟨?_,?_⟩
  ·rw [h,e]
   exact fixed_app innerL [47] (fixed_ok innerL 47 [] hk rfl) _ _ lr hF3
  ·rw [h]
   exact ⟨q.take m,rfl⟩
theorem host_no47 {n a b c d f:List UInt8}(s:Site n a b c d f):(47:UInt8) ∉ a ++ tailL 58 b:=by
 have ha:=all_mem s.hok
 have hb:=port_mem s.pok.1
 simp only [List.mem_append,not_or]
 refine ⟨okC_ne _ 47 (by decide) a ha (by decide),fun h=>?_⟩
 rcases mem_tail 58 b 47 h with h | h
 ·revert h;decide
 ·exact okC_ne _ 47 (by decide) b hb (by decide) h
theorem place_eq (n a b c d f:List UInt8)(Z:List UInt8):placeL (n,a,b,c,d,f) ++ Z=n ++ 58 :: (47 :: 47 :: ((a ++ tailL 58 b) ++ Z)):=by
 unfold placeL tailL
 simp [List.append_assoc]
theorem resolve_grow {u r:U6}{t:List UInt8}{P:Nat}(hP:u.2.2.2.1.length<=P)(hP2:P<=10000)(ht:t.length<=300)(hu:Fits 35000 u)(h:resolveL u (validB u) t=some r):Fits 35000 r/\r.2.2.2.1.length<=P+940:=by
 have small:∀ s:List UInt8,3 * s.length+2<=35000->parseL s=some r->Fits 35000 r:=fun s hs hp=>by
  obtain ⟨h1,h2,h3,h4,h5,h6⟩:=parse_len s r hp
  exact ⟨by omega,by omega,by omega,by omega,by omega,by omega⟩
 obtain ⟨h1,h2,h3,h4,h5,h6⟩:=hu
 have hconv:=conv_len (innerL ++ [63]) true t.tail
 have htail:t.tail.length<=t.length:=by simp
 unfold resolveL at h
 split at h
 ·exact ⟨small t (by omega) h,by have:=(parse_len t r h).2.2.2.1;omega⟩
 ·split at h
  ·cases h
  ·next hv=>
   have hv:validB u=true:=by simpa using hv
   split at h
   ·cases h;exact ⟨⟨h1,h2,h3,h4,h5,Nat.zero_le _⟩,Nat.le_trans hP (Nat.le_add_right _ _)⟩
   ·split at h
    ·cases h;exact ⟨⟨h1,h2,h3,h4,h5,by show (conv (innerL ++ [63]) true t.tail).length<=35000;omega⟩,Nat.le_trans hP (Nat.le_add_right _ _)⟩
    ·split at h
     ·cases h
     ·next hab=>
      rcases parse_cases ((valid_iff u).1 hv) with ⟨p,g,rfl,_⟩ | ⟨n,a,b,c,d,f,rfl,s⟩
      ·exact absurd rfl hab
      ·have hn5:n.length<=5:=by rcases s.sch with rfl | rfl <;> decide
       have hh:=s.hlen.2
       have hp5:=s.pok.1.2.1
       have hc47:∃ q,c=47 :: q:=by rw [<-s.clean];exact clean_head c
       have hno:=host_no47 s
       have hplace:(placeL (n,a,b,c,d,f)).length<=270:=by
        have:=place_eq n a b c d f []
        rw [List.append_nil] at this
        rw [this]
        have h2:(tailL 58 b).length<=b.length+1:=by unfold tailL;split <;> simp
        simp only [List.length_append,List.length_cons,List.length_nil]
        omega
       have hP:c.length<=P:=hP
       split at h
       ·refine ⟨small _ ?_ h,?_⟩
        ·simp only [List.length_append,List.length_cons];omega
        ·have:=(parse_len _ r h).2.2.2.1
         simp only [List.length_append,List.length_cons] at this
         omega
       ·split at h
        ·next h47=>
         refine ⟨small _ (by rw [List.length_append];omega) h,?_⟩
         have h47':∃ q,t=47 :: q:=by
          cases t with
          | nil=>cases h47
          | cons x q=>exact ⟨q,by rw [Option.some.inj h47]⟩
         rw [place_eq] at h
         have:=parse_path (p:=[]) s.sch hno (by simpa using h47') rfl h
         simp only [List.length_nil] at this
         omega
        ·split at h
         ·refine ⟨small _ (by simp only [List.length_append];show 3 * ((placeL (n,a,b,c,d,f)).length+c.length+t.length)+2<=35000;omega) h,?_⟩
          rw [List.append_assoc,place_eq] at h
          have:=parse_path (p:=c) s.sch hno (by obtain ⟨q,hq⟩:=hc47;exact ⟨q ++ t,by rw [hq];rfl⟩) s.pfix h
          omega
         ·obtain ⟨hdF,hd0⟩:=dir_fixed (l:=c) s.pfix hc47
          have hdl:(c.take (dirN c c.length)).length<=c.length:=by rw [List.length_take];omega
          refine ⟨small _ (by simp only [List.length_append];show 3 * ((placeL (n,a,b,c,d,f)).length+(c.take (dirN c c.length)).length+t.length)+2<=35000;omega) h,?_⟩
          rw [List.append_assoc,place_eq] at h
          have:=parse_path (p:=c.take (dirN c c.length)) s.sch hno (by obtain ⟨q,hq⟩:=hd0;exact ⟨q ++ t,by rw [hq];rfl⟩) hdF h
          omega
structure HOk (m:Nat)(hs:List Hd):Prop where
 len:hs.length<=m
 sz:∀ h∈hs,h.1.size<=500/\h.2.size<=500/\(isH h loN=true->h.2.size<=300)
theorem HOk.hd {m:Nat}{hs:List Hd}(h:HOk m hs)(hm:m<=1000):HdSz hs:=⟨by have:=h.len;omega,fun x hx=>by have:=h.sz x hx;omega⟩
theorem HOk.nil (m:Nat):HOk m []:=⟨Nat.zero_le _,fun h hh=>by cases hh⟩
theorem HOk.mono {m n:Nat}{hs:List Hd}(h:HOk m hs)(hm:m<=n):HOk n hs:=⟨Nat.le_trans h.len hm,h.sz⟩
theorem HOk.loc {m:Nat}{hs:List Hd}(h:HOk m hs):(valL hs loN.data.toList).size<=300:=by
 unfold valL hdrL
 cases e:hs.find? (hitH loN.data.toList) with
 | none=>decide
 | some x=>
   have h1:=(h.sz x (List.mem_of_find?_eq_some e)).2.2 (by have:=List.find?_some e;exact this)
   simpa using h1
structure SOk (S:FS):Prop where
 ho:S.ho<=10
 u:USize 35000 S.a S.b S.c S.d S.e S.f
 d:S.d.size<=1400+950 * S.ho
 ql:S.qh.length<=100
 qz:∀ h∈S.qh,h.1.size<=1000/\h.2.size<=1000
 og:S.og.size<=1000
 ur:S.ur.size<=450
 hs:HOk 800 S.hs
 sb:S.sb.size<=1048576
theorem SOk.u4 {S:FS}(h:SOk S):USize 40000 S.a S.b S.c S.d S.e S.f:=⟨by have:=h.u.a;omega,by have:=h.u.b;omega,by have:=h.u.c;omega,by have:=h.u.d;omega,by have:=h.u.e;omega,by have:=h.u.f;omega⟩
theorem SOk.q {S:FS}(h:SOk S):HdSz S.qh:=⟨by have:=h.ql;omega,fun x hx=>by have:=h.qz x hx;omega⟩
theorem SOk.r {S:FS}(h:SOk S):HdSz (hdF S)/\(hdF S).length<=101:=by
 have h1:(woL S.qh [ckN,ogN]).length<=100:=Nat.le_trans (List.length_filter_le _ _) h.ql
 have h2:∀ x∈hdF S,x.1.size<=100000/\x.2.size<=100000:=fun x hx=>by
  unfold hdF at hx
  rcases List.mem_append.1 hx with hx | hx
  ·have:=h.qz x (List.mem_filter.1 hx).1;omega
  ·split at hx
   ·obtain rfl:=List.mem_singleton.1 hx
    have:=h.og
    exact ⟨by show ogN.size<=100000;decide,by show S.og.size<=100000;omega⟩
   ·cases hx
 have h3:(hdF S).length<=101:=by
  unfold hdF
  rw [List.length_append]
  split
  ·simp only [List.length_singleton];omega
  ·simp only [List.length_nil];omega
 exact ⟨⟨by omega,h2⟩,h3⟩
structure EOk (m:Nat)(e:En):Prop where
 hd:HOk m e.hd
 va:HdSz e.va
 bo:e.bo.size<=1048576
structure COk (n m:Nat)(C:List En):Prop where
 len:C.length<=n
 ok:∀ e∈C,EOk m e
structure JOk (J:List Ck):Prop where
 len:J.length<=202
 ok:∀ c∈J,(c.d.size<=100000/\c.p.size<=100000)/\c.n.size<=100000/\c.v.size<=100000
theorem SOk.fail {S:FS}(h:SOk S)(e:Int):SOk (failS S e):=⟨h.ho,h.u,h.d,h.ql,h.qz,h.og,h.ur,HOk.nil _,Nat.zero_le _⟩
theorem SOk.data {S:FS}(h:SOk S)(p:ByteArray):SOk (dataF p S).1:=by
 unfold dataF
 split
 ·split
  ·exact h.fail 5
  ·next hn=>exact ⟨h.ho,h.u,h.d,h.ql,h.qz,h.og,h.ur,h.hs,by show (S.sb ++ p).size<=1048576;rw [ByteArray.size_append];omega⟩
 ·exact h
theorem fits_u {S:FS}(h:SOk S):Fits 35000 S.u:=by
 have:=h.u
 exact ⟨by rw [show S.u.1=S.a.data.toList from rfl,size_len];exact this.a,by rw [show S.u.2.1=S.b.data.toList from rfl,size_len];exact this.b,by rw [show S.u.2.2.1=S.c.data.toList from rfl,size_len];exact this.c,by rw [show S.u.2.2.2.1=S.d.data.toList from rfl,size_len];exact this.d,by rw [show S.u.2.2.2.2.1=S.e.data.toList from rfl,size_len];exact this.e,by rw [show S.u.2.2.2.2.2=S.f.data.toList from rfl,size_len];exact this.f⟩
theorem SOk.setU {S:FS}(h:SOk S)(h10:S.ho<10){loc:ByteArray}(hl:loc.size<=300){u:U6}(hr:resolveL S.u (validB S.u) (trimL loc.data.toList)=some u)(m:ByteArray):SOk { setU S u with ho:=S.ho+1,sm:=m }:=by
 have ht:=trimL_len loc.data.toList
 rw [size_len] at ht
 have hd:=h.d
 obtain ⟨⟨h1,h2,h3,h4,h5,h6⟩,h7⟩:=resolve_grow (P:=1400+950 * S.ho) (by show S.d.data.toList.length<=_;rw [size_len];exact hd) (by omega) (by omega) (fits_u h) hr
 refine ⟨by show S.ho+1<=10;omega,⟨?_,?_,?_,?_,?_,?_⟩,?_,h.ql,h.qz,h.og,h.ur,h.hs,h.sb⟩
 ·show (bs u.1).size<=35000;rw [bs_size];exact h1
 ·show (bs u.2.1).size<=35000;rw [bs_size];exact h2
 ·show (bs u.2.2.1).size<=35000;rw [bs_size];exact h3
 ·show (bs u.2.2.2.1).size<=35000;rw [bs_size];exact h4
 ·show (bs u.2.2.2.2.1).size<=35000;rw [bs_size];exact h5
 ·show (if u.2.2.2.2.2=[] then S.f else bs u.2.2.2.2.2).size<=35000
  split
  ·exact h.u.f
  ·rw [bs_size];exact h6
 ·have h8:(bs u.2.2.2.1).size<=1400+950 * (S.ho+1):=Nat.le_trans (Nat.le_of_eq (bs_size _)) (by omega)
  exact h8
theorem COk.keep {n m:Nat}{C:List En}(h:COk n m C){S:FS}(hS:SOk S)(hm:m<=800)(st:Int){hs:List Hd}(hh:HOk m hs){body:ByteArray}(hb:body.size<=1048576)(now:Int):COk (n+1) m (keepF S st hs body now C):=by
 unfold keepF
 split
 ·unfold putEs
  refine ⟨?_,fun e he=>?_⟩
  ·rw [List.length_append]
   have h1:(keepE C (txB S) (hdF S)).length<=C.length:=List.length_filter_le _ _
   have h2:=h.len
   have h3:(if storL st (hdF S) hs=true then [(⟨txB S,varyE (hdF S) hs,st,hs,body,now⟩:En)] else []).length<=1:=by split <;> simp
   omega
  ·rcases List.mem_append.1 he with he | he
   ·exact h.ok e (List.mem_filter.1 he).1
   ·split at he
    ·obtain rfl:=List.mem_singleton.1 he
     exact ⟨hh,HdSz.vary hS.r.1 (hh.hd (by omega)),hb⟩
    ·cases he
 ·exact ⟨by have:=h.len;omega,h.ok⟩
theorem askF_ok {n m:Nat}{C:List En}(h:COk n m C)(url:ByteArray)(rq:List Hd)(now:Int):COk n m (askF C url rq now).c/\EOk m (askF C url rq now).e:=by
 have h0:EOk m en0:=⟨HOk.nil _,⟨Nat.zero_le _,fun h hh=>by cases hh⟩,Nat.zero_le _⟩
 unfold askF
 split
 ·exact ⟨h,h0⟩
 ·next i _=>
  split
  ·exact ⟨h,h0⟩
  ·split
   ·exact ⟨h,h0⟩
   ·next e he=>
    have he1:=h.ok e (List.mem_of_getElem? he)
    split
    ·refine ⟨⟨?_,fun x hx=>?_⟩,he1⟩
     ·have hi:i<C.length:=(List.getElem?_eq_some_iff.1 he).1
      rw [List.length_append,List.length_eraseIdx,if_pos hi,List.length_singleton]
      have:=h.len;omega
     ·rcases List.mem_append.1 hx with hx | hx
      ·exact h.ok x (List.mem_of_mem_eraseIdx hx)
      ·obtain rfl:=List.mem_singleton.1 hx;exact he1
    ·split
     ·exact ⟨h,h0⟩
     ·exact ⟨h,he1⟩
structure OOk (n m:Nat)(o:Out):Prop where
 s:SOk o.s
 c:COk n m o.c
theorem failO_ok {n m:Nat}{C:List En}(h:COk n m C){S:FS}(hS:SOk S)(e:Int):OOk n m (failO S C e):=⟨hS.fail e,h⟩
theorem SOk.hop {S:FS}(h:SOk S)(h10:S.ho<10):SOk { S with ho:=S.ho+1 }:=⟨by show S.ho+1<=10;omega,h.u,(by have h8:S.d.size<=1400+950 * (S.ho+1):=(by have:=h.d;omega);exact h8),h.ql,h.qz,h.og,h.ur,h.hs,h.sb⟩
theorem SOk.hid {S:FS}(h:SOk S)(b:Bool):SOk { S with hi:=b }:=⟨h.ho,h.u,h.d,h.ql,h.qz,h.og,h.ur,h.hs,h.sb⟩
theorem SOk.chk {S:FS}(h:SOk S)(b:Bool):SOk { S with ch:=b }:=⟨h.ho,h.u,h.d,h.ql,h.qz,h.og,h.ur,h.hs,h.sb⟩
theorem SOk.pha {S:FS}(h:SOk S)(k:Int):SOk { S with ph:=k }:=⟨h.ho,h.u,h.d,h.ql,h.qz,h.og,h.ur,h.hs,h.sb⟩
theorem redirF_ok {n m:Nat}{snd:FS->List En->Out}(hs:∀ S C,SOk S->COk n m C->OOk n m (snd S C))(st:Int){loc:ByteArray}(hl:loc.size<=300){S:FS}(hS:SOk S){C:List En}(hC:COk n m C):OOk n m (redirF snd st loc S C):=by
 unfold redirF
 split
 ·exact failO_ok hC hS _
 ·next h10=>
  split
  ·exact failO_ok hC (hS.hop (by omega)) _
  ·next u hu=>
   split
   ·exact failO_ok hC (hS.hop (by omega)) _
   ·split
    ·exact failO_ok hC (hS.hop (by omega)) _
    ·exact hs _ _ (hS.setU (by omega) hl hu _) hC
theorem headO_ok {n m:Nat}(st:Int){hd:List Hd}(hh:HOk 800 hd){S:FS}(hS:SOk S){C:List En}(hC:COk n m C):OOk n m (headO st hd S C):=by
 unfold headO
 split
 ·exact failO_ok hC (hS.hid _) _
 ·exact ⟨⟨hS.ho,hS.u,hS.d,hS.ql,hS.qz,hS.og,hS.ur,hh,Nat.zero_le _⟩,hC⟩
theorem takeF_ok {n m:Nat}(hm:m<=800){snd:FS->List En->Out}(hs:∀ S C,SOk S->COk n m C->OOk n m (snd S C))(net:Bool)(now st:Int){hd:List Hd}(hh:HOk m hd){S:FS}(hS:SOk S){C:List En}(hC:COk n m C)(hk:net=true->COk n m (keepF S st hd eS now C)):OOk n m (takeF snd net now st hd S C):=by
 unfold takeF
 split
 ·split
  ·exact failO_ok hC hS _
  ·cases net with
   | true=>exact redirF_ok hs st hh.loc hS (hk rfl)
   | false=>exact redirF_ok hs st hh.loc hS hC
 ·exact headO_ok st (hh.mono hm) hS hC
theorem restF_ok {n m:Nat}(p:ByteArray){o:Out}(h:OOk n m o):OOk n m (restF p o):=by
 unfold restF
 split
 ·split
  ·exact ⟨(h.s.data p).pha 3,h.c⟩
  ·exact ⟨h.s.data p,h.c⟩
 ·exact h
theorem storedF_ok {n m:Nat}(hm:m<=800){snd:FS->List En->Out}(hs:∀ S C,SOk S->COk n m C->OOk n m (snd S C))(now:Int){e:En}(he:EOk m e){S:FS}(hS:SOk S){C:List En}(hC:COk n m C):OOk n m (storedF snd now e S C):=
 restF_ok _ (takeF_ok hm hs false now e.st he.hd (hS.chk false) hC (fun h=>by cases h))
theorem sendF_ok {n m:Nat}(hm:m<=800)(J:List Ck)(now:Int):∀ (k:Nat) (S:FS) (C:List En),SOk S->COk n m C->OOk n m (sendF J now k S C)
 | 0,S,C,hS,hC=>⟨hS,hC⟩
 | k + 1, S, C, hS, hC => by
   have ha:=askF_ok hC (txB S) (hdF S) now
   have ho:∀ C more ch,COk n m C->OOk n m (askO J now S C more ch):=fun C more ch hC=>⟨(hS.chk ch).pha 1,hC⟩
   unfold sendF
   split
   ·simp only
    split
    ·exact storedF_ok hm (fun S C=>sendF_ok hm J now k S C) now ha.2 hS ha.1
    ·split
     ·exact ho _ _ _ ha.1
     ·exact ho _ _ _ ha.1
   ·exact ho _ _ _ hC
end Go.Proofs.YtjdhaacmlpegoaaGreatDoor
