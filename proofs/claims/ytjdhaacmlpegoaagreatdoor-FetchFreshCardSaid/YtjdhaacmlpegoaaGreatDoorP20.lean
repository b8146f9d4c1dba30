/- Part 20 of what the proof needs: SZ S1. -/
import Derived.Test.YtjdhaacmlpegoaaGreatDoorP19
import Derived.Deep.CutRange
import Derived.Test.YtjdhaacmlpegoaaGreatDoorP01
import Derived.Test.YtjdhaacmlpegoaaGreatDoorP09
import Derived.Test.YtjdhaacmlpegoaaGreatDoorP14
set_option maxRecDepth 20000
set_option maxHeartbeats 16000000
namespace Go.Proofs.YtjdhaacmlpegoaaGreatDoor
open Go.RowKit Go.Sort
set_option linter.unusedSimpArgs false
set_option linter.unusedVariables false
def Stg (W0:World)(B g n cap:Nat)(d:Array Ck)(w:World):Prop:=RowC w B g n cap d/\BelowBut W0.heap.size g W0 w
abbrev rotArgs (g n cap a m b:Nat):Array Value:=#[.slice (some ⟨g,0,none⟩) n cap,.int .i64 a,.int .i64 m,.int .i64 b,.func (.func 87) #[] #[]]
def SymIH (B g n cap L:Nat):Prop:=∀ (a m b:Nat) (X u v Y:List Ck) (W:World),RowC W B g n cap (X ++ u ++ v ++ Y).toArray->a=X.length->m=a+u.length->b=m+v.length->a<m->m<b->b - a<L->Srt ltC u->Srt ltC v ->
 Calls Tryz.prog 202 (rotArgs g n cap a m b) W fun e W'=>e = .returned (.tuple #[])/\RowC W' B g n cap (X ++ mg ltC u v ++ Y).toArray/\BelowBut W.heap.size g W W'
theorem sym_stages (B g n cap a m b st en mid:Nat)(X u v Y:List Ck)(W0:World)(hn:n<=1000)(ha:a=X.length)(hm:m=a+u.length)(hb:b=m+v.length)(hab:a<b)(hmid:mid=(a+b) / 2)(hu:Srt ltC u)(hv:Srt ltC v)
 (k1:a<=st) (k2:st<=m) (k3:m<=en) (k4:en<=b) (k5:(st - a)+(en - m)=mid - a) (k6:st<=mid) (k7:mid<=en) (hmg:mg ltC u v=mg ltC (u.take (st - a)) (v.take (en - m)) ++ mg ltC (u.drop (st - a)) (v.drop (en - m)))
 (ih:SymIH B g n cap (b - a)) :
 ∃ d1 d2 : Array Ck,
   ((st<m/\m<en)->∀ w,Stg W0 B g n cap (X ++ u ++ v ++ Y).toArray w->Calls Tryz.prog 247 (rotArgs g n cap st m en) w fun e w'=>e = .returned (.tuple #[])/\Stg W0 B g n cap d1 w') /\
   (¬ (st<m/\m<en)->∀ w,Stg W0 B g n cap (X ++ u ++ v ++ Y).toArray w->Stg W0 B g n cap d1 w) /\
   ((a<st/\st<mid)->∀ w,Stg W0 B g n cap d1 w->Calls Tryz.prog 202 (rotArgs g n cap a st mid) w fun e w'=>e = .returned (.tuple #[])/\Stg W0 B g n cap d2 w') /\
   (¬ (a<st/\st<mid)->∀ w,Stg W0 B g n cap d1 w->Stg W0 B g n cap d2 w) /\
   ((mid<en/\en<b)->∀ w,Stg W0 B g n cap d2 w->Calls Tryz.prog 202 (rotArgs g n cap mid en b) w fun e w'=>e = .returned (.tuple #[])/\Stg W0 B g n cap (X ++ mg ltC u v ++ Y).toArray w') /\
   (¬ (mid<en/\en<b)->∀ w,Stg W0 B g n cap d2 w->Stg W0 B g n cap (X ++ mg ltC u v ++ Y).toArray w):=by
 obtain ⟨p,hp⟩:∃ p,u.take (st - a)=p:=⟨_,rfl⟩
 obtain ⟨q,hq⟩:∃ q,u.drop (st - a)=q:=⟨_,rfl⟩
 obtain ⟨r,hr⟩:∃ r,v.take (en - m)=r:=⟨_,rfl⟩
 obtain ⟨s,hs⟩:∃ s,v.drop (en - m)=s:=⟨_,rfl⟩
 have eu:u=p ++ q:=by rw [<-hp,<-hq,List.take_append_drop]
 have ev:v=r ++ s:=by rw [<-hr,<-hs,List.take_append_drop]
 have lp:p.length=st - a:=by rw [<-hp,List.length_take];omega
 have lq:q.length=m - st:=by rw [<-hq,List.length_drop];omega
 have lr:r.length=en - m:=by rw [<-hr,List.length_take];omega
 have ls:s.length=b - en:=by rw [<-hs,List.length_drop];omega
 have sp:Srt ltC p:=by rw [<-hp];exact srt_take ltC hu _
 have sq:Srt ltC q:=by rw [<-hq];exact srt_drop ltC hu _
 have sr:Srt ltC r:=by rw [<-hr];exact srt_take ltC hv _
 have ss:Srt ltC s:=by rw [<-hs];exact srt_drop ltC hv _
 rw [hp,hq,hr,hs] at hmg
 rw [hmg]
 have lpr:(mg ltC p r).length=mid - a:=by rw [mg_length,lp,lr];exact k5
 have hmb:mid<b:=by omega
 refine ⟨(X ++ p ++ r ++ q ++ s ++ Y).toArray,(X ++ mg ltC p r ++ q ++ s ++ Y).toArray,?_,?_,?_,?_,?_,?_⟩
 ·rintro ⟨h1,h2⟩ w ⟨hw,hbw⟩
  have hw':RowC w B g n cap ((X ++ p) ++ q ++ r ++ (s ++ Y)).toArray:=by
   have e:X ++ u ++ v ++ Y=(X ++ p) ++ q ++ r ++ (s ++ Y):=by rw [eu,ev];simp only [List.append_assoc]
   rw [<-e];exact hw
  refine (rot_any B g n cap st m en (X ++ p) q r (s ++ Y) w hw' (by rw [List.length_append,lp];omega) (by rw [lq];omega) (by rw [lr];omega) h1 h2 hn).mono ?_
  rintro e w' ⟨he,hr',hb'⟩
  refine ⟨he,?_,hbw.stepb hb' hbw.size⟩
  have e:X ++ p ++ r ++ q ++ s ++ Y=(X ++ p) ++ r ++ q ++ (s ++ Y):=by simp only [List.append_assoc]
  rw [e];exact hr'
 ·rintro h w ⟨hw,hbw⟩
  refine ⟨?_,hbw⟩
  have e:X ++ p ++ r ++ q ++ s ++ Y=X ++ u ++ v ++ Y:=by
   rw [eu,ev]
   rcases Nat.lt_or_ge st m with h1 | h1
   ·obtain rfl:r=[]:=List.eq_nil_of_length_eq_zero (by omega)
    simp
   ·obtain rfl:q=[]:=List.eq_nil_of_length_eq_zero (by omega)
    simp
  rw [e];exact hw
 ·rintro ⟨h1,h2⟩ w ⟨hw,hbw⟩
  have hw':RowC w B g n cap (X ++ p ++ r ++ (q ++ s ++ Y)).toArray:=by
   have e:X ++ p ++ r ++ q ++ s ++ Y=X ++ p ++ r ++ (q ++ s ++ Y):=by simp only [List.append_assoc]
   rw [<-e];exact hw
  refine (ih a st mid X p r (q ++ s ++ Y) w hw' ha (by omega) (by omega) h1 h2 (by omega) sp sr).mono ?_
  rintro e w' ⟨he,hr',hb'⟩
  refine ⟨he,?_,hbw.stepb hb' hbw.size⟩
  have e:X ++ mg ltC p r ++ q ++ s ++ Y=X ++ mg ltC p r ++ (q ++ s ++ Y):=by simp only [List.append_assoc]
  rw [e];exact hr'
 ·rintro h w ⟨hw,hbw⟩
  refine ⟨?_,hbw⟩
  have e:X ++ mg ltC p r ++ q ++ s ++ Y=X ++ p ++ r ++ q ++ s ++ Y:=by
   rcases Nat.lt_or_ge a st with h1 | h1
   ·obtain rfl:r=[]:=List.eq_nil_of_length_eq_zero (by omega)
    rw [mg_nil'];simp
   ·obtain rfl:p=[]:=List.eq_nil_of_length_eq_zero (by omega)
    rw [mg_nil];simp
  rw [e];exact hw
 ·rintro ⟨h1,h2⟩ w ⟨hw,hbw⟩
  have hw':RowC w B g n cap ((X ++ mg ltC p r) ++ q ++ s ++ Y).toArray:=by
   have e:X ++ mg ltC p r ++ q ++ s ++ Y=(X ++ mg ltC p r) ++ q ++ s ++ Y:=by simp only [List.append_assoc]
   rw [<-e];exact hw
  refine (ih mid en b (X ++ mg ltC p r) q s Y w hw' (by rw [List.length_append,lpr];omega) (by omega) (by omega) h1 h2 (by omega) sq ss).mono ?_
  rintro e w' ⟨he,hr',hb'⟩
  refine ⟨he,?_,hbw.stepb hb' hbw.size⟩
  have e:X ++ (mg ltC p r ++ mg ltC q s) ++ Y=(X ++ mg ltC p r) ++ mg ltC q s ++ Y:=by simp only [List.append_assoc]
  rw [e];exact hr'
 ·rintro h w ⟨hw,hbw⟩
  refine ⟨?_,hbw⟩
  have e:X ++ (mg ltC p r ++ mg ltC q s) ++ Y=X ++ mg ltC p r ++ q ++ s ++ Y:=by
   rcases Nat.lt_or_ge mid en with h1 | h1
   ·obtain rfl:s=[]:=List.eq_nil_of_length_eq_zero (by omega)
    rw [mg_nil'];simp
   ·obtain rfl:q=[]:=List.eq_nil_of_length_eq_zero (by omega)
    rw [mg_nil];simp
  rw [e];exact hw
theorem three_way (p q r:Nat):(Hid (p<q/\q<r)/\(p:Int)<(q:Int)/\(q:Int)<(r:Int))\/(Hid (¬ (p<q/\q<r))/\decide (p<q)=false)\/(Hid (¬ (p<q/\q<r))/\(p:Int)<(q:Int)/\decide (q<r)=false):=by
 by_cases h1:p<q
 ·by_cases h2:q<r
  ·exact .inl ⟨Lib.hid ⟨h1,h2⟩,by omega,by omega⟩
  ·exact .inr (.inr ⟨Lib.hid (fun h=>h2 h.2),by omega,decide_eq_false h2⟩)
 ·exact .inr (.inl ⟨Lib.hid (fun h=>h1 h.1),decide_eq_false h1⟩)
theorem sym_gen (B g n cap a m b:Nat)(X u v Y:List Ck)(W:World)(h:RowC W B g n cap (X ++ u ++ v ++ Y).toArray)(ha:a=X.length)(hm:m=a+u.length)(hb:b=m+v.length)(h1:2<=u.length)(h2:2<=v.length)(hu:Srt ltC u)(hv:Srt ltC v)(hn:n<=1000)(ih:SymIH B g n cap (b - a)):
 Calls Tryz.prog 202 #[.slice (some ⟨g,0,none⟩) n cap,.int .i64 a,.int .i64 m,.int .i64 b,.func (.func 87) #[] #[]] W fun e W'=>e = .returned (.tuple #[])/\RowC W' B g n cap (X ++ mg ltC u v ++ Y).toArray/\BelowBut W.heap.size g W W':=by
 have CM:=Lib.hid (fun (x y:Ck) (R:Int) (hR:cmpC x y=R) (W:World)=>cmp_is x y R hR W)
 have hsz:b+Y.length=n:=by have:=h.size;simp at this;omega
 have hbn:b<=n:=by omega
 have ham:a+2<=m:=by omega
 have hmb:m+2<=b:=by omega
 have hma1:((m:Int) - (a:Int) == 1)=false:=beq_eq_false_iff_ne.2 (by omega)
 have hbm1:((b:Int) - (m:Int) == 1)=false:=beq_eq_false_iff_ne.2 (by omega)
 obtain ⟨mid,hmid⟩:∃ mid,(a+b) / 2=mid:=⟨_,rfl⟩
 obtain ⟨nn,hnn⟩:∃ nn,mid+m=nn:=⟨_,rfl⟩
 obtain ⟨pp,hpp⟩:∃ pp,nn - 1=pp:=⟨_,rfl⟩
 have hmi1:((a:Int)+(b:Int)) / 2=(mid:Int):=by omega
 have hnn1:(mid:Int)+(m:Int)=(nn:Int):=by omega
 have hpp1:(nn:Int) - 1=(pp:Int):=by omega
 have hamid:a<=mid:=by omega
 have hmidb:mid<=b:=by omega
 have hnb:nn<=2000:=by omega
 have hpb:pp<=2000:=by omega
 obtain ⟨lo,hlo⟩:∃ lo,(if mid<m then nn - b else a)=lo:=⟨_,rfl⟩
 obtain ⟨hi,hhi⟩:∃ hi,(if mid<m then mid else m)=hi:=⟨_,rfl⟩
 have hl1:m > mid->lo=nn - b/\hi=mid:=fun h=>by rw [<-hlo,<-hhi,if_pos h,if_pos h];exact ⟨rfl,rfl⟩
 have hl2:¬ m > mid->lo=a/\hi=m:=fun h=>by rw [<-hlo,<-hhi,if_neg h,if_neg h];exact ⟨rfl,rfl⟩
 have hlh:lo<=hi:=by
  by_cases hc:m > mid
  ·obtain ⟨e1,e2⟩:=hl1 hc;omega
  ·obtain ⟨e1,e2⟩:=hl2 hc;omega
 have hbd:∀ h,lo<=h->h<hi->h<n/\pp - h<n/\h<=pp:=fun h p1 p2=>by
  by_cases hc:m > mid
  ·obtain ⟨e1,e2⟩:=hl1 hc;omega
  ·obtain ⟨e1,e2⟩:=hl2 hc;omega
 have hen:∀ i,lo<=i->i<=hi->i<=nn:=fun i p1 p2=>by
  by_cases hc:m > mid
  ·obtain ⟨e1,e2⟩:=hl1 hc;omega
  ·obtain ⟨e1,e2⟩:=hl2 hc;omega
 obtain ⟨d,hd⟩:∃ d,(X ++ u ++ v ++ Y).toArray=d:=⟨_,rfl⟩
 have hst:∀ st en,lo<=st->st<=hi->en=nn - st->(st=lo\/ltC d[nn - st]! d[st - 1]! = false)->(st=hi\/ltC d[nn - 1 - st]! d[st]! = true)->st<=1000/\en<=1000/\0<=st/\0<=en/\∃ d1 d2:Array Ck,
  ((st<m/\m<en)->∀ w,Stg W B g n cap d w->Calls Tryz.prog 247 (rotArgs g n cap st m en) w fun e w'=>e = .returned (.tuple #[])/\Stg W B g n cap d1 w') /\
  (¬ (st<m/\m<en)->∀ w,Stg W B g n cap d w->Stg W B g n cap d1 w) /\
  ((a<st/\st<mid)->∀ w,Stg W B g n cap d1 w->Calls Tryz.prog 202 (rotArgs g n cap a st mid) w fun e w'=>e = .returned (.tuple #[])/\Stg W B g n cap d2 w') /\
  (¬ (a<st/\st<mid)->∀ w,Stg W B g n cap d1 w->Stg W B g n cap d2 w) /\
  ((mid<en/\en<b)->∀ w,Stg W B g n cap d2 w->Calls Tryz.prog 202 (rotArgs g n cap mid en b) w fun e w'=>e = .returned (.tuple #[])/\Stg W B g n cap (X ++ mg ltC u v ++ Y).toArray w') /\
  (¬ (mid<en/\en<b)->∀ w,Stg W B g n cap d2 w->Stg W B g n cap (X ++ mg ltC u v ++ Y).toArray w):=fun st en p1 p2 p3 p4 p5=>by
  obtain ⟨k1,k2,k3,k4,k5,k6,k7,hmg⟩:=sym_part ltC swoC X u v Y a m b mid nn lo hi st en d hd.symm ha hm hb hmid.symm hnn.symm (by omega) (by omega) hl1 hl2 p1 p2 p3 hu hv p4 p5
  have hq:=sym_stages B g n cap a m b st en mid X u v Y W hn ha hm hb (by omega) hmid.symm hu hv k1 k2 k3 k4 k5 k6 k7 hmg ih
  rw [hd] at hq
  exact ⟨by omega,by omega,Nat.zero_le _,Nat.zero_le _,hq⟩
 rw [hd] at h
 have HR0:=Lib.hid h
 have HBD:=Lib.hid hbd
 have HEN:=Lib.hid hen
 have HST:=Lib.hid hst
 have HPP:=Lib.hid (show nn=pp+1 by omega)
 have hlo0:lo<=1000:=by omega
 have hhi0:hi<=1000:=by
  by_cases hc:m > mid
  ·obtain ⟨e1,e2⟩:=hl1 hc;omega
  ·obtain ⟨e1,e2⟩:=hl2 hc;omega
 have hcase:(Hid (mid<m)/\(mid:Int)<(m:Int)/\(nn:Int) - (b:Int)=(lo:Int)/\Hid (hi=mid))\/((¬ (mid:Int)<(m:Int))/\Hid (lo=a)/\Hid (hi=m)):=by
  by_cases hgm:mid<m
  ·obtain ⟨e1,e2⟩:=hl1 hgm
   exact .inl ⟨Lib.hid hgm,by omega,by omega,Lib.hid e2⟩
  ·obtain ⟨e1,e2⟩:=hl2 hgm
   exact .inr ⟨by omega,Lib.hid e1,Lib.hid e2⟩
 have HCASE:=Lib.hid hcase
 clear h hsz ha hm hb hd hmid hnn hpp hlo hhi hl1 hl2 hbd hen hst h1 h2 hu hv ih hcase
 go_enter Tryz.func202,Tryz.ntmps202
 go_upto_if 140 with fail
 go_cut [20,21] from 138 to 146 (fun v20 v21 wx=>Value.int .i64 lo=v20/\Value.int .i64 hi=v21/\W=wx)
 case first=>
  rcases HCASE.out with ⟨hgm,hgz,hlz,E2⟩ | ⟨hgz,E1,E2⟩
  ·go_wp2_with fail
   go_meet
   case rel=>exact ⟨by first | rfl | (congr 1;omega),by first | rfl | (have q2:=E2.out;congr 1;omega),rfl⟩
  ·go_wp2_with fail
   go_meet
   case rel=>exact ⟨by first | rfl | (have q1:=E1.out;congr 1;omega),by first | rfl | (have q2:=E2.out;congr 1;omega),rfl⟩
 case rest=>
  obtain ⟨rfl,rfl,rfl⟩:=hcut
  clear HCASE
  go_wp2_with fail
  go_loopw [20,21] (fun vi vj wr=>∃ i j:Nat,vi = .int .i64 i/\vj = .int .i64 j/\lo<=i/\i<=j/\j<=hi/\Stg W B g n cap d wr/\(i=lo\/ltC d[nn - i]! d[i - 1]! = false)/\(j=hi\/ltC d[nn - 1 - j]! d[j]! = true)) (fun vi vj _=>(intOf vj).toNat - (intOf vi).toNat)
  case atStart=>exact ⟨lo,hi,rfl,rfl,lr,hlh,lr,⟨HR0.out,BelowBut.refl _ _ _⟩,.inl rfl,.inl rfl⟩
  case round=>
   obtain ⟨i,j,rfl,rfl,hmi,hij,hjb,⟨hrk,hbk⟩,hI,hJ⟩:=hrel
   have HI:=Lib.hid hI
   have HJ:=Lib.hid hJ
   clear hI hJ
   by_cases hlt:i<j
   ·have hlz:(i:Int)<(j:Int):=by omega
    obtain ⟨h,hh⟩:∃ h,(i+j) / 2=h:=⟨_,rfl⟩
    obtain ⟨hih,hhj⟩:=half_lt hlt hh
    obtain ⟨t,ht⟩:∃ t,pp - h=t:=⟨_,rfl⟩
    obtain ⟨hhn,htn,hhp⟩:=HBD.out h (by omega) (by omega)
    rw [ht] at htn
    have hmh:lo<=h+1:=by omega
    have hmh2:lo<=h:=by omega
    have hhb:h<=hi:=by omega
    have hnp:=HPP.out
    obtain ⟨x,hx⟩:∃ x,d[t]! = x:=⟨_,rfl⟩
    obtain ⟨y,hy⟩:∃ y,d[h]! = y:=⟨_,rfl⟩
    have cx:∀ q u,(ckL x)[q]? = some u->wr.cell? ⟨g,t * 9+q,none⟩=some u:=fun q u hu=>hrk.c t htn q (by rw [hx];exact hu)
    have cy:∀ q u,(ckL y)[q]? = some u->wr.cell? ⟨g,h * 9+q,none⟩=some u:=fun q u hu=>hrk.c h hhn q (by rw [hy];exact hu)
    have hgr:=hrk.lt
    obtain ⟨R,hRR⟩:∃ R,cmpC x y=R:=⟨_,rfl⟩
    have hL1:ltC d[nn - (h+1)]! d[h+1 - 1]! = decide (R<0):=by
     rw [show nn - (h+1)=t by omega,Nat.add_sub_cancel,hx,hy,<-hRR];rfl
    have hL2:ltC d[nn - 1 - h]! d[h]! = decide (R<0):=by
     rw [show nn - 1 - h=t by omega,hx,hy,<-hRR];rfl
    have CMR:=Lib.hid (fun W=>CM.out x y R hRR W)
    have HL1:=Lib.hid hL1
    have HL2:=Lib.hid hL2
    have CX:=Lib.hid cx
    have CY:=Lib.hid cy
    have hhz:(h:Int)<(n:Int):=by omega
    have htz:(t:Int)<(n:Int):=by omega
    have hh1:((i:Int)+(j:Int)) / 2=(h:Int):=by omega
    have hs1:(pp:Int) - (h:Int)=(t:Int):=by omega
    have hw1:IntKind.i64.wrap ((pp:Int) - (h:Int))=(t:Int):=by rw [IntWalk.i64_in _ (by omega)];omega
    have hw2:IntKind.i64.wrap (t:Int)=(t:Int):=IntWalk.i64_in _ (by omega)
    have x0:=cx 0 _ rfl
    have x1:=cx 1 _ rfl
    have x2:=cx 2 _ rfl
    have x3:=cx 3 _ rfl
    have x4:=cx 4 _ rfl
    have x5:=cx 5 _ rfl
    have x6:=cx 6 _ rfl
    have x7:=cx 7 _ rfl
    have x8:=cx 8 _ rfl
    have y0:=cy 0 _ rfl
    have y1:=cy 1 _ rfl
    have y2:=cy 2 _ rfl
    have y3:=cy 3 _ rfl
    have y4:=cy 4 _ rfl
    have y5:=cy 5 _ rfl
    have y6:=cy 6 _ rfl
    have y7:=cy 7 _ rfl
    have y8:=cy 8 _ rfl
    simp only [Nat.add_zero] at x0 y0
    clear hx hy hh hL1 hL2 hRR cx cy ht hnp
    have hcs:decide (R<0)=true\/decide (R<0)=false:=by cases decide (R<0) <;> simp
    rcases hcs with hneg | hneg
    ·have hn2:R<0:=of_decide_eq_true hneg
     have HN:=Lib.hid hneg
     go_wp2_with fail
     go_region_held3 (fun w'=>w'.cell? ⟨g,t * 9,none⟩=some (.string x.n)/\w'.cell? ⟨g,t * 9+1,none⟩=some (.string x.v)/\w'.cell? ⟨g,t * 9+2,none⟩=some (.string x.d)/\w'.cell? ⟨g,t * 9+3,none⟩=some (.string x.p)/\w'.cell? ⟨g,t * 9+4,none⟩=some (.bool x.ho)/\w'.cell? ⟨g,t * 9+5,none⟩=some (.bool x.se)/\w'.cell? ⟨g,t * 9+6,none⟩=some (.bool x.hi)/\w'.cell? ⟨g,t * 9+7,none⟩=some (.int .i64 x.ex)/\w'.cell? ⟨g,t * 9+8,none⟩=some (.int .i64 x.cr)/\w'.cell? ⟨g,h * 9,none⟩=some (.string y.n)/\w'.cell? ⟨g,h * 9+1,none⟩=some (.string y.v)/\w'.cell? ⟨g,h * 9+2,none⟩=some (.string y.d)/\w'.cell? ⟨g,h * 9+3,none⟩=some (.string y.p)/\w'.cell? ⟨g,h * 9+4,none⟩=some (.bool y.ho)/\w'.cell? ⟨g,h * 9+5,none⟩=some (.bool y.se)/\w'.cell? ⟨g,h * 9+6,none⟩=some (.bool y.hi)/\w'.cell? ⟨g,h * 9+7,none⟩=some (.int .i64 y.ex)/\w'.cell? ⟨g,h * 9+8,none⟩=some (.int .i64 y.cr)/\Below wr.heap.size wr w') (first | exact s18_mk hgr CX.out CY.out (Below.refl _ wr).drew | exact s18_mk hgr CX.out CY.out ((Below.refl _ wr).drew.trans hb1) | go_keep)
      (first | (go_at_call 87;with_reducible refine (CMR.out _).mono ?_;rintro e w1 ⟨rfl,hb1⟩))
     have hB1:=(Below.refl _ wr).drew.trans hb1
     clear hw1 hw2
     go_wp2_with fail
     go_roundw
     case rel=>exact ⟨i,h,rfl,by first | rfl | go_num,hmi,hih,hhb,⟨hrk.next hB1,hbk.below hB1 hbk.size⟩,HI.out,.inr (by rw [HL2.out];exact HN.out)⟩
     case measure=>simp [intOf];omega
    ·have hn2:¬ R<0:=of_decide_eq_false hneg
     have HN:=Lib.hid hneg
     go_wp2_with fail
     go_region_held3 (fun w'=>w'.cell? ⟨g,t * 9,none⟩=some (.string x.n)/\w'.cell? ⟨g,t * 9+1,none⟩=some (.string x.v)/\w'.cell? ⟨g,t * 9+2,none⟩=some (.string x.d)/\w'.cell? ⟨g,t * 9+3,none⟩=some (.string x.p)/\w'.cell? ⟨g,t * 9+4,none⟩=some (.bool x.ho)/\w'.cell? ⟨g,t * 9+5,none⟩=some (.bool x.se)/\w'.cell? ⟨g,t * 9+6,none⟩=some (.bool x.hi)/\w'.cell? ⟨g,t * 9+7,none⟩=some (.int .i64 x.ex)/\w'.cell? ⟨g,t * 9+8,none⟩=some (.int .i64 x.cr)/\w'.cell? ⟨g,h * 9,none⟩=some (.string y.n)/\w'.cell? ⟨g,h * 9+1,none⟩=some (.string y.v)/\w'.cell? ⟨g,h * 9+2,none⟩=some (.string y.d)/\w'.cell? ⟨g,h * 9+3,none⟩=some (.string y.p)/\w'.cell? ⟨g,h * 9+4,none⟩=some (.bool y.ho)/\w'.cell? ⟨g,h * 9+5,none⟩=some (.bool y.se)/\w'.cell? ⟨g,h * 9+6,none⟩=some (.bool y.hi)/\w'.cell? ⟨g,h * 9+7,none⟩=some (.int .i64 y.ex)/\w'.cell? ⟨g,h * 9+8,none⟩=some (.int .i64 y.cr)/\Below wr.heap.size wr w') (first | exact s18_mk hgr CX.out CY.out (Below.refl _ wr).drew | exact s18_mk hgr CX.out CY.out ((Below.refl _ wr).drew.trans hb1) | go_keep)
      (first | (go_at_call 87;with_reducible refine (CMR.out _).mono ?_;rintro e w1 ⟨rfl,hb1⟩))
     have hB1:=(Below.refl _ wr).drew.trans hb1
     clear hw1 hw2
     go_wp2_with fail
     go_roundw
     case rel=>exact ⟨h+1,j,by go_num,rfl,hmh,by omega,hjb,⟨hrk.next hB1,hbk.below hB1 hbk.size⟩,.inr (by rw [HL1.out];exact HN.out),HJ.out⟩
     case measure=>simp [intOf];omega
   ·have hd:decide ((i:Int)<(j:Int))=false:=decide_eq_false (by omega)
    obtain rfl:i=j:=by omega
    obtain ⟨en,hen⟩:∃ en,nn - i=en:=⟨_,rfl⟩
    have hen1:=HEN.out i hmi hjb
    have hen2:(nn:Int) - (i:Int)=(en:Int):=by omega
    obtain ⟨k1,k2,k3,k4,d1,d2,C0,E0,C1,E1,C2,E2⟩:=HST.out i en hmi hjb hen.symm HI.out HJ.out
    have s0:Stg W B g n cap d wr:=⟨hrk,hbk⟩
    have HC0:=Lib.hid C0
    have HE0:=Lib.hid E0
    have HC1:=Lib.hid C1
    have HE1:=Lib.hid E1
    have HC2:=Lib.hid C2
    have HE2:=Lib.hid E2
    clear C0 E0 C1 E1 C2 E2 hen HI HJ
    have z1:=three_way i m en
    obtain ⟨bA,hbA⟩:∃ bA,decide (i<m/\m<en)=bA:=⟨_,rfl⟩
    have HbA:=Lib.hid hbA
    clear hbA
    go_upto_region 39 with fail
    go_cut [185] from 178 to 184 (fun c wx=>Value.bool bA=c/\wr=wx)
    case first=>
     rcases z1 with ⟨n1,i1,i2⟩ | ⟨n1,i1⟩ | ⟨n1,i1,i2⟩
     all_goals
      go_wp2_with fail
      go_meet
      case rel=>exact ⟨congrArg Value.bool (HbA.out.symm.trans (by first | exact decide_eq_true n1.out | exact decide_eq_false n1.out)),rfl⟩
    case rest=>
     obtain ⟨rfl,rfl⟩:=hcut
     clear z1
     go_upto_if 185 with fail
     go_cut [] from 185 to 191 (fun wx=>Stg W B g n cap d1 wx)
     case first=>
      cases bA
      ·go_wp2_with fail
       go_meet
       case rel=>exact HE0.out (of_decide_eq_false HbA.out) _ s0
      ·go_wp2_with (go_at_call 247;with_reducible refine (HC0.out (of_decide_eq_true HbA.out) _ s0).mono ?_;rintro e w1 ⟨rfl,s9⟩)
       go_meet
       case rel=>exact s9
     case rest=>
      have s1:=hcut
      clear hcut
      have z2:=three_way a i mid
      obtain ⟨bB,hbB⟩:∃ bB,decide (a<i/\i<mid)=bB:=⟨_,rfl⟩
      have HbB:=Lib.hid hbB
      clear hbB
      go_upto_region 41 with fail
      go_cut [199] from 192 to 198 (fun c wx=>Value.bool bB=c/\wc=wx)
      case first=>
       rcases z2 with ⟨n1,i1,i2⟩ | ⟨n1,i1⟩ | ⟨n1,i1,i2⟩
       all_goals
        go_wp2_with fail
        go_meet
        case rel=>exact ⟨congrArg Value.bool (HbB.out.symm.trans (by first | exact decide_eq_true n1.out | exact decide_eq_false n1.out)),rfl⟩
      case rest=>
       obtain ⟨rfl,rfl⟩:=hcut
       clear z2
       go_upto_if 199 with fail
       go_cut [] from 199 to 205 (fun wx=>Stg W B g n cap d2 wx)
       case first=>
        cases bB
        ·go_wp2_with fail
         go_meet
         case rel=>exact HE1.out (of_decide_eq_false HbB.out) _ s1
        ·go_wp2_with (go_at_call 202;with_reducible refine (HC1.out (of_decide_eq_true HbB.out) _ s1).mono ?_;rintro e w1 ⟨rfl,s9⟩)
         go_meet
         case rel=>exact s9
       case rest=>
        have s2:=hcut
        clear hcut
        have z3:=three_way mid en b
        obtain ⟨bC,hbC⟩:∃ bC,decide (mid<en/\en<b)=bC:=⟨_,rfl⟩
        have HbC:=Lib.hid hbC
        clear hbC
        go_upto_region 43 with fail
        go_cut [213] from 206 to 212 (fun c wx=>Value.bool bC=c/\wc=wx)
        case first=>
         rcases z3 with ⟨n1,i1,i2⟩ | ⟨n1,i1⟩ | ⟨n1,i1,i2⟩
         all_goals
          go_wp2_with fail
          go_meet
          case rel=>exact ⟨congrArg Value.bool (HbC.out.symm.trans (by first | exact decide_eq_true n1.out | exact decide_eq_false n1.out)),rfl⟩
        case rest=>
         obtain ⟨rfl,rfl⟩:=hcut
         clear z3
         cases bC
         ·go_wp2_with fail
          have s3:=HE2.out (of_decide_eq_false HbC.out) _ s2
          first
           | exact bodyPost_ret (results_none (by rfl) _ _ _) rfl ⟨rfl,s3.1,s3.2⟩
           | (go_end0;exact ⟨rfl,s3.1,s3.2⟩)
         ·go_wp2_with (go_at_call 202;with_reducible refine (HC2.out (of_decide_eq_true HbC.out) _ s2).mono ?_;rintro e w1 ⟨rfl,s3⟩)
          first
           | exact bodyPost_ret (results_none (by rfl) _ _ _) rfl ⟨rfl,s3.1,s3.2⟩
           | (go_end0;exact ⟨rfl,s3.1,s3.2⟩)
theorem sym_any:∀ (N:Nat)(B g n cap:Nat) ,n<=1000->SymIH B g n cap N:=by
 intro N
 induction N with
 | zero=>intro B g n cap hn a m b X u v Y W _ _ _ _ _ _ h;omega
 | succ N ih=>
   intro B g n cap hn a m b X u v Y W h ha hm hb h1 h2 hlt hu hv
   rcases Nat.lt_or_ge u.length 2 with q1 | q1
   ·obtain ⟨x0,rfl⟩:=List.length_eq_one_iff.1 (show u.length=1 by omega)
    exact sym_one B g n cap a m b X x0 v Y W h ha (by simp at hm;omega) hb hv hn
   rcases Nat.lt_or_ge v.length 2 with q2 | q2
   ·obtain ⟨y0,rfl⟩:=List.length_eq_one_iff.1 (show v.length=1 by omega)
    exact sym_two B g n cap a m b X u y0 Y W h ha hm (by simp at hb;omega) hu q1 hn
   exact sym_gen B g n cap a m b X u v Y W h ha hm hb q1 q2 hu hv hn (fun a' m' b' X' u' v' Y' W' g1 g2 g3 g4 g5 g6 g7 g8 g9=>ih B g n cap hn a' m' b' X' u' v' Y' W' g1 g2 g3 g4 g5 g6 (by omega) g8 g9)
theorem insS_one (l:List Ck)(h:l.length<=1):insS ltC l=l:=by
 match l,h with
 | [],_=>rfl
 | [x],_=>rfl
theorem stable_any (B g n cap:Nat)(l:List Ck)(W:World)(h:RowC W B g n cap l.toArray)(hn:n<=1000):
 Calls Tryz.prog 136 #[.slice (some ⟨g,0,none⟩) n cap,.int .i64 n,.func (.func 87) #[] #[]] W fun e W'=>e = .returned (.tuple #[])/\RowC W' B g n cap (insS ltC l).toArray/\BelowBut W.heap.size g W W':=by
 have hnl:n=l.length:=by have:=h.size;simp at this;omega
 have CI:=Lib.hid (fun (a b:Nat) (d:Array Ck) (W:World) (h:RowC W B g n cap d) (hab:a<=b) (hb:b<=n)=>ins_any B g n cap a b d W h hab hb hn)
 have CS:=Lib.hid (fun (a m b:Nat) (X u v Y:List Ck) (W:World) (h:RowC W B g n cap (X ++ u ++ v ++ Y).toArray) (ha:a=X.length) (hm:m=a+u.length) (hb:b=m+v.length) (h1:a<m) (h2:m<b) (hu:Srt ltC u) (hv:Srt ltC v)=>sym_any (b - a+1) B g n cap hn a m b X u v Y W h ha hm hb h1 h2 (by omega) hu hv)
 have HP0:=Lib.hid (P1.start ltC l)
 have HNL:=Lib.hid hnl
 have HR0:=Lib.hid h
 clear h hnl
 go_enter Tryz.func136,Tryz.ntmps136
 go_wp2_with fail
 go_loopw [7,8] (fun va vb wr=>∃ (a b:Nat) (d:Array Ck),va = .int .i64 a/\vb = .int .i64 b/\Hid (b=a+20)/\a<=n/\b<=2000/\Hid (P1 ltC l a d)/\RowC wr B g n cap d/\BelowBut W.heap.size g W wr) (fun _ vb _=>n+21 - (intOf vb).toNat)
 case atStart=>exact ⟨0,20,l.toArray,rfl,rfl,Lib.hid rfl,Nat.zero_le _,by omega,HP0,HR0.out,BelowBut.refl _ _ _⟩
 case round=>
  obtain ⟨a,b,d,rfl,rfl,hab,han,hb2,hP,hrk,hbk⟩:=hrel
  by_cases hlt:b<=n
  ·have hlz:(b:Int)<=(n:Int):=by omega
   have hPp:=hP.out.parts ltC (by have:=hab.out;have:=HNL.out;omega)
   obtain ⟨X,L,Y,hd,ha,hL,hne,hN⟩:=hPp
   have CR:=CI.out a b d wr hrk (by have:=hab.out;omega) hlt
   rw [hd,insertion_is ltC X L Y a b ha (by have:=hab.out;omega) hne] at CR
   obtain ⟨d2,hd2⟩:∃ d2,(X ++ insS ltC L ++ Y).toArray=d2:=⟨_,rfl⟩
   rw [hd2] at CR hN
   obtain ⟨b',hb'⟩:∃ b',b+20=b':=⟨_,rfl⟩
   have hN2:P1 ltC l b d2:=by have e:b=a+20:=hab.out;rw [e];exact hN
   have HN:=Lib.hid hN2
   have HCR:=Lib.hid CR
   have HB:=Lib.hid (show b'=b+20 by omega)
   have hbz:(b:Int)+20=(b':Int):=by omega
   have hb2':b'<=2000:=by omega
   clear CR hN hN2 hd hd2 ha hL hne hb'
   go_wp2_with (go_at_call 201;with_reducible refine HCR.out.mono ?_;rintro e w2 ⟨rfl,hr2,hbb2⟩)
   go_roundw
   case rel=>exact ⟨b,b',d2,rfl,by first | rfl | (congr 1;omega),HB,hlt,hb2',HN,hr2,hbk.stepb hbb2 hbk.size⟩
   case measure=>have:=HB.out;simp [intOf];omega
  ·have hd:decide ((b:Int)<=(n:Int))=false:=decide_eq_false (by omega)
   have CR:=CI.out a n d wr hrk han lr
   have hE:insertionSort ltC d a n=(cs ltC 20 l).toArray:=by
    have h1:=hab.out
    have h2:=HNL.out
    rcases Nat.lt_or_ge a n with h3 | h3
    ·obtain ⟨X,L,Y,hd,ha,hL,hne,hN⟩:=hP.out.last ltC (by omega) (by omega)
     rw [hd,insertion_is ltC X L Y a n ha (by omega) hne,hN]
    ·rw [insertion_none ltC d a n (by omega)]
     exact hP.out.done ltC (by omega)
   rw [hE] at CR
   have HCR:=Lib.hid CR
   clear CR hE
   go_wp2_with (go_at_call 201;with_reducible refine HCR.out.mono ?_;rintro e w2 ⟨rfl,hr2,hbb2⟩)
   have hbk2:=hbk.stepb hbb2 hbk.size
   clear hbb2 hrk hbk hP hab hd
   go_loopw [6] (fun vs w3=>∃ bs:Nat,vs = .int .i64 bs/\0<bs/\bs<=2000/\RowC w3 B g n cap (cs ltC bs l).toArray/\BelowBut W.heap.size g W w3) (fun vs _=>n - (intOf vs).toNat)
   case atStart=>exact ⟨20,rfl,by omega,by omega,hr2,hbk2⟩
   case round=>
    obtain ⟨bs,rfl,hbs0,hbs,hr3,hbk3⟩:=hrel
    by_cases hlt2:bs<n
    ·have hlz2:(bs:Int)<(n:Int):=by omega
     obtain ⟨c0,hc0⟩:∃ c0,2 * bs=c0:=⟨_,rfl⟩
     have hc1:(2:Int) * (bs:Int)=(c0:Int):=by omega
     have hc2:(bs:Int) * 2=(c0:Int):=by omega
     have hc00:bs<c0:=by omega
     have hc04:c0<=2000:=by omega
     have HC0:=Lib.hid hc0
     have hPs:=P2.start ltC (l:=l) hbs0
     have HPS:=Lib.hid hPs
     clear hc0 hPs
     go_wp2_with fail
     go_loopw [7,8] (fun va vc wz=>∃ (a c:Nat) (d:Array Ck),va = .int .i64 a/\vc = .int .i64 c/\Hid (c=a+c0)/\a<=n/\c<=4000/\Hid (P2 ltC bs l a d)/\RowC wz B g n cap d/\BelowBut W.heap.size g W wz) (fun _ vc _=>n+c0+1 - (intOf vc).toNat)
     case atStart=>exact ⟨0,c0,_,rfl,rfl,Lib.hid (by omega),Nat.zero_le _,by omega,HPS,hr3,hbk3⟩
     case round=>
      obtain ⟨a,c,d,rfl,rfl,hac,han,hc4,hP,hrk,hbk⟩:=hrel
      obtain ⟨e,he⟩:∃ e,a+bs=e:=⟨_,rfl⟩
      have hez:(a:Int)+(bs:Int)=(e:Int):=by omega
      by_cases hlt3:c<=n
      ·have hlz3:(c:Int)<=(n:Int):=by omega
       obtain ⟨X,u,v,Y,hd,ha,hu,hv,su,sv,hN⟩:=hP.out.parts ltC swoC (by have:=hac.out;have:=HNL.out;have:=HC0.out;omega)
       have hrk2:=hrk
       rw [hd] at hrk2
       have CR:=CS.out a e c X u v Y wr hrk2 ha (by omega) (by have:=hac.out;have:=HC0.out;omega) (by omega) (by have:=hac.out;have:=HC0.out;omega) su sv
       obtain ⟨d2,hd2⟩:∃ d2,(X ++ mg ltC u v ++ Y).toArray=d2:=⟨_,rfl⟩
       rw [hd2] at CR hN
       have hN2 : P2 ltC bs l c d2 := by have q : c = a + 2 * bs := by (have := hac.out; have := HC0.out; omega)
                                         rw [q];exact hN
       obtain ⟨c',hc'⟩:∃ c',c+c0=c':=⟨_,rfl⟩
       have hcz:(c:Int)+(c0:Int)=(c':Int):=by omega
       have HN:=Lib.hid hN2
       have HCR:=Lib.hid CR
       have HC:=Lib.hid (show c'=c+c0 by omega)
       have hc4':c'<=4000:=by omega
       have he2:e<=4000:=by omega
       clear CR hN hN2 hd hd2 ha hu hv hc' he hrk2
       go_wp2_with (go_at_call 202;with_reducible refine HCR.out.mono ?_;rintro x w5 ⟨rfl,hr5,hb5⟩)
       go_roundw
       case rel=>exact ⟨c,c',d2,rfl,by first | rfl | (congr 1;omega),HC,hlt3,hc4',HN,hr5,hbk.stepb hb5 hbk.size⟩
       case measure=>have:=HC.out;simp [intOf];omega
      ·have hd3:decide ((c:Int)<=(n:Int))=false:=decide_eq_false (by omega)
       by_cases hlt4:e<n
       ·have hlz4:(e:Int)<(n:Int):=by omega
        obtain ⟨X,u,v,Y,hd,ha,hu,hv,su,sv,hN⟩:=hP.out.last ltC swoC (by have:=hac.out;have:=HNL.out;have:=HC0.out;omega) (by have:=HNL.out;omega)
        have hrk2:=hrk
        rw [hd] at hrk2
        have CR:=CS.out a e n X u v Y wr hrk2 ha (by omega) (by have:=HNL.out;omega) (by omega) (by omega) su sv
        rw [hN,HC0.out] at CR
        have HCR:=Lib.hid CR
        have he2:e<=4000:=by omega
        clear CR hN hd ha hu hv he hrk2
        go_wp2_with (go_at_call 202;with_reducible refine HCR.out.mono ?_;rintro x w5 ⟨rfl,hr5,hb5⟩)
        go_roundw
        case rel=>exact ⟨c0,by first | rfl | (congr 1;omega),by omega,hc04,hr5,hbk.stepb hb5 hbk.size⟩
        case measure=>simp [intOf];omega
       ·have hd4:decide ((e:Int)<(n:Int))=false:=decide_eq_false (by omega)
        have hN:=hP.out.done ltC (by have:=HNL.out;omega)
        rw [HC0.out] at hN
        have hr5:RowC wr B g n cap (cs ltC c0 l).toArray:=by rw [<-hN];exact hrk
        have he2:e<=4000:=by omega
        clear hN he hrk
        go_wp2_with fail
        go_roundw
        case rel=>exact ⟨c0,by first | rfl | (congr 1;omega),by omega,hc04,hr5,hbk⟩
        case measure=>simp [intOf];omega
    ·have hd2:decide ((bs:Int)<(n:Int))=false:=decide_eq_false (by omega)
     have hcs:cs ltC bs l=insS ltC l:=cs_short ltC bs l hbs0 (by have:=HNL.out;omega)
     rw [hcs] at hr3
     clear hcs
     go_wp2_with fail
     go_end0
     exact ⟨rfl,hr3,hbk3⟩
theorem sort_long (hits:List Ck)(hl:hits.length<=1000):SortTo hits (insS ltC hits):=by
 rcases Nat.lt_or_ge hits.length 2 with h1 | h1
 ·rw [insS_one hits (by omega)];exact sort_short hits (by omega)
 intro W B v hown hB
 obtain ⟨a,cap,rfl,hc,hm,ha⟩:=own_reads hown
 rcases ha with ⟨rfl,h2⟩ | ⟨g,rfl,hg,_,_⟩
 ·omega
 have hR:RowC W B g hits.length cap hits.toArray:=⟨by simp,hown⟩
 have CII:=Lib.hid (stable_any B g hits.length cap hits W hR hl)
 have hlen:(insS ltC hits).length=hits.length:=insS_length ltC hits
 have HL:=Lib.hid hlen
 have hlb:hits.length<=1000:=hl
 clear hown hR hlen
 go_enter Tryz.func86,Tryz.ntmps86
 go_wp2_with (go_at_call 136;with_reducible refine CII.out.mono ?_;rintro x w1 ⟨rfl,hr1,hb1⟩)
 go_end0
 have h9:=hr1.2
 exact ⟨rfl,by rw [HL.out];exact h9,hb1.to_below (Below.refl _ W) hB hg⟩
end Go.Proofs.YtjdhaacmlpegoaaGreatDoor
