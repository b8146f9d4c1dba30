/- Part 4 of what the proof needs: UN UQ UR. -/
import Derived.Test.YtjdhaacmlpegoaaGreatDoorP02
import Derived.Test.YtjdhaacmlpegoaaGreatDoorP03
import Derived.OwnWalk
import Derived.Test.YtjdhaacmlpegoaaGreatDoorP01
set_option maxRecDepth 20000
set_option maxHeartbeats 16000000
namespace Go.Proofs.YtjdhaacmlpegoaaGreatDoor
open Go.RowKit
set_option linter.unusedSimpArgs false
set_option linter.unusedVariables false
abbrev U6:=List UInt8 × List UInt8 × List UInt8 × List UInt8 × List UInt8 × List UInt8
abbrev httpL:List UInt8:=[104,116,116,112]
abbrev httpsL:List UInt8:=[104,116,116,112,115]
abbrev aboutL:List UInt8:=[97,98,111,117,116]
def schemeOk (l:List UInt8):Bool:=l.contains 58 && (match l with | []=>false | b :: _=>letterB b) && (pre 58 l).all (okC [43,45,46])
def zerosOff (l:List UInt8):List UInt8:=l.dropWhile (· == 48)
def numF (n:Nat)(b:UInt8):Nat:=n * 10+(b.toNat - 48)
def numL (l:List UInt8):Nat:=l.foldl numF 0
def portOk (d:List UInt8):Prop:=d.all digitB=true/\d.length<=5/\numL d<=65535
def portOf (sch d:List UInt8):List UInt8:=if (sch=httpL/\numL d=80)\/(sch=httpsL/\numL d=443) then [] else zerosOff d
instance (d:List UInt8):Decidable (portOk d):=by unfold portOk;infer_instance
def siteL (n fr before:List UInt8):Option U6:=
 if (n=httpL\/n=httpsL)/\before.take 2=[47,47] then
  let path:=pre 63 (before.drop 2)
  let plc:=pre 47 path
  let host:=pre 58 plc
  if portOk (post 58 plc)/\1<=host.length/\host.length<=253/\host.all (okC [45,46])=true then
   some (n,lowL host,portOf n (post 58 plc),cleanL (conv innerL true (path.drop plc.length)),conv (innerL ++ [63]) true (post 63 (before.drop 2)),fr)
  else none
 else none
def restL (n rest:List UInt8):Option U6:=
 let fr:=conv (innerL ++ [63]) true (post 35 rest)
 if n=aboutL then (if (pre 35 rest).all (okC [45])=true then some (n,[],[],pre 35 rest,[],fr) else none) else siteL n fr (pre 35 rest)
def parseL (s:List UInt8):Option U6:=
 if schemeOk (trimL s)=true then restL (lowL (pre 58 (trimL s))) (post 58 (trimL s)) else none
theorem numF_le (n:Nat)(b:UInt8)(h:digitB b=true):numF n b<=n * 10+9/\n * 10<=numF n b:=by
 simp only [digitB,digitI,decide_eq_true_eq] at h
 unfold numF;omega
theorem foldl_bd:∀ (l:List UInt8)(n:Nat) ,l.all digitB=true->n * 10 ^ l.length<=l.foldl numF n/\l.foldl numF n+1<=(n+1) * 10 ^ l.length:=by
 intro l
 induction l with
 | nil=>intro n _;simp
 | cons b l ih=>
   intro n h
   simp only [List.all_cons,Bool.and_eq_true] at h
   have h1:=numF_le n b h.1
   have h2:=ih (numF n b) h.2
   simp only [List.foldl_cons,List.length_cons,Nat.pow_succ']
   constructor
   ·calc n * (10 * 10 ^ l.length)=(n * 10) * 10 ^ l.length:=by rw [Nat.mul_assoc]
     _<=numF n b * 10 ^ l.length:=Nat.mul_le_mul_right _ h1.2
     _<=_:=h2.1
   ·calc _<=(numF n b+1) * 10 ^ l.length:=h2.2
     _<=((n+1) * 10) * 10 ^ l.length:=Nat.mul_le_mul_right _ (by omega)
     _=_:=by rw [Nat.mul_assoc]
theorem numL_zeros:∀ l:List UInt8,numL (zerosOff l)=numL l:=by
 intro l
 unfold numL zerosOff
 induction l with
 | nil=>rfl
 | cons b l ih=>
   rw [List.dropWhile_cons]
   split
   ·next h=>
    rw [ih]
    have:b=48:=by simpa using h
    subst this
    rfl
   ·rfl
theorem zeros_all (l:List UInt8)(h:l.all digitB=true):(zerosOff l).all digitB=true:=by
 rw [List.all_eq_true] at h ⊢
 exact fun x hx=>h x ((List.dropWhile_sublist _).subset hx)
theorem zeros_head (l:List UInt8):∀ b r,zerosOff l=b :: r->b≠48:=by
 intro b r h e
 subst e
 unfold zerosOff at h
 have:=List.head?_dropWhile_not (p:=(· == (48:UInt8))) (l:=l)
 rw [h] at this
 simp at this
theorem lowB_ok (more:List UInt8)(b:UInt8)(hm:∀ x∈more,letterB x=false/\lowB x=x):okC more (lowB b)=okC more b:=by
 unfold lowB
 split
 ·next h=>
  have:(b+32).toNat=b.toNat+32:=by rw [UInt8.toNat_add];have:=b.toNat_lt;simp;omega
  have l1:letterB (b+32)=true:=by simp [letterB,letterI,this];omega
  have l2:letterB b=true:=by simp [letterB,letterI];omega
  simp [okC,l1,l2]
 ·rfl
theorem lowL_ok (more l:List UInt8)(hm:∀ x∈more,letterB x=false/\lowB x=x):(lowL l).all (okC more)=l.all (okC more):=by
 unfold lowL
 rw [List.all_map]
 congr 1
 exact funext fun b=>lowB_ok more b hm
theorem lowL_len (l:List UInt8):(lowL l).length=l.length:=by simp [lowL]
theorem cut_any (s:ByteArray)(c:UInt8)(w:World)(hs:s.size<=1000000)(hM:MaxAt w):
 Calls Tryz.prog 60 #[.string s,.string ⟨#[c]⟩] w fun e w'=>∃ a b:ByteArray,e = .returned (.tuple #[.string a,.string b,.bool (s.data.toList.contains c)])/\a.data.toList=pre c s.data.toList/\b.data.toList=post c s.data.toList/\Below w.heap.size w w':=by
 obtain ⟨m,hm⟩:=hM
 refine (Tryz.strings_Cut s ⟨#[c]⟩ m w (by omega) hm).mono ?_
 rintro e w' ⟨rfl,n,rfl⟩
 have h:=cut_eq c s.data.toList
 exact ⟨_,_,by rw [show (⟨#[c]⟩:ByteArray).data.toList=[c] from rfl,h],rfl,rfl,below_drewN (Below.refl _ w) n⟩
theorem takeW_head (p:UInt8->Bool)(l:List UInt8)(b:UInt8)(r:List UInt8)(h:l.takeWhile p=b :: r):∃ r',l=b :: r':=by
 cases l with
 | nil=>simp at h
 | cons x l=>
   rw [List.takeWhile_cons] at h
   split at h
   ·cases h;exact ⟨l,rfl⟩
   ·cases h
theorem schemeOk_pre (l:List UInt8):schemeOk l=(l.contains 58 && (match pre 58 l with | []=>false | b :: _=>letterB b) && (pre 58 l).all (okC [43,45,46])):=by
 unfold schemeOk
 congr 2
 cases h:pre 58 l with
 | nil=>
   cases l with
   | nil=>rfl
   | cons b l=>
     unfold pre at h
     rw [List.takeWhile_cons] at h
     split at h
     ·cases h
     ·next hb=>
      have:b=58:=by simpa using hb
      subst this;rfl
 | cons b r=>
   obtain ⟨r',rfl⟩:=takeW_head _ _ _ _ h
   rfl
theorem pre_le (c:UInt8)(l:List UInt8):(pre c l).length<=l.length:=(List.takeWhile_sublist _).length_le
theorem post_le (c:UInt8)(l:List UInt8):(post c l).length<=l.length:=by
 unfold post
 rw [List.length_drop]
 have:=(List.dropWhile_sublist (· != c) (l:=l)).length_le
 omega
theorem size_of {s:ByteArray}{l:List UInt8}(h:s.data.toList=l):s.size=l.length:=by rw [<-h,size_len]
theorem first_at (a:ByteArray)(h:0<a.size):∃ r,a.data.toList=a[0] :: r:=⟨_,by rw [<-drop_at a 0 h];simp⟩
theorem scheme_case (l:List UInt8)(a:ByteArray)(ha:a.data.toList=pre 58 l):
 (l.contains 58=false/\schemeOk l=false)\/(l.contains 58=true/\((a.size=0/\a.toList.isEmpty=true/\schemeOk l=false)\/(∃ h:0<a.size,a.toList.isEmpty=false/\((letterI (a[0].toNat:Int)=false/\schemeOk l=false)\/(letterI (a[0].toNat:Int)=true/\a.data.toList.all (okC [43,45,46])=schemeOk l))))):=by
 rw [schemeOk_pre,<-ha]
 cases l.contains 58 with
 | false=>exact .inl ⟨rfl,rfl⟩
 | true=>
   refine .inr ⟨rfl,?_⟩
   rcases Nat.eq_zero_or_pos a.size with h0 | h0
   ·have:a.data.toList=[]:=List.eq_nil_of_length_eq_zero (by rw [size_len];exact h0)
    exact .inl ⟨h0,(empty_iff a).2 this,by rw [this];rfl⟩
   ·obtain ⟨r,hr⟩:=first_at a h0
    refine .inr ⟨h0,nonempty_of a h0,?_⟩
    rw [hr]
    have e:letterB a[0]=letterI (a[0].toNat:Int):=rfl
    simp only [e]
    cases letterI (a[0].toNat:Int) with
    | false=>exact .inl ⟨rfl,rfl⟩
    | true=>exact .inr ⟨rfl,by simp⟩
theorem scheme_any (s:ByteArray)(w:World)(hs:s.size<=1000000)(hM:MaxAt w):
 Calls Tryz.prog 58 #[.string s] w fun e w'=>∃ a b:ByteArray,e = .returned (.tuple #[.string a,.string b,.bool (schemeOk s.data.toList)])/\(schemeOk s.data.toList=true->a.data.toList=lowL (pre 58 s.data.toList)/\b.data.toList=post 58 s.data.toList)/\Below w.heap.size w w':=by
 obtain ⟨OK,hOK⟩:∃ OK,schemeOk s.data.toList=OK:=⟨_,rfl⟩
 obtain ⟨A,hA⟩:∃ A,pre 58 s.data.toList=A:=⟨_,rfl⟩
 obtain ⟨B,hB⟩:∃ B,post 58 s.data.toList=B:=⟨_,rfl⟩
 have cC:=cut_any s 58 w hs hM
 have hal:=pre_le 58 s.data.toList
 have hsc:=scheme_case s.data.toList
 rw [hA,hB] at cC
 rw [hA] at hal hsc
 rw [hOK] at hsc
 rw [hOK,hA,hB]
 obtain ⟨N,hN⟩:∃ N,s.data.toList.contains 58=N:=⟨_,rfl⟩
 rw [hN] at cC hsc
 have hAl:A.length<=1000000:=by rw [size_len] at hal;omega
 have CC:=Lib.hid cC
 have SC:=Lib.hid hsc
 clear cC hsc hN hal hOK hA hB
 go_enter Tryz.func58,Tryz.ntmps58
 go_wp2_with (first
  | (go_at_call 60;with_reducible refine CC.out.mono ?_;rintro e w1 ⟨a,b,rfl,ha,hb,hbw⟩;have has:=size_of ha;have HA:=Lib.hid ha;have HB:=Lib.hid hb;rcases SC.out a ha with ⟨rfl,rfl⟩ | ⟨rfl,⟨h0,hem,rfl⟩ | ⟨h0,hem,⟨hlt,rfl⟩ | ⟨hlt,hok⟩⟩⟩ <;> (try have HOK:=Lib.hid hok) <;> clear ha hb <;> (try clear hok))
  | (go_at_call 106;refine (letter_any _ _).mono ?_;rintro e w' ⟨rfl,rfl⟩)
  | (go_at_call 62;refine (only_any _ _ _ (by omega)).mono ?_;rintro e w' ⟨rfl,rfl⟩;rcases Bool.eq_false_or_eq_true OK with rfl | rfl <;> simp only [HOK.out])
  | (go_at_call 66;refine (lower_any _ _ (by omega)).mono ?_;rintro e w2 ⟨t,rfl,ht,hb2⟩;have HT:=Lib.hid ht;clear ht))
 all_goals first
  | (go_ret3;exact ⟨_,_,rfl,fun h=>(nomatch h),hbw⟩)
  | (go_ret3;exact ⟨⟨_,_,rfl⟩,hbw⟩)
  | (go_ret3;exact ⟨_,_,rfl,⟨by rw [HT.out,HA.out],HB.out⟩,hbw.trans (hb2.mono hbw.size)⟩)
  | (go_ret3;exact ⟨_,_,rfl,fun _=>⟨by rw [HT.out,HA.out],HB.out⟩,hbw.trans (hb2.mono hbw.size)⟩)
theorem numL_snoc (l:List UInt8)(b:UInt8):numL (l ++ [b])=numL l * 10+(b.toNat - 48):=by simp [numL,numF]
theorem take_snoc (s:ByteArray)(k:Nat)(h:k<s.size):s.data.toList.take (k+1)=s.data.toList.take k ++ [s[k]]:=by
 rw [List.take_succ_eq_append_getElem (by simpa using h)];rfl
theorem numL_bd (l:List UInt8)(h:l.all digitB=true)(h5:l.length<=5):numL l<=99999:=by
 have h1:=(foldl_bd l 0 h).2
 have h2:10 ^ l.length<=10 ^ 5:=Nat.pow_le_pow_right (by omega) h5
 unfold numL
 omega
theorem digits_take (d:List UInt8)(k:Nat)(h:d.all digitB=true):(d.take k).all digitB=true:=by
 rw [List.all_eq_true] at h ⊢
 exact fun x hx=>h x (List.mem_of_mem_take hx)
theorem mem_at (s:ByteArray)(k:Nat)(h:k<s.size):s[k]∈s.data.toList:=List.drop_subset k _ (by rw [drop_at s k h];exact List.mem_cons_self)
theorem str_beq (s:ByteArray)(l:List UInt8):(s.toList == l)=decide (s.data.toList=l):=by
 rw [ByteArray.toList_eq]
 by_cases h:s.data.toList=l
 ·rw [h];simp
 ·rw [decide_eq_false h,beq_eq_false_iff_ne];exact h
theorem portA (sch s:ByteArray)(w:World)(hs:s.size<=1000000)(hX:(sch.toList == [104,116,116,112])=true)(hY:(sch.toList == [104,116,116,112,115])=false)(R:List UInt8)(hR:portOf sch.data.toList s.data.toList=R):
 Calls Tryz.prog 65 #[.string sch,.string s] w fun e w'=>∃ t:ByteArray,e = .returned (.tuple #[.string t,.bool (decide (portOk s.data.toList))])/\(portOk s.data.toList->t.data.toList=R)/\w=w':=by
 obtain ⟨OK,hOK⟩:∃ OK,decide (portOk s.data.toList)=OK:=⟨_,rfl⟩
 have hP:portOk s.data.toList ↔ OK=true:=by rw [<-hOK];simp
 rw [hOK]
 simp only [hP]
 have HOK:=Lib.hid hP
 have hx:=hX
 have hy:=hY
 rw [str_beq] at hx hy
 have hR0:R=if (true=true/\numL s.data.toList=80)\/(false=true/\numL s.data.toList=443) then [] else zerosOff s.data.toList:=by
  have e1:(sch.data.toList=httpL) ↔ (true=true):=by simp only [decide_eq_true_eq,decide_eq_false_iff_not] at hx;simp [hx]
  have e2:(sch.data.toList=httpsL) ↔ (false=true):=by simp only [decide_eq_true_eq,decide_eq_false_iff_not] at hy;simp [hy]
  rw [<-hR,portOf]
  simp only [e1,e2]
 have HR:=Lib.hid hR0
 clear hR hOK hP hx hy hR0
 go_enter Tryz.func65,Tryz.ntmps65
 go_wp2_with fail
 go_loopw [6] (fun iv wr=>∃ k:Nat,k<=s.size/\iv = .int .i64 k/\(s.data.toList.take k).all digitB=true/\wr=w) (fun iv _=>s.size - (intOf iv).toNat)
 case atStart=>exact ⟨0,Nat.zero_le _,rfl,by simp,rfl⟩
 case round=>
  obtain ⟨k,hk,rfl,hd,rfl⟩:=hrel
  by_cases hlt:k<s.size
  ·rcases Bool.eq_false_or_eq_true (digitI (s[k].toNat:Int)) with hg | hg
   ·have hd2:(s.data.toList.take (k+1)).all digitB=true:=by
     rw [take_snoc s k hlt,List.all_append,hd]
     simp only [List.all_cons,List.all_nil,Bool.and_true,Bool.true_and];exact hg
    have HD:=Lib.hid hd2
    clear hd2 hd
    go_wp2_with (go_at_call 108;refine (digit_any _ _).mono ?_;rintro e w' ⟨rfl,rfl⟩)
    go_roundw
    case rel=>exact ⟨k+1,by omega,by go_num,HD.out,trivial⟩
    case measure=>simp [intOf];omega
   ·have hno:OK=false:=by
     cases hO:OK with
     | false=>rfl
     | true=>
       have h1:=(HOK.out.2 hO).1
       rw [List.all_eq_true] at h1
       have h2:=h1 s[k] (mem_at s k hlt)
       rw [digitB,hg] at h2;cases h2
    subst hno
    clear HR hd HOK
    go_wp2_with (go_at_call 108;refine (digit_any _ _).mono ?_;rintro e w' ⟨rfl,rfl⟩)
    go_ret2
    first | exact ⟨_,rfl⟩ | exact ⟨_,rfl,trivial⟩ | exact ⟨⟨_,rfl⟩,rfl⟩ | exact ⟨_,rfl,fun h=>(nomatch h),rfl⟩
  ·have hke:k=s.size:=by omega
   subst hke
   rw [List.take_of_length_le (by simp)] at hd
   have HD:=Lib.hid hd
   clear hd hlt hk
   by_cases h5:5<s.size
   ·have hno:OK=false:=by
     cases hO:OK with
     | false=>rfl
     | true=>
       have h1:=(HOK.out.2 hO).2.1
       rw [size_len] at h1;omega
    subst hno
    clear HR HOK
    go_wp2_with fail
    go_ret2
    first | exact ⟨_,rfl⟩ | exact ⟨_,rfl,trivial⟩ | exact ⟨⟨_,rfl⟩,rfl⟩ | exact ⟨_,rfl,fun h=>(nomatch h),rfl⟩
   ·go_wp2_with fail
    obtain ⟨wo,rfl⟩:∃ wo:World,wo=wr:=⟨_,rfl⟩
    go_loopw [7,8] (fun nv iv wr=>∃ k:Nat,k<=s.size/\iv = .int .i64 k/\nv = .int .i64 (numL (s.data.toList.take k):Nat)/\wr=wo) (fun _ iv _=>s.size - (intOf iv).toNat)
    case atStart=>exact ⟨0,Nat.zero_le _,rfl,rfl,rfl⟩
    case round=>
     obtain ⟨k,hk,rfl,rfl,rfl⟩:=hrel
     have hbd:=numL_bd _ (digits_take _ k HD.out) (by rw [List.length_take,size_len];omega)
     by_cases hlt:k<s.size
     ·have hsn:=numL_snoc (s.data.toList.take k) s[k]
      rw [<-take_snoc s k hlt] at hsn
      have hg:digitB s[k]=true:=by
       have h1:=HD.out
       rw [List.all_eq_true] at h1
       exact h1 s[k] (mem_at s k hlt)
      simp only [digitB,digitI,decide_eq_true_eq] at hg
      obtain ⟨n,hn⟩:∃ n,numL (s.data.toList.take k)=n:=⟨_,rfl⟩
      rw [hn] at hsn hbd ⊢
      have HS:=Lib.hid hsn
      clear hn hsn
      go_wp2_with fail
      go_roundw
      case rel=>exact ⟨k+1,by omega,by go_num,by rw [HS.out];congr 1;omega,trivial⟩
      case measure=>simp [intOf];omega
     ·have hke:k=s.size:=by omega
      subst hke
      rw [List.take_of_length_le (by simp)] at hbd ⊢
      obtain ⟨n,hn⟩:∃ n,numL s.data.toList=n:=⟨_,rfl⟩
      have hOn:OK=true ↔ n<=65535:=by
       rw [<-HOK.out,<-hn]
       exact ⟨fun h=>h.2.2,fun h=>⟨HD.out,by rw [size_len];omega,h⟩⟩
      have hr:=HR.out
      rw [hn] at hbd hr ⊢
      clear hn hlt hk HD HOK HR
      have cT:=Lib.hid (Tryz.strings_TrimLeft_one s 48 (by decide) wr)
      have hz:(⟨(Lib.trimLeftB s.data.toList 48).toArray⟩:ByteArray).data.toList=zerosOff s.data.toList:=rfl
      obtain ⟨T,hT⟩:∃ T:ByteArray,⟨(Lib.trimLeftB s.data.toList 48).toArray⟩=T:=⟨_,rfl⟩
      rw [hT] at cT hz
      rw [<-hz] at hr
      have HR:=Lib.hid hr
      clear hz hT hr
      by_cases hn5:n<=65535
      ·obtain rfl:=hOn.2 hn5
       clear hOn
       by_cases hc:n=80
       ·subst hc
        go_wp2_with (go_at_call 114;with_reducible refine cT.out.mono ?_;rintro e w2 ⟨rfl,rfl⟩)
        go_ret2
        first | exact ⟨_,rfl,by rw [HR.out];simp⟩ | exact ⟨_,rfl,fun _=>by rw [HR.out];simp,rfl⟩ | exact ⟨_,rfl,fun h=>(nomatch h),rfl⟩
       ·have hcb:((n:Int) == 80)=false:=by rw [beq_eq_false_iff_ne];omega
        go_wp2_with (go_at_call 114;with_reducible refine cT.out.mono ?_;rintro e w2 ⟨rfl,rfl⟩)
        go_ret2
        first | exact ⟨_,rfl,by rw [HR.out];simp [hc]⟩ | exact ⟨_,rfl,fun h=>(nomatch h),rfl⟩
      ·have hno:OK=false:=by
        cases hO:OK with
        | false=>rfl
        | true=>exact absurd (hOn.1 hO) hn5
       subst hno
       clear hOn
       go_wp2_with (go_at_call 114;with_reducible refine cT.out.mono ?_;rintro e w2 ⟨rfl,rfl⟩)
       go_ret2
       first | exact ⟨_,rfl⟩ | exact ⟨_,rfl,trivial⟩ | exact ⟨⟨_,rfl⟩,rfl⟩ | exact ⟨_,rfl,fun h=>(nomatch h),rfl⟩
theorem portB (sch s:ByteArray)(w:World)(hs:s.size<=1000000)(hX:(sch.toList == [104,116,116,112])=false)(hY:(sch.toList == [104,116,116,112,115])=true)(R:List UInt8)(hR:portOf sch.data.toList s.data.toList=R):
 Calls Tryz.prog 65 #[.string sch,.string s] w fun e w'=>∃ t:ByteArray,e = .returned (.tuple #[.string t,.bool (decide (portOk s.data.toList))])/\(portOk s.data.toList->t.data.toList=R)/\w=w':=by
 obtain ⟨OK,hOK⟩:∃ OK,decide (portOk s.data.toList)=OK:=⟨_,rfl⟩
 have hP:portOk s.data.toList ↔ OK=true:=by rw [<-hOK];simp
 rw [hOK]
 simp only [hP]
 have HOK:=Lib.hid hP
 have hx:=hX
 have hy:=hY
 rw [str_beq] at hx hy
 have hR0:R=if (false=true/\numL s.data.toList=80)\/(true=true/\numL s.data.toList=443) then [] else zerosOff s.data.toList:=by
  have e1:(sch.data.toList=httpL) ↔ (false=true):=by simp only [decide_eq_true_eq,decide_eq_false_iff_not] at hx;simp [hx]
  have e2:(sch.data.toList=httpsL) ↔ (true=true):=by simp only [decide_eq_true_eq,decide_eq_false_iff_not] at hy;simp [hy]
  rw [<-hR,portOf]
  simp only [e1,e2]
 have HR:=Lib.hid hR0
 clear hR hOK hP hx hy hR0
 go_enter Tryz.func65,Tryz.ntmps65
 go_wp2_with fail
 go_loopw [6] (fun iv wr=>∃ k:Nat,k<=s.size/\iv = .int .i64 k/\(s.data.toList.take k).all digitB=true/\wr=w) (fun iv _=>s.size - (intOf iv).toNat)
 case atStart=>exact ⟨0,Nat.zero_le _,rfl,by simp,rfl⟩
 case round=>
  obtain ⟨k,hk,rfl,hd,rfl⟩:=hrel
  by_cases hlt:k<s.size
  ·rcases Bool.eq_false_or_eq_true (digitI (s[k].toNat:Int)) with hg | hg
   ·have hd2:(s.data.toList.take (k+1)).all digitB=true:=by
     rw [take_snoc s k hlt,List.all_append,hd]
     simp only [List.all_cons,List.all_nil,Bool.and_true,Bool.true_and];exact hg
    have HD:=Lib.hid hd2
    clear hd2 hd
    go_wp2_with (go_at_call 108;refine (digit_any _ _).mono ?_;rintro e w' ⟨rfl,rfl⟩)
    go_roundw
    case rel=>exact ⟨k+1,by omega,by go_num,HD.out,trivial⟩
    case measure=>simp [intOf];omega
   ·have hno:OK=false:=by
     cases hO:OK with
     | false=>rfl
     | true=>
       have h1:=(HOK.out.2 hO).1
       rw [List.all_eq_true] at h1
       have h2:=h1 s[k] (mem_at s k hlt)
       rw [digitB,hg] at h2;cases h2
    subst hno
    clear HR hd HOK
    go_wp2_with (go_at_call 108;refine (digit_any _ _).mono ?_;rintro e w' ⟨rfl,rfl⟩)
    go_ret2
    first | exact ⟨_,rfl⟩ | exact ⟨_,rfl,trivial⟩ | exact ⟨⟨_,rfl⟩,rfl⟩ | exact ⟨_,rfl,fun h=>(nomatch h),rfl⟩
  ·have hke:k=s.size:=by omega
   subst hke
   rw [List.take_of_length_le (by simp)] at hd
   have HD:=Lib.hid hd
   clear hd hlt hk
   by_cases h5:5<s.size
   ·have hno:OK=false:=by
     cases hO:OK with
     | false=>rfl
     | true=>
       have h1:=(HOK.out.2 hO).2.1
       rw [size_len] at h1;omega
    subst hno
    clear HR HOK
    go_wp2_with fail
    go_ret2
    first | exact ⟨_,rfl⟩ | exact ⟨_,rfl,trivial⟩ | exact ⟨⟨_,rfl⟩,rfl⟩ | exact ⟨_,rfl,fun h=>(nomatch h),rfl⟩
   ·go_wp2_with fail
    obtain ⟨wo,rfl⟩:∃ wo:World,wo=wr:=⟨_,rfl⟩
    go_loopw [7,8] (fun nv iv wr=>∃ k:Nat,k<=s.size/\iv = .int .i64 k/\nv = .int .i64 (numL (s.data.toList.take k):Nat)/\wr=wo) (fun _ iv _=>s.size - (intOf iv).toNat)
    case atStart=>exact ⟨0,Nat.zero_le _,rfl,rfl,rfl⟩
    case round=>
     obtain ⟨k,hk,rfl,rfl,rfl⟩:=hrel
     have hbd:=numL_bd _ (digits_take _ k HD.out) (by rw [List.length_take,size_len];omega)
     by_cases hlt:k<s.size
     ·have hsn:=numL_snoc (s.data.toList.take k) s[k]
      rw [<-take_snoc s k hlt] at hsn
      have hg:digitB s[k]=true:=by
       have h1:=HD.out
       rw [List.all_eq_true] at h1
       exact h1 s[k] (mem_at s k hlt)
      simp only [digitB,digitI,decide_eq_true_eq] at hg
      obtain ⟨n,hn⟩:∃ n,numL (s.data.toList.take k)=n:=⟨_,rfl⟩
      rw [hn] at hsn hbd ⊢
      have HS:=Lib.hid hsn
      clear hn hsn
      go_wp2_with fail
      go_roundw
      case rel=>exact ⟨k+1,by omega,by go_num,by rw [HS.out];congr 1;omega,trivial⟩
      case measure=>simp [intOf];omega
     ·have hke:k=s.size:=by omega
      subst hke
      rw [List.take_of_length_le (by simp)] at hbd ⊢
      obtain ⟨n,hn⟩:∃ n,numL s.data.toList=n:=⟨_,rfl⟩
      have hOn:OK=true ↔ n<=65535:=by
       rw [<-HOK.out,<-hn]
       exact ⟨fun h=>h.2.2,fun h=>⟨HD.out,by rw [size_len];omega,h⟩⟩
      have hr:=HR.out
      rw [hn] at hbd hr ⊢
      clear hn hlt hk HD HOK HR
      have cT:=Lib.hid (Tryz.strings_TrimLeft_one s 48 (by decide) wr)
      have hz:(⟨(Lib.trimLeftB s.data.toList 48).toArray⟩:ByteArray).data.toList=zerosOff s.data.toList:=rfl
      obtain ⟨T,hT⟩:∃ T:ByteArray,⟨(Lib.trimLeftB s.data.toList 48).toArray⟩=T:=⟨_,rfl⟩
      rw [hT] at cT hz
      rw [<-hz] at hr
      have HR:=Lib.hid hr
      clear hz hT hr
      by_cases hn5:n<=65535
      ·obtain rfl:=hOn.2 hn5
       clear hOn
       by_cases hc:n=443
       ·subst hc
        go_wp2_with (go_at_call 114;with_reducible refine cT.out.mono ?_;rintro e w2 ⟨rfl,rfl⟩)
        go_ret2
        first | exact ⟨_,rfl,by rw [HR.out];simp⟩ | exact ⟨_,rfl,fun _=>by rw [HR.out];simp,rfl⟩ | exact ⟨_,rfl,fun h=>(nomatch h),rfl⟩
       ·have hcb:((n:Int) == 443)=false:=by rw [beq_eq_false_iff_ne];omega
        go_wp2_with (go_at_call 114;with_reducible refine cT.out.mono ?_;rintro e w2 ⟨rfl,rfl⟩)
        go_ret2
        first | exact ⟨_,rfl,by rw [HR.out];simp [hc]⟩ | exact ⟨_,rfl,fun h=>(nomatch h),rfl⟩
      ·have hno:OK=false:=by
        cases hO:OK with
        | false=>rfl
        | true=>exact absurd (hOn.1 hO) hn5
       subst hno
       clear hOn
       go_wp2_with (go_at_call 114;with_reducible refine cT.out.mono ?_;rintro e w2 ⟨rfl,rfl⟩)
       go_ret2
       first | exact ⟨_,rfl⟩ | exact ⟨_,rfl,trivial⟩ | exact ⟨⟨_,rfl⟩,rfl⟩ | exact ⟨_,rfl,fun h=>(nomatch h),rfl⟩
theorem portC (sch s:ByteArray)(w:World)(hs:s.size<=1000000)(hX:(sch.toList == [104,116,116,112])=false)(hY:(sch.toList == [104,116,116,112,115])=false)(R:List UInt8)(hR:portOf sch.data.toList s.data.toList=R):
 Calls Tryz.prog 65 #[.string sch,.string s] w fun e w'=>∃ t:ByteArray,e = .returned (.tuple #[.string t,.bool (decide (portOk s.data.toList))])/\(portOk s.data.toList->t.data.toList=R)/\w=w':=by
 obtain ⟨OK,hOK⟩:∃ OK,decide (portOk s.data.toList)=OK:=⟨_,rfl⟩
 have hP:portOk s.data.toList ↔ OK=true:=by rw [<-hOK];simp
 rw [hOK]
 simp only [hP]
 have HOK:=Lib.hid hP
 have hx:=hX
 have hy:=hY
 rw [str_beq] at hx hy
 have hR0:R=if (false=true/\numL s.data.toList=80)\/(false=true/\numL s.data.toList=443) then [] else zerosOff s.data.toList:=by
  have e1:(sch.data.toList=httpL) ↔ (false=true):=by simp only [decide_eq_true_eq,decide_eq_false_iff_not] at hx;simp [hx]
  have e2:(sch.data.toList=httpsL) ↔ (false=true):=by simp only [decide_eq_true_eq,decide_eq_false_iff_not] at hy;simp [hy]
  rw [<-hR,portOf]
  simp only [e1,e2]
 have HR:=Lib.hid hR0
 clear hR hOK hP hx hy hR0
 go_enter Tryz.func65,Tryz.ntmps65
 go_wp2_with fail
 go_loopw [6] (fun iv wr=>∃ k:Nat,k<=s.size/\iv = .int .i64 k/\(s.data.toList.take k).all digitB=true/\wr=w) (fun iv _=>s.size - (intOf iv).toNat)
 case atStart=>exact ⟨0,Nat.zero_le _,rfl,by simp,rfl⟩
 case round=>
  obtain ⟨k,hk,rfl,hd,rfl⟩:=hrel
  by_cases hlt:k<s.size
  ·rcases Bool.eq_false_or_eq_true (digitI (s[k].toNat:Int)) with hg | hg
   ·have hd2:(s.data.toList.take (k+1)).all digitB=true:=by
     rw [take_snoc s k hlt,List.all_append,hd]
     simp only [List.all_cons,List.all_nil,Bool.and_true,Bool.true_and];exact hg
    have HD:=Lib.hid hd2
    clear hd2 hd
    go_wp2_with (go_at_call 108;refine (digit_any _ _).mono ?_;rintro e w' ⟨rfl,rfl⟩)
    go_roundw
    case rel=>exact ⟨k+1,by omega,by go_num,HD.out,trivial⟩
    case measure=>simp [intOf];omega
   ·have hno:OK=false:=by
     cases hO:OK with
     | false=>rfl
     | true=>
       have h1:=(HOK.out.2 hO).1
       rw [List.all_eq_true] at h1
       have h2:=h1 s[k] (mem_at s k hlt)
       rw [digitB,hg] at h2;cases h2
    subst hno
    clear HR hd HOK
    go_wp2_with (go_at_call 108;refine (digit_any _ _).mono ?_;rintro e w' ⟨rfl,rfl⟩)
    go_ret2
    first | exact ⟨_,rfl⟩ | exact ⟨_,rfl,trivial⟩ | exact ⟨⟨_,rfl⟩,rfl⟩ | exact ⟨_,rfl,fun h=>(nomatch h),rfl⟩
  ·have hke:k=s.size:=by omega
   subst hke
   rw [List.take_of_length_le (by simp)] at hd
   have HD:=Lib.hid hd
   clear hd hlt hk
   by_cases h5:5<s.size
   ·have hno:OK=false:=by
     cases hO:OK with
     | false=>rfl
     | true=>
       have h1:=(HOK.out.2 hO).2.1
       rw [size_len] at h1;omega
    subst hno
    clear HR HOK
    go_wp2_with fail
    go_ret2
    first | exact ⟨_,rfl⟩ | exact ⟨_,rfl,trivial⟩ | exact ⟨⟨_,rfl⟩,rfl⟩ | exact ⟨_,rfl,fun h=>(nomatch h),rfl⟩
   ·go_wp2_with fail
    obtain ⟨wo,rfl⟩:∃ wo:World,wo=wr:=⟨_,rfl⟩
    go_loopw [7,8] (fun nv iv wr=>∃ k:Nat,k<=s.size/\iv = .int .i64 k/\nv = .int .i64 (numL (s.data.toList.take k):Nat)/\wr=wo) (fun _ iv _=>s.size - (intOf iv).toNat)
    case atStart=>exact ⟨0,Nat.zero_le _,rfl,rfl,rfl⟩
    case round=>
     obtain ⟨k,hk,rfl,rfl,rfl⟩:=hrel
     have hbd:=numL_bd _ (digits_take _ k HD.out) (by rw [List.length_take,size_len];omega)
     by_cases hlt:k<s.size
     ·have hsn:=numL_snoc (s.data.toList.take k) s[k]
      rw [<-take_snoc s k hlt] at hsn
      have hg:digitB s[k]=true:=by
       have h1:=HD.out
       rw [List.all_eq_true] at h1
       exact h1 s[k] (mem_at s k hlt)
      simp only [digitB,digitI,decide_eq_true_eq] at hg
      obtain ⟨n,hn⟩:∃ n,numL (s.data.toList.take k)=n:=⟨_,rfl⟩
      rw [hn] at hsn hbd ⊢
      have HS:=Lib.hid hsn
      clear hn hsn
      go_wp2_with fail
      go_roundw
      case rel=>exact ⟨k+1,by omega,by go_num,by rw [HS.out];congr 1;omega,trivial⟩
      case measure=>simp [intOf];omega
     ·have hke:k=s.size:=by omega
      subst hke
      rw [List.take_of_length_le (by simp)] at hbd ⊢
      obtain ⟨n,hn⟩:∃ n,numL s.data.toList=n:=⟨_,rfl⟩
      have hOn:OK=true ↔ n<=65535:=by
       rw [<-HOK.out,<-hn]
       exact ⟨fun h=>h.2.2,fun h=>⟨HD.out,by rw [size_len];omega,h⟩⟩
      have hr:=HR.out
      rw [hn] at hbd hr ⊢
      clear hn hlt hk HD HOK HR
      have cT:=Lib.hid (Tryz.strings_TrimLeft_one s 48 (by decide) wr)
      have hz:(⟨(Lib.trimLeftB s.data.toList 48).toArray⟩:ByteArray).data.toList=zerosOff s.data.toList:=rfl
      obtain ⟨T,hT⟩:∃ T:ByteArray,⟨(Lib.trimLeftB s.data.toList 48).toArray⟩=T:=⟨_,rfl⟩
      rw [hT] at cT hz
      rw [<-hz] at hr
      have HR:=Lib.hid hr
      clear hz hT hr
      by_cases hn5:n<=65535
      ·obtain rfl:=hOn.2 hn5
       clear hOn
       by_cases hc:n=0
       ·subst hc
        go_wp2_with (go_at_call 114;with_reducible refine cT.out.mono ?_;rintro e w2 ⟨rfl,rfl⟩)
        go_ret2
        first | exact ⟨_,rfl,by rw [HR.out];simp⟩ | exact ⟨_,rfl,fun _=>by rw [HR.out];simp,rfl⟩ | exact ⟨_,rfl,fun h=>(nomatch h),rfl⟩
       ·have hcb:((n:Int) == 0)=false:=by rw [beq_eq_false_iff_ne];omega
        go_wp2_with (go_at_call 114;with_reducible refine cT.out.mono ?_;rintro e w2 ⟨rfl,rfl⟩)
        go_ret2
        first | exact ⟨_,rfl,by rw [HR.out];simp [hc]⟩ | exact ⟨_,rfl,fun h=>(nomatch h),rfl⟩
      ·have hno:OK=false:=by
        cases hO:OK with
        | false=>rfl
        | true=>exact absurd (hOn.1 hO) hn5
       subst hno
       clear hOn
       go_wp2_with (go_at_call 114;with_reducible refine cT.out.mono ?_;rintro e w2 ⟨rfl,rfl⟩)
       go_ret2
       first | exact ⟨_,rfl⟩ | exact ⟨_,rfl,trivial⟩ | exact ⟨⟨_,rfl⟩,rfl⟩ | exact ⟨_,rfl,fun h=>(nomatch h),rfl⟩
theorem port_any (sch s:ByteArray)(w:World)(hs:s.size<=1000000):
 Calls Tryz.prog 65 #[.string sch,.string s] w fun e w'=>∃ t:ByteArray,e = .returned (.tuple #[.string t,.bool (decide (portOk s.data.toList))])/\(portOk s.data.toList->t.data.toList=portOf sch.data.toList s.data.toList)/\w=w':=by
 by_cases h1:sch.data.toList=httpL
 ·exact portA sch s w hs (by rw [str_beq,decide_eq_true h1]) (by rw [str_beq,h1];rfl) _ rfl
 ·by_cases h2:sch.data.toList=httpsL
  ·exact portB sch s w hs (by rw [str_beq,h2];rfl) (by rw [str_beq,decide_eq_true h2]) _ rfl
  ·exact portC sch s w hs (by rw [str_beq,decide_eq_false h1]) (by rw [str_beq,decide_eq_false h2]) _ rfl
abbrev noneU:U6:=([],[],[],[],[],[])
def strV (l:List UInt8):Value:=.string ⟨l.toArray⟩
def urlV (u:U6):Value:=.agg #[strV u.1,strV u.2.1,strV u.2.2.1,strV u.2.2.2.1,strV u.2.2.2.2.1,strV u.2.2.2.2.2]
def resV (o:Option U6):Value:=.tuple #[urlV (o.getD noneU),.int .i64 (if o.isSome then 0 else 4)]
theorem strV_of {t:ByteArray}{l:List UInt8}(h:t.data.toList=l):Value.string t=strV l:=by subst h;rfl
theorem urlV_of {a b c d e f:ByteArray}{u:U6}(ha:a.data.toList=u.1)(hb:b.data.toList=u.2.1)(hc:c.data.toList=u.2.2.1)(hd:d.data.toList=u.2.2.2.1)(he:e.data.toList=u.2.2.2.2.1)(hf:f.data.toList=u.2.2.2.2.2):
 Value.agg #[.string a,.string b,.string c,.string d,.string e,.string f]=urlV u:=by
 rw [urlV,strV_of ha,strV_of hb,strV_of hc,strV_of hd,strV_of he,strV_of hf]
theorem res_none {R:Option U6}(h:R=none):Ending.returned (.tuple #[.agg #[.string ⟨#[]⟩,.string ⟨#[]⟩,.string ⟨#[]⟩,.string ⟨#[]⟩,.string ⟨#[]⟩,.string ⟨#[]⟩],.int .i64 4]) = .returned (resV R):=by subst h;rfl
theorem res_some {R:Option U6}{u:U6}(h:R=some u){a b c d e f:ByteArray}(ha:a.data.toList=u.1)(hb:b.data.toList=u.2.1)(hc:c.data.toList=u.2.2.1)(hd:d.data.toList=u.2.2.2.1)(he:e.data.toList=u.2.2.2.2.1)(hf:f.data.toList=u.2.2.2.2.2):
 Ending.returned (.tuple #[.agg #[.string a,.string b,.string c,.string d,.string e,.string f],.int .i64 0]) = .returned (resV R):=by
 subst h;rw [urlV_of ha hb hc hd he hf];rfl
theorem trimL_len (l:List UInt8):(trimL l).length<=l.length:=by
 unfold trimL trimE trimF
 rw [List.length_reverse]
 refine Nat.le_trans (List.dropWhile_sublist _).length_le ?_
 rw [List.length_reverse]
 exact (List.dropWhile_sublist _).length_le
theorem cutp_any (s:ByteArray)(x y:UInt8)(w:World):
 Calls Tryz.prog 63 #[.string s,.string ⟨#[x,y]⟩] w fun e w'=>∃ g:ByteArray,e = .returned (.tuple #[.string g,.bool (decide (s.data.toList.take 2=[x,y]))])/\(s.data.toList.take 2=[x,y]->g.data.toList=s.data.toList.drop 2)/\w'=w:=by
 refine (Tryz.strings_CutPrefix s ⟨#[x,y]⟩ w).mono ?_
 rintro e w' ⟨rfl,rfl⟩
 have hp:Lib.hasPrefix s.data.toList [x,y]=decide (s.data.toList.take 2=[x,y]):=by
  unfold Lib.hasPrefix
  match s.data.toList with
  | []=>rfl
  | [a]=>simp [List.isPrefixOf]
  | a :: b :: r=>
    simp only [List.isPrefixOf,Bool.and_true,List.take_succ_cons,List.take_zero,List.cons.injEq,and_true]
    by_cases h1:x=a
    ·by_cases h2:y=b
     ·subst h1;subst h2;simp
     ·subst h1;simp [h2,Ne.symm h2]
    ·simp [h1,Ne.symm h1]
 refine ⟨⟨(Lib.trimPrefix s.data.toList [x,y]).toArray⟩,?_,fun h=>?_,rfl⟩
 ·rw [<-hp]
 ·show Lib.trimPrefix s.data.toList [x,y]=_
  rw [Lib.trimPrefix,if_pos (by rw [hp,decide_eq_true h])]
  rfl
theorem pre_take (c:UInt8)(l:List UInt8):l.take (pre c l).length=pre c l:=by
 by_cases h:c∈l
 ·have:=pre_post c l h
  calc l.take (pre c l).length=(pre c l ++ c :: post c l).take (pre c l).length:=congrArg (List.take _) this
   _=pre c l:=List.take_left
 ·rw [pre_all c l h];simp
theorem bcell {W w1:World}(hb:Below W.heap.size W w1):(∀ b o,b<W.heap.size->w1.cell? ⟨b,o,none⟩=W.cell? ⟨b,o,none⟩)/\(∀ b o,b<W.heap.size->w1.frozen? ⟨b,o,none⟩=W.frozen? ⟨b,o,none⟩):=
 ⟨fun b o h=>hb.cell (p:=⟨b,o,none⟩) h,fun b o h=>hb.frozen (p:=⟨b,o,none⟩) h⟩
theorem _root_.Go.RowKit.Below.set6 {w w':World}(h:Below w.heap.size w w')(a b c d e f:Value):Below w.heap.size w ((((((w'.setCell ⟨w.heap.size,0,none⟩ a).setCell ⟨w.heap.size,1,none⟩ b).setCell ⟨w.heap.size,2,none⟩ c).setCell ⟨w.heap.size,3,none⟩ d).setCell ⟨w.heap.size,4,none⟩ e).setCell ⟨w.heap.size,5,none⟩ f):=
 (((((h.setCell lr _).setCell lr _).setCell lr _).setCell lr _).setCell lr _).setCell lr _
def Blank (W:World)(b:Nat):Prop:=∀ j,j<6->(W.cell? ⟨b,j,none⟩).isSome=true
theorem Blank.below {W W':World}{b n:Nat}(h:Blank W b)(hb:Below n W W')(hlt:b<n):Blank W' b:=fun j hj=>by
 rw [hb.cell (p:=⟨b,j,none⟩) hlt];exact h j hj
theorem isSome_set {W:World}{p q:Addr}{v:Value}(h:(W.cell? q).isSome=true):((W.setCell p v).cell? q).isSome=true:=by
 obtain ⟨x,hx⟩:=Option.isSome_iff_exists.1 h
 obtain ⟨y,hy⟩:=cell?_setCell_some (p:=p) (x:=v) hx
 rw [hy];rfl
theorem Blank.set {W:World}{b:Nat}(h:Blank W b)(p:Addr)(v:Value):Blank (W.setCell p v) b:=fun j hj=>isSome_set (h j hj)
theorem Blank.new (w:World)(a b c d e f:Value)(T:Nat):Blank (w.alloc (.cells #[a,b,c,d,e,f] T)) w.heap.size:=fun j hj=>by
 have:=cells_new w [a,b,c,d,e,f] T j ([a,b,c,d,e,f][j]'hj) (List.getElem?_eq_getElem _)
 have hadd:(⟨w.heap.size,0,none⟩:Addr).add j=⟨w.heap.size,j,none⟩:=by unfold Addr.add;split <;> simp_all
 rw [hadd] at this
 rw [show #[a,b,c,d,e,f]=[a,b,c,d,e,f].toArray from rfl,this];rfl
abbrev set6 (W:World)(k:Nat)(a b c d e f:Value):World:=(((((W.setCell ⟨k,0,none⟩ a).setCell ⟨k,1,none⟩ b).setCell ⟨k,2,none⟩ c).setCell ⟨k,3,none⟩ d).setCell ⟨k,4,none⟩ e).setCell ⟨k,5,none⟩ f
theorem set6_at {W:World}{k:Nat}(h:Blank W k)(a b c d e f:Value):(set6 W k a b c d e f).cell? ⟨k,0,none⟩=some a/\(set6 W k a b c d e f).cell? ⟨k,1,none⟩=some b/\(set6 W k a b c d e f).cell? ⟨k,2,none⟩=some c/\(set6 W k a b c d e f).cell? ⟨k,3,none⟩=some d/\(set6 W k a b c d e f).cell? ⟨k,4,none⟩=some e/\(set6 W k a b c d e f).cell? ⟨k,5,none⟩=some f:=by
 have far:∀ (V:World) (i j:Nat) (v:Value),i≠j->(V.setCell ⟨k,i,none⟩ v).cell? ⟨k,j,none⟩=V.cell? ⟨k,j,none⟩:=fun V i j v hij=>World.cell?_setCell_other V _ _ v (fun e=>hij (by cases e;rfl))
 have near:∀ (V:World) (i:Nat) (v:Value),Blank V k->i<6->(V.setCell ⟨k,i,none⟩ v).cell? ⟨k,i,none⟩=some v:=fun V i v hV hi=>World.cell?_setCell_same' V _ v (hV i hi)
 refine ⟨?_,?_,?_,?_,?_,?_⟩
 ·rw [far _ 5 0 _ (by omega),far _ 4 0 _ (by omega),far _ 3 0 _ (by omega),far _ 2 0 _ (by omega),far _ 1 0 _ (by omega)];exact near _ 0 _ h (by omega)
 ·rw [far _ 5 1 _ (by omega),far _ 4 1 _ (by omega),far _ 3 1 _ (by omega),far _ 2 1 _ (by omega)];exact near _ 1 _ (h.set _ _) (by omega)
 ·rw [far _ 5 2 _ (by omega),far _ 4 2 _ (by omega),far _ 3 2 _ (by omega)];exact near _ 2 _ ((h.set _ _).set _ _) (by omega)
 ·rw [far _ 5 3 _ (by omega),far _ 4 3 _ (by omega)];exact near _ 3 _ (((h.set _ _).set _ _).set _ _) (by omega)
 ·rw [far _ 5 4 _ (by omega)];exact near _ 4 _ ((((h.set _ _).set _ _).set _ _).set _ _) (by omega)
 ·exact near _ 5 _ (((((h.set _ _).set _ _).set _ _).set _ _).set _ _) (by omega)
theorem res_cell {fn:Func}(hr:fn.results = #[.cell 2 37,.tmp 3])(tmps:Array Value)(w:World)(k:Nat)(a b c d e f x:Value)(h2:tmps.getD 2 undef = .pointer (some ⟨k,0,none⟩))(h3:tmps.getD 3 undef=x)
 (h:w.cell? ⟨k,0,none⟩=some a/\w.cell? ⟨k,1,none⟩=some b/\w.cell? ⟨k,2,none⟩=some c/\w.cell? ⟨k,3,none⟩=some d/\w.cell? ⟨k,4,none⟩=some e/\w.cell? ⟨k,5,none⟩=some f) :
 (results fn tmps).run Tryz.prog w = .ok (.tuple #[.agg #[a,b,c,d,e,f],x]) w:=by
 obtain ⟨c0,c1,c2,c3,c4,c5⟩:=h
 rw [Array.getD_eq_getD_getElem?] at h2 h3
 simp [results,hr,h2,h3,go_sem,c0,c1,c2,c3,c4,c5]
theorem url_ret {fn:Func}(hr:fn.results = #[.cell 2 37,.tmp 3])(tmps:Array Value)(W:World)(k:Nat)(hW:Blank W k)(a b c d e f x:Value)(h2:tmps.getD 2 undef = .pointer (some ⟨k,0,none⟩))(h3:tmps.getD 3 undef=x):
 (results fn tmps).run Tryz.prog (set6 W k a b c d e f) = .ok (.tuple #[.agg #[a,b,c,d,e,f],x]) (set6 W k a b c d e f):=res_cell hr tmps _ k a b c d e f x h2 h3 (set6_at hW a b c d e f)
abbrev innerQ:ByteArray:=⟨#[45,46,95,126,33,36,38,39,40,41,42,43,44,59,61,58,64,47,63]⟩
abbrev innerS:ByteArray:=⟨#[45,46,95,126,33,36,38,39,40,41,42,43,44,59,61,58,64,47]⟩
theorem parseN (s:ByteArray)(w:World)(hs:s.size<=300000)(hM:MaxAt w)(hOK:schemeOk (trimL s.data.toList)=false):
 Calls Tryz.prog 28 #[.string s] w fun e w'=>e = .returned (resV (parseL s.data.toList))/\Below w.heap.size w w':=by
 have hR:parseL s.data.toList=none:=by rw [parseL,hOK];rfl
 rw [hR]
 obtain ⟨T,hT⟩:∃ T,trimL s.data.toList=T:=⟨_,rfl⟩
 have hTl:=trimL_len s.data.toList
 rw [size_len] at hTl
 have cT:=fun w=>trim_any s w (by omega)
 rw [hT] at cT hTl hOK
 have cS:∀ t:ByteArray,t.data.toList=T->∀ w,MaxAt w->Calls Tryz.prog 58 #[.string t] w fun e w'=>∃ a b:ByteArray,e = .returned (.tuple #[.string a,.string b,.bool false])/\Below w.heap.size w w':=fun t ht w hM=>by
  refine (scheme_any t w (by have:=size_of ht;omega) hM).mono ?_
  rintro e w' ⟨a,b,rfl,-,hb⟩
  exact ⟨a,b,by rw [ht,hOK],hb⟩
 have CT:=Lib.hid cT
 have CS:=Lib.hid cS
 clear cT cS hT hOK hR
 have hB0:Below w.heap.size w (w.alloc (.cells #[.string ⟨#[]⟩,.string ⟨#[]⟩,.string ⟨#[]⟩,.string ⟨#[]⟩,.string ⟨#[]⟩,.string ⟨#[]⟩] 37)):=(Below.refl _ w).alloc lr _
 go_enter Tryz.func28,Tryz.ntmps28
 go_wp2_with (first
  | (go_at_call 59;with_reducible refine (CT.out _).mono ?_;rintro e w' ⟨t,rfl,ht,rfl⟩;have Ht:=Lib.hid ht;clear ht)
  | (go_at_call 58;with_reducible refine (CS.out _ Ht.out _ (hM.below hB0 lr)).mono ?_;rintro e w1 ⟨a,b,rfl,hb1⟩;obtain ⟨hc1,hf1⟩:=bcell hb1;have hz1:w.heap.size<w1.heap.size:=by have:=hb1.size;simp at this;omega))
 refine bodyPost_ret (v:=resV none) (by simp [results,Tryz.results28,go_sem,hc1,hf1,hz1];rfl) rfl ⟨rfl,?_⟩
 exact (hB0.trans (hb1.mono hB0.size)).set6 _ _ _ _ _ _
theorem parseA (s:ByteArray)(w:World)(hs:s.size<=300000)(hM:MaxAt w)(N Rst:List UInt8)(hOK:schemeOk (trimL s.data.toList)=true)(hN:lowL (pre 58 (trimL s.data.toList))=N)(hRs:post 58 (trimL s.data.toList)=Rst)(hab:N=aboutL)(R:Option U6)(hR:restL N Rst=R):
 Calls Tryz.prog 28 #[.string s] w fun e w'=>e = .returned (resV R)/\Below w.heap.size w w':=by
 have hTl:=trimL_len s.data.toList
 rw [size_len] at hTl
 have hNl:N.length<=s.size:=by rw [<-hN,lowL_len];exact Nat.le_trans (pre_le _ _) hTl
 have hRl:Rst.length<=s.size:=by rw [<-hRs];exact Nat.le_trans (post_le _ _) hTl
 have cT:=fun w=>trim_any s w (by omega)
 obtain ⟨T,hT⟩:∃ T,trimL s.data.toList=T:=⟨_,rfl⟩
 rw [hT] at cT hTl hOK hN hRs
 have cS:∀ t:ByteArray,t.data.toList=T->∀ w,MaxAt w->Calls Tryz.prog 58 #[.string t] w fun e w'=>∃ a b:ByteArray,e = .returned (.tuple #[.string a,.string b,.bool true])/\a.data.toList=N/\b.data.toList=Rst/\Below w.heap.size w w':=fun t ht w hM=>by
  refine (scheme_any t w (by have:=size_of ht;omega) hM).mono ?_
  rintro e w' ⟨a,b,rfl,hab,hb⟩
  rw [ht,hOK] at hab
  obtain ⟨h1,h2⟩:=hab rfl
  exact ⟨a,b,by rw [ht,hOK],h1.trans hN,h2.trans hRs,hb⟩
 have hpl:=pre_le 35 Rst
 have hql:=post_le 35 Rst
 obtain ⟨BF,hBF⟩:∃ l,pre 35 Rst=l:=⟨_,rfl⟩
 obtain ⟨FR,hFR⟩:∃ l,post 35 Rst=l:=⟨_,rfl⟩
 obtain ⟨CF,hCF⟩:∃ l,conv (innerL ++ [63]) true FR=l:=⟨_,rfl⟩
 have hR2:R=if BF.all (okC [45])=true then some (N,[],[],BF,[],CF) else none:=by rw [<-hR,restL,if_pos hab,hBF,hFR,hCF]
 obtain ⟨OB,hOB⟩:∃ OB,BF.all (okC [45])=OB:=⟨_,rfl⟩
 rw [hOB] at hR2
 rw [hBF] at hpl
 rw [hFR] at hql
 have HOB:=Lib.hid hOB
 have CT:=Lib.hid cT
 have CS:=Lib.hid cS
 have HBF:=Lib.hid hBF
 have HFR:=Lib.hid hFR
 have HCF:=Lib.hid hCF
 have HR:=Lib.hid hR2
 have HAB:=Lib.hid hab
 clear cT cS hT hOK hR hN hRs hBF hFR hCF hR2 hab hOB
 have hB0:Below w.heap.size w (w.alloc (.cells #[.string ⟨#[]⟩,.string ⟨#[]⟩,.string ⟨#[]⟩,.string ⟨#[]⟩,.string ⟨#[]⟩,.string ⟨#[]⟩] 37)):=(Below.refl _ w).alloc lr _
 go_enter Tryz.func28,Tryz.ntmps28
 go_wp2_with (first
  | (go_at_call 59;with_reducible refine (CT.out _).mono ?_;rintro e w' ⟨t,rfl,ht,rfl⟩;have Ht:=Lib.hid ht;clear ht)
  | (go_at_call 58;with_reducible refine (CS.out _ Ht.out _ (hM.below hB0 lr)).mono ?_;rintro e w1 ⟨a,b,rfl,ha,hb,hb1⟩;obtain ⟨hc1,hf1⟩:=bcell hb1;have hz1:w.heap.size<w1.heap.size:=(by have:=hb1.size;simp at this;omega);have hB1:=hB0.trans (hb1.mono hB0.size);have hbs:=size_of hb;have Ha:=Lib.hid ha;have Hb:=Lib.hid hb;have n1:(a.toList == [97,98,111,117,116])=true:=(by rw [str_beq];exact decide_eq_true (ha.trans HAB.out));clear ha hb)
  | (go_at_call 60;with_reducible refine (cut_any b 35 _ (by omega) (hM.below hB1 lr)).mono ?_;rw [Hb.out,HBF.out,HFR.out];rintro e w2 ⟨c,d,rfl,hc,hd,hb2⟩;obtain ⟨hc2,hf2⟩:=bcell hb2;have hz2:w.heap.size<w2.heap.size:=(by have:=hb2.size;omega);have hB2:=hB1.trans (hb2.mono hB1.size);have hcs:=size_of hc;have hds:=size_of hd;have Hc:=Lib.hid hc;have Hd:=Lib.hid hd;clear hc hd)
  | (go_at_call 61;with_reducible refine (convert_any d innerQ true _ (by omega)).mono ?_;rw [Hd.out];rintro e w3 ⟨f,rfl,hf,hb3⟩;obtain ⟨hc3,hf3⟩:=bcell hb3;have hz3:w.heap.size<w3.heap.size:=(by have:=hb3.size;omega);have hB3:=hB2.trans (hb3.mono hB2.size);have Hf:=Lib.hid hf;clear hf)
  | (go_at_call 62;refine (only_any _ _ _ (by omega)).mono ?_;rw [Hc.out,show (⟨#[45]⟩:ByteArray).data.toList=[45] from rfl,HOB.out];rintro e w' ⟨rfl,rfl⟩;rcases Bool.eq_false_or_eq_true OB with rfl | rfl))
 ·refine bodyPost_ret (v:=.tuple #[.agg #[.string a,.string ⟨#[]⟩,.string ⟨#[]⟩,.string c,.string ⟨#[]⟩,.string f],.int .i64 0]) (by simp [results,Tryz.results28,go_sem,hc1,hf1,hz1,hc2,hf2,hz2,hc3,hf3,hz3]) rfl ⟨res_some HR.out Ha.out rfl rfl Hc.out rfl (Hf.out.trans HCF.out),?_⟩
  exact (hB3.set6 _ _ _ _ _ _).alloc (by simp;omega) _
 ·refine bodyPost_ret (v:=resV none) (by simp [results,Tryz.results28,go_sem,hc1,hf1,hz1,hc2,hf2,hz2,hc3,hf3,hz3];rfl) rfl ⟨by rw [HR.out];rfl,?_⟩
  exact (hB3.set6 _ _ _ _ _ _).alloc (by simp;omega) _
end Go.Proofs.YtjdhaacmlpegoaaGreatDoor
