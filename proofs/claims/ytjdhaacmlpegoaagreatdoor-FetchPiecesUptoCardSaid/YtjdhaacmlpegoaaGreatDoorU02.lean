/- Part 2 of what the proof needs: B1. -/
import Derived.Test.YtjdhaacmlpegoaaGreatDoorU01
import Derived.WalkSpells
import Derived.Shelf.Strings.SlTrimAscii
set_option maxRecDepth 20000
set_option maxHeartbeats 16000000
set_option linter.unusedSimpArgs false
set_option linter.unusedVariables false
namespace Go.Proofs.YtjdhaacmlpegoaaGreatDoor
open Go.RowKit
theorem ret_int {k:IntKind}{a b:Int}(h:a=b):Ending.returned (.int k a) = .returned (.int k b):=by rw [h]
theorem ret_bool {a b:Bool}(h:a=b):Ending.returned (.bool a) = .returned (.bool b):=by rw [h]
theorem size_len (s:ByteArray):s.data.toList.length=s.size:=by simp
theorem drop_at (s:ByteArray)(k:Nat)(h:k<s.size):s.data.toList.drop k=s[k] :: s.data.toList.drop (k+1):=by rw [Zu (by simpa using h)];rfl
theorem drop_end (s:ByteArray)(k:Nat)(h:s.size<=k):s.data.toList.drop k=[]:=List.drop_eq_nil_of_le (by simpa using h)
theorem byte_bd (b:UInt8):(0:Int)<=b.toNat/\(b.toNat:Int)<=255:=by have:=b.toNat_lt;omega
theorem byte_back (b:UInt8):((b.toNat:Int)).toNat.toUInt8=b:=by simp
def letterI (x:Int):Bool:=decide (97<=x/\x<=122) || decide (65<=x/\x<=90)
def digitI (x:Int):Bool:=decide (48<=x/\x<=57)
def hexI (x:Int):Int:=if 48<=x/\x<=57 then x - 48 else if 97<=x/\x<=102 then x - 87 else if 65<=x/\x<=70 then x - 55 else -1
def letterB (b:UInt8):Bool:=letterI b.toNat
def digitB (b:UInt8):Bool:=digitI b.toNat
def hexB (b:UInt8):Int:=hexI b.toNat
theorem hexI_bd (x:Int): -1<=hexI x/\hexI x<=15:=by unfold hexI;(repeat' split) <;> omega
theorem letter_any (x:Int)(w:World):Calls Tryz.prog 106 #[.int .u8 x] w fun e w'=>e = .returned (.bool (letterI x))/\w=w':=by go_enter Tryz.func106,Tryz.ntmps106;go_wp2;all_goals (go_ret;exact ⟨ret_bool (by simp [letterI, *] <;> omega),rfl⟩)
theorem digit_any (x:Int)(w:World):Calls Tryz.prog 108 #[.int .u8 x] w fun e w'=>e = .returned (.bool (digitI x))/\w=w':=by go_enter Tryz.func108,Tryz.ntmps108;go_wp2;all_goals (go_ret;exact ⟨ret_bool (by simp [digitI, *] <;> omega),rfl⟩)
theorem hex_any (x:Int)(w:World)(hx:0<=x/\x<=255):Calls Tryz.prog 160 #[.int .u8 x] w fun e w'=>e = .returned (.int .i64 (hexI x))/\w=w':=by
 go_enter Tryz.func160,Tryz.ntmps160;go_wp2_with (go_at_call 108;refine (digit_any _ _).mono ?_;rintro e w' ⟨rfl,rfl⟩)
 all_goals (go_ret;exact ⟨ret_int (by simp only [digitI,Jb,Zy] at *;unfold hexI;(repeat' split) <;> omega),rfl⟩)
theorem idx_in (l:List UInt8)(b:UInt8):(Lib.indexByte l b<0) ↔ l.contains b=false:=by rw [Lib.contains_iff_indexByte];simp
def okC (more:List UInt8)(b:UInt8):Bool:=letterB b || digitB b || more.contains b
theorem only_any (s more:ByteArray)(w:World)(hs:s.size<=1000000):
 Calls Tryz.prog 62 #[.string s,.string more] w fun e w'=>e = .returned (.bool (s.data.toList.all (okC more.data.toList)))/\w=w':=by
 obtain ⟨R,hR⟩:=Ka (s.data.toList.all (okC more.data.toList));rw [hR];have HR:=Kb hR;clear hR;go_enter Tryz.func62,Tryz.ntmps62;go_wp2;go_loop [5] (fun i=>∃ k:Nat,k<=s.size/\i = .int .i64 k/\(s.data.toList.drop k).all (okC more.data.toList)=R) (fun i=>s.size - (intOf i).toNat);case atStart=>exact ⟨0,Kh _,rfl,HR.out⟩
 case round=>
  obtain ⟨k,hk,rfl,hf⟩:=hrel;by_cases hlt:k<s.size
  ·rw [drop_at s k hlt,Zz] at hf;have cI:=Tryz.strings_IndexByte more (s[k].toNat:Int);rw [byte_back] at cI;have hc:=idx_in more.data.toList s[k];have ho:okC more.data.toList s[k]=(letterI s[k].toNat || digitI s[k].toNat || more.data.toList.contains s[k]):=rfl;obtain ⟨x,hx⟩:=Ka (Lib.indexByte more.data.toList s[k]);rw [hx] at cI hc;obtain ⟨C,hC⟩:=Ka (more.data.toList.contains s[k]);rw [hC] at hc ho;have CI:=Kb cI;have HF:=Kb hf;have HO:=Kb ho;clear hf cI hx ho hC;have hx:(C=false/\x<0)\/(C=true/\¬ x<0):=by cases C <;> simp at hc <;> simp [hc]
   clear hc;rcases hx with ⟨rfl,hx⟩ | ⟨rfl,hx⟩
   all_goals
    go_wp2_with (first
     | (go_at_call 106;refine (letter_any _ _).mono ?_;rintro e w' ⟨rfl,rfl⟩)
     | (go_at_call 108;refine (digit_any _ _).mono ?_;rintro e w' ⟨rfl,rfl⟩)
     | (go_at_call 64;refine (CI.out _).mono ?_;rintro e w' ⟨rfl,rfl⟩))
    all_goals first
     | (go_round
        case rel=>exact ⟨k+1,by omega,by go_num,by rw [<-HF.out,HO.out];simp [*]⟩
        case measure=>simp [intOf];omega)
     | (go_ret;exact ⟨ret_bool (by rw [<-HF.out,HO.out];simp [*]),rfl⟩)
  ·rw [drop_end s k (by omega)] at hf;have HF:=Kb hf;clear hf;go_wp2;go_ret;exact ⟨ret_bool (by rw [<-HF.out];rfl),rfl⟩
def strLen:Value->Nat
 | .string s=>s.size
 | _=>0
theorem ext_list (s:ByteArray)(a b:Nat):(s.extract a b).data.toList=(s.data.toList.drop a).take (b - a):=by simp [ByteArray.data_extract,List.drop_take,Array.toList_extract,List.extract_eq_take_drop]
theorem ext_to (s:ByteArray)(a:Nat):(s.extract a s.size).data.toList=s.data.toList.drop a:=by rw [ext_list,Zb (by simp)]
theorem ext_from (s:ByteArray)(b:Nat):(s.extract 0 b).data.toList=s.data.toList.take b:=by rw [ext_list];simp
theorem empty_of (s:ByteArray)(h:s.size=0):s.toList.isEmpty=true:=by rw [Zv,Kt];exact Ja (by rw [size_len];exact h)
theorem nonempty_of (s:ByteArray)(h:0<s.size):s.toList.isEmpty=false:=by
 cases e:s.toList.isEmpty with
 | false=>rfl
 | true=>
   rw [Zv,Kt] at e
   have:=size_len s
   rw [e] at this
   simp at this
   omega
def wsB (b:UInt8):Bool:=decide (b.toNat<=32)
def trimF (l:List UInt8):List UInt8:=l.dropWhile wsB
def trimE (l:List UInt8):List UInt8:=(l.reverse.dropWhile wsB).reverse
def trimL (l:List UInt8):List UInt8:=trimE (trimF l)
theorem trimE_snoc (l:List UInt8)(b:UInt8):trimE (l ++ [b])=if wsB b then trimE l else l ++ [b]:=by unfold trimE;rw [List.reverse_append,List.reverse_cons,List.reverse_nil,Jp,Xa,Ze];split <;> simp
theorem snoc_at (s:ByteArray)(k:Nat)(h:s.size=k+1):s.data.toList=s.data.toList.take k ++ [s[k]]:=by have:=Jf (i:=k) (l:=s.data.toList) (by simp;omega);rw [Zb (by simp;omega)] at this;exact this
theorem N58{p:Prop}(h:p:=by
 have hci3:(x[k].toNat:Int)<=32:=by omega
 have hr4:trimE (x.extract 0 k).data.toList=R:=by have e:=trimE_snoc (x.data.toList.take k) x[k];rw [Kf (by simpa [wsB] using hc3),<-hs3] at e;rw [ext_from,<-e];exact hr3
 have HR4:=Kb hr4;clear hr3 hs3 hr4;go_wp2_with fail;go_round;case rel=>exact ⟨x.extract 0 k,by simp;omega,rfl,HR4.out⟩
 case measure=>simp [strLen];omega
 ):p:=h
theorem N65{p:Prop}(h:p:=by
 have hci3:¬ (x[k].toNat:Int)<=32:=by omega
 have hr4:x.data.toList=R:=by have e:=trimE_snoc (x.data.toList.take k) x[k];rw [Ke (by simpa [wsB] using hc3),<-hs3] at e;rw [<-e];exact hr3
 have HR4:=Kb hr4;clear hr3 hs3 hr4;go_wp2_with fail;go_ret
 exact ⟨x,rfl,HR4.out,rfl⟩
 ):p:=h
theorem N67{p:Prop}(h:p:=by
 have hE:=empty_of x hx0;have hxl:x.data.toList=[]:=Ja (by rw [size_len];exact hx0);have hr4:x.data.toList=R:=by rw [<-hr3,hxl];rfl
 have HR4:=Kb hr4;have hxz:(x.size:Int)=0:=by omega
 clear hr3 hxl hr4;go_wp2_with fail;go_ret
 exact ⟨x,rfl,HR4.out,rfl⟩
 ):p:=h
theorem M13{p:Prop}(h:p:=by
 clear hE;obtain ⟨x,hx,rfl,hr3⟩:=hrel;by_cases hx0:x.size=0
 ·exact N67
 ·have hE:=nonempty_of x (by omega);obtain ⟨k,hk⟩:∃ k,x.size=k+1:=⟨x.size - 1,by omega⟩
  have hs3:=snoc_at x k hk;have hkx:(x.size:Int) - 1=k:=by omega
  have hkp:(0:Int)<(x.size:Int):=by omega
  by_cases hc3:x[k].toNat<=32
  ·exact N58
  ·exact N65
 ):p:=h
theorem trim_any (s:ByteArray)(w:World)(hs:s.size<=1000000):
 Calls Tryz.prog 59 #[.string s] w fun e w'=>∃ t:ByteArray,e = .returned (.string t)/\t.data.toList=trimL s.data.toList/\w=w':=by
 obtain ⟨R,hR⟩:=Ka (trimL s.data.toList);rw [hR];have HR:=Kb hR;clear hR;go_enter Tryz.func59,Tryz.ntmps59;go_wp2;go_loop [0] (fun v=>∃ t:ByteArray,t.size<=1000000/\v = .string t/\trimL t.data.toList=R) strLen;case atStart=>exact ⟨s,hs,rfl,HR.out⟩
 case round=>
  obtain ⟨t,ht,rfl,hr⟩:=hrel;by_cases h0:t.size=0
  ·have hE:=empty_of t h0;have hl:t.data.toList=[]:=Ja (by rw [size_len];exact h0);have hr2:trimE t.data.toList=R:=by rw [<-hr,hl];rfl
   have HR2:=Kb hr2;have hz:(t.size:Int)=0:=by omega
   clear hr hl hr2;go_wp2_with fail;go_loop [0] (fun v=>∃ t:ByteArray,t.size<=1000000/\v = .string t/\trimE t.data.toList=R) strLen;case atStart=>exact ⟨t,ht,rfl,HR2.out⟩
   case round=>
    exact M13
  ·have hE:=nonempty_of t (by omega);have hd:=drop_at t 0 (by omega);rw [List.drop_zero] at hd;have hp:0<t.size:=by omega
   have hpi:(0:Int)<(t.size:Int):=by omega
   by_cases hc:t[0].toNat<=32
   ·have hci:(t[0].toNat:Int)<=32:=by omega
    have hr2:trimL (t.extract 1 t.size).data.toList=R:=by rw [ext_to,<-hr,hd];unfold trimL trimF;rw [Ze,Kf (by simpa [wsB] using hc)];simp
    have HR2:=Kb hr2;clear hr hd hr2;go_wp2_with fail;go_round;case rel=>exact ⟨t.extract 1 t.size,by simp;omega,rfl,HR2.out⟩
    case measure=>simp [strLen];omega
   ·have hci:¬ (t[0].toNat:Int)<=32:=by omega
    have hr2:trimE t.data.toList=R:=by rw [<-hr,hd];unfold trimL trimF;rw [Ze,Ke (by simpa [wsB] using hc)]
    have HR2:=Kb hr2;clear hr hd hr2;go_wp2_with fail;go_loop [0] (fun v=>∃ t:ByteArray,t.size<=1000000/\v = .string t/\trimE t.data.toList=R) strLen;case atStart=>exact ⟨t,ht,rfl,HR2.out⟩
    case round=>
     exact M13
def pre (c:UInt8)(l:List UInt8):List UInt8:=l.takeWhile (· != c)
def post (c:UInt8)(l:List UInt8):List UInt8:=(l.dropWhile (· != c)).drop 1
theorem app_list (a b:ByteArray):(a ++ b).data.toList=a.data.toList ++ b.data.toList:=by simp
theorem byte_ofNat (b:UInt8):UInt8.ofNat ((b.toNat:Int)).toNat=b:=by simp
def lowB (b:UInt8):UInt8:=if 65<=b.toNat/\b.toNat<=90 then b+32 else b
theorem lowB_int (b:UInt8):((65:Int)<=b.toNat->(b.toNat:Int)<=90->UInt8.ofNat ((b.toNat:Int)+32).toNat=lowB b)/\(¬ ((65:Int)<=b.toNat/\(b.toNat:Int)<=90)->UInt8.ofNat ((b.toNat:Int)).toNat=lowB b):=by
 constructor
 ·intro h1 h2;rw [lowB,Kf ⟨by omega,by omega⟩];apply UInt8.toNat_inj.1;rw [show ((b.toNat:Int)+32).toNat=b.toNat+32 by omega,UInt8.toNat_ofNat',UInt8.toNat_add];rfl
 ·intro h;rw [lowB,Ke (fun ⟨h1,h2⟩=>h ⟨by omega,by omega⟩),byte_ofNat]
def lowL (l:List UInt8):List UInt8:=l.map lowB
def segs (c:UInt8):List UInt8->List (List UInt8)
 | []=>[[]]
 | b :: l => if b == c then [] :: segs c l else match segs c l with
   | []=>[[b]]
   | p :: r=>(b :: p) :: r
theorem segs_ne (c:UInt8)(l:List UInt8):segs c l≠[]:=by
 cases l with
 | nil=>simp [segs]
 | cons b l => unfold segs; split
               ·simp
               ·split <;> simp
theorem segs_pre (c:UInt8)(r:List UInt8):∀ p:List UInt8,c ∉ p->segs c (p ++ c :: r)=p :: segs c r:=by
 intro p
 induction p with
 | nil=>intro _;simp [segs]
 | cons b p ih=>
   intro h
   have hb:(b == c)=false:=by simp;intro e;exact h (by simp [e])
   rw [Jn,segs,hb,ih (fun q=>h (Jg _ q))]
   rfl
theorem segs_one (c:UInt8):∀ p:List UInt8,c ∉ p->segs c p=[p]:=by
 intro p
 induction p with
 | nil=>intro _;rfl
 | cons b p ih=>
   intro h
   have hb:(b == c)=false:=by simp;intro e;exact h (by simp [e])
   rw [segs,hb,ih (fun q=>h (Jg _ q))]
   rfl
theorem pre_not (c:UInt8)(l:List UInt8):c ∉ pre c l:=by
 unfold pre
 induction l with
 | nil=>simp
 | cons b l ih=>
   rw [List.takeWhile_cons]
   split
   ·next h=>simp only [Ji,not_or];exact ⟨fun e=>by simp [e] at h,ih⟩
   ·simp
theorem pre_post (c:UInt8)(l:List UInt8)(h:c∈l):l=pre c l ++ c :: post c l:=by
 unfold pre post
 induction l with
 | nil=>cases h
 | cons b l ih=>
   by_cases hb:b=c
   ·subst hb;simp
   ·have:c∈l:=by rcases Ji.1 h with h | h;exact absurd h.symm hb;exact h
    rw [List.takeWhile_cons,Kf (by simpa using hb),Ze,Kf (by simpa using hb),Jn,<-ih this]
theorem pre_all (c:UInt8)(l:List UInt8)(h:c ∉ l):pre c l=l:=by
 unfold pre
 induction l with
 | nil=>rfl
 | cons b l ih=>
   have hb:b≠c:=fun e=>h (by simp [e])
   rw [List.takeWhile_cons,Kf (by simpa using hb),ih (fun q=>h (Jg _ q))]
theorem post_none (c:UInt8)(l:List UInt8)(h:c ∉ l):post c l=[]:=by
 unfold post
 induction l with
 | nil=>rfl
 | cons b l ih=>
   have hb:b≠c:=fun e=>h (by simp [e])
   rw [Ze,Kf (by simpa using hb)]
   exact ih (fun q=>h (Jg _ q))
theorem indexByte_pre (c:UInt8)(l:List UInt8):Lib.indexByte l c=if c∈l then ((pre c l).length:Int) else -1:=by
 induction l with
 | nil=>simp [Lib.indexByte]
 | cons b l ih=>
   unfold Lib.indexByte
   by_cases hb:b=c
   ·subst hb;simp [pre]
   ·have hb2:(b == c)=false:=by simp [hb]
    rw [hb2,ih]
    by_cases hc:c∈l
    ·have e:pre c (b :: l)=b :: pre c l:=by unfold pre;rw [List.takeWhile_cons,Kf (by simpa using hb)]
     rw [Kf hc,Kf (Jg _ hc),e]
     have:¬ ((((pre c l).length:Int) == -1)=true):=by rw [Ju];omega
     rw [Ke this]
     simp
    ·have hn:c ∉ b :: l:=fun q=>by rcases Ji.1 q with q | q;exact hb q.symm;exact hc q
     rw [Ke hc,Ke hn]
     simp
theorem cut_eq (c:UInt8)(l:List UInt8):Lib.cut l [c]=(pre c l,post c l,l.contains c):=by
 unfold Lib.cut;rw [Lib.index_one,indexByte_pre];by_cases h:c∈l
 ·have e:=pre_post c l h;have e1:l.take (pre c l).length=pre c l:=by have:=Kq (List.take (pre c l).length) e;rw [this];exact List.take_left' rfl
  have e2:l.drop ((pre c l).length+1)=post c l:=by have:=Kq (List.drop ((pre c l).length+1)) e;rw [this,<-Zr,List.drop_left' rfl];rfl
  rw [Kf h,Kf (by omega),Int.toNat_natCast,Xo,e1,e2];simp [h]
 ·rw [Ke h,Ke (by omega),pre_all c l h,post_none c l h];simp [h]
theorem indexB_one (s:ByteArray)(c:UInt8):Lib.indexB s ⟨#[c]⟩=Lib.indexByte s.data.toList c:=by rw [Lib.indexB];exact Lib.index_one _ _
theorem split_segs (c:UInt8):∀ (k:Nat) (s:ByteArray),Lib.countB s ⟨#[c]⟩=k->(Lib.splitB ⟨#[c]⟩ 0 k s).map (·.data.toList)=segs c s.data.toList:=by
 intro k
 induction k with
 | zero=>
   intro s h
   have hi:=indexB_one s c
   rw [indexByte_pre] at hi
   by_cases hc:c∈s.data.toList
   ·rw [Kf hc] at hi
    have:=Lib.countB_hit s ⟨#[c]⟩ _ (Zf 1) hi
    omega
   ·rw [Lib.splitB_zero,segs_one c _ hc];rfl
 | succ k ih=>
   intro s h
   have hi:=indexB_one s c
   rw [indexByte_pre] at hi
   by_cases hc:c∈s.data.toList
   ·rw [Kf hc] at hi
    have h1:=Lib.countB_hit s ⟨#[c]⟩ _ (Zf 1) hi
    have hm:¬ ((Lib.indexB s ⟨#[c]⟩ == -1)=true):=by rw [hi,Ju];omega
    rw [Lib.splitB,Ke hm,hi,Int.toNat_natCast,Jw]
    have e:=pre_post c s.data.toList hc
    have z:(⟨#[c]⟩:ByteArray).size=1:=rfl
    rw [z] at h1 ⊢
    rw [ih _ (by omega)]
    have e1:(s.extract 0 ((pre c s.data.toList).length+0)).data.toList=pre c s.data.toList:=by
     rw [Ku,ext_from]
     have:=Kq (List.take (pre c s.data.toList).length) e
     rw [this];exact List.take_left' rfl
    have e2:(s.extract ((pre c s.data.toList).length+1) s.size).data.toList=post c s.data.toList:=by
     rw [ext_to]
     have:=Kq (List.drop ((pre c s.data.toList).length+1)) e
     rw [this,<-Zr,List.drop_left' rfl];rfl
    rw [e1,e2]
    have:=Kq (segs c) e
    rw [segs_pre c _ _ (pre_not c _)] at this
    exact this.symm
   ·rw [Ke hc] at hi
    have:=Lib.countB_miss s ⟨#[c]⟩ hi
    omega
theorem slS:SlTy Tryz.prog 75 9 1 16:=.mk' (z:=.string ⟨#[]⟩) Tryz.underlying75 (by kernel_rfl) rfl (by decide)
def strsV (l:List ByteArray):List Value:=l.map Value.string
def lists (l:List ByteArray):List (List UInt8):=l.map (·.data.toList)
structure BytesAt (w:World)(b:Nat)(l:List UInt8):Prop where
 cell:∀ j (h:j<l.length),w.cell? ⟨b,j,none⟩=some (.int .u8 (l[j].toNat:Int))
 free:∀ j,j<l.length->w.frozen? ⟨b,j,none⟩=false
 lt:b<w.heap.size
theorem conv_bytes (w:World)(s:ByteArray):∃ cap w',(convert 9 68 (.string s)).run Tryz.prog w = .ok (.slice (some ⟨w.heap.size,0,none⟩) s.size cap) w'/\BytesAt w' w.heap.size s.data.toList/\Below w.heap.size w w':=by
 refine ⟨_,_,Lib.run_convert_string_bytes w 9 68 5 s Tryz.underlying9 Tryz.underlying68 Tryz.underlying5,⟨fun j h=>?_,fun j h=>?_,?_⟩,?_⟩
 ·rw [Lib.bytesWorld_cell w 5 s j (by simpa using h),List.getD_eq_getElem?_getD,Jd h];rfl
 ·unfold World.frozen?;rw [Lib.bytesWorld_at_new];have:s.size<=(Lib.bytesCells w 5 s).size:=by simp [Lib.bytesCells]
  simp at h ⊢;omega
 ·rw [Lib.bytesWorld_size];omega
 ·exact ⟨rfl,rfl,rfl,by rw [Lib.bytesWorld_size];omega,fun k hk=>Lib.bytesWorld_at_old w 5 s k hk⟩
theorem BytesAt.set {w:World}{b:Nat}{l:List UInt8}(h:BytesAt w b l)(k:Nat)(hk:k<l.length)(x:UInt8):BytesAt (w.setCell ⟨b,k,none⟩ (.int .u8 (x.toNat:Int))) b (l.set k x):=by
 refine ⟨fun j hj=>?_,fun j hj=>?_,by simpa using h.lt⟩
 ·have hj':j<l.length:=by simpa using hj
  by_cases e:j=k
  ·subst e;rw [World.cell?_setCell_same _ _ _ (h.cell j hj')];simp
  ·have:=h.cell j hj';have hne:k≠j:=fun q=>e q.symm;rw [World.cell?_setCell_other _ _ _ _ (by simp [hne]),this];simp [hne]
 ·have hj':j<l.length:=by simpa using hj
  have:=h.free j hj';simpa using this
theorem N17{p:Prop}(h:p:=by
 have hd:=drop_at s k hlt;have hll:(lowL (s.data.toList.take k)).length=k:=by simp [lowL];omega
 obtain ⟨P,hP⟩:=Ka (lowL (s.data.toList.take k));rw [hd,hP] at hbl;rw [hP] at hll;have c0:=hbl.cell k (by simp;omega);have f0:=hbl.free k (by simp;omega);rw [List.getElem_append_right (by omega)] at c0;simp only [hll,Nat.sub_self,List.getElem_cons_zero] at c0;have hlt2:=hbl.lt;have hts:s.data.toList.take (k+1)=s.data.toList.take k ++ [s[k]]:=by rw [Jf (by simpa using hlt)];rfl
 have hn:lowL (s.data.toList.take (k+1))=P ++ [lowB s[k]]:=by rw [hts,<-hP];simp [lowL]
 have hset:=hbl.set k (by simp;omega) (lowB s[k]);rw [List.set_append_right _ _ (by omega),hll,Nat.sub_self,Km] at hset;have hb:=lowB_int s[k];have HB:=Kb hb;have HN:=Kb hn;have HS:=Kb hset;have HBL:=Kb hbl;clear hb hn hset hbl hd hP hts;have hkk:(k:Int)<(s.size:Int):=by omega
 go_wp2
 ·go_roundw
  case rel=>
   refine ⟨k+1,by omega,by go_num,?_,hbw.setCell lr _⟩
   rw [HN.out,Jj,Xa]
   have e:=HB.out.1 (by omega) (by omega)
   have e2:((lowB s[k]).toNat:Int)=(s[k].toNat:Int)+97 - 65:=by
    rw [<-e,show ((s[k].toNat:Int)+32).toNat=s[k].toNat+32 by omega,UInt8.toNat_ofNat']
    omega
   have:=HS.out
   rwa [e2] at this
  case measure=>simp [intOf];omega
 all_goals
  go_roundw;case rel=>refine ⟨k+1,by omega,by go_num,?_,hbw⟩;have e:=HB.out.2 (by omega);rw [byte_ofNat] at e;rw [HN.out,Jj,Xa,<-e];exact HBL.out
  case measure=>simp [intOf];omega
 ):p:=h
theorem N22{p:Prop}(h:p:=by
 rw [drop_end s k (by omega),Je,Zb (by simp;omega)] at hbl;have hcv2:=run_convert_bytes_back (P:=Tryz.prog) wr 68 9 5 ⟨w.heap.size,0,none⟩ cap (lowL s.data.toList) Tryz.underlying68 Tryz.underlying5 Tryz.underlying9 (fun j hj=>by rw [show (⟨w.heap.size,0,none⟩:Addr).add j=⟨w.heap.size,j,none⟩ by cases j <;> simp [Addr.add]];exact hbl.cell j hj);have hll:(lowL s.data.toList).length=s.size:=by simp [lowL]
 obtain ⟨t,ht⟩:∃ t:ByteArray,(⟨(lowL s.data.toList).toArray⟩:ByteArray)=t:=⟨_,rfl⟩
 rw [hll,ht] at hcv2;have ht2:t.data.toList=lowL s.data.toList:=by rw [<-ht]
 have HT2:=Kb ht2;clear hbl hll ht ht2;go_wp2;go_ret
 exact ⟨t,rfl,HT2.out,hbw⟩
 ):p:=h
theorem lower_any (s:ByteArray)(w:World)(hs:s.size<=1000000):
 Calls Tryz.prog 66 #[.string s] w fun e w'=>∃ t:ByteArray,e = .returned (.string t)/\t.data.toList=lowL s.data.toList/\Below w.heap.size w w':=by
 obtain ⟨cap,w1,hcv,hby,hb1⟩:=conv_bytes w s;go_enter Tryz.func66,Tryz.ntmps66;go_wp2;go_loopw [10] (fun iv wr=>∃ (k:Nat),k<=s.size/\iv = .int .i64 k/\BytesAt wr w.heap.size (lowL (s.data.toList.take k) ++ s.data.toList.drop k)/\Below w.heap.size w wr) (fun iv _=>s.size - (intOf iv).toNat);case atStart=>exact ⟨0,Kh _,rfl,hby,hb1⟩
 case round=>
  obtain ⟨k,hk,rfl,hbl,hbw⟩:=hrel;clear hby hb1 hcv;by_cases hlt:k<s.size
  ·exact N17
  ·exact N22
def numB (b:UInt8):Bool:=digitB b || b == 46
def numericL (l:List UInt8):Bool:=l.all numB
def domL (h d:List UInt8):Bool:=!d.isEmpty && (h == d || (Lib.hasSuffix h (46 :: d) && !numericL h))
def pathL (p q:List UInt8):Bool:=p == q || (Lib.hasPrefix p q && (Lib.hasSuffix q [47] || (p.drop q.length).head? == some 47))
def befL (l:List UInt8):List UInt8:=((l.reverse.dropWhile (· != 47)).drop 1).reverse
def defpL (l:List UInt8):List UInt8:=if l.head? ≠ some 47\/befL l=[] then [47] else befL l
abbrev numCut:ByteArray:=⟨#[48,49,50,51,52,53,54,55,56,57,46]⟩
theorem trimcs_any (s cs:ByteArray)(w:World)(hs:s.size<=1000000)(hcs:cs.size<=1000)(ha:cs.data.toList.all (fun b=>decide (b.toNat<128))=true):
 Calls Tryz.prog 134 #[.string s,.string cs] w fun e w'=>e = .returned (.string ⟨(Lib.trimS s.data.toList cs.data.toList).toArray⟩)/\Below w.heap.size w w':=
 Any.strings_Trim_laid Tryz.lays160 (by kernel_rfl) s cs w (by omega) (by omega) (ascii_of_all ha)
theorem dropW_nil {p:UInt8->Bool}(l:List UInt8):l.dropWhile p=[] ↔ l.all p=true:=by
 induction l with
 | nil=>simp
 | cons b l ih=>
   rw [Ze,Zz]
   cases h:p b with
   | true=>simp [ih]
   | false=>simp
theorem trimS_nil (l cs:List UInt8):Lib.trimS l cs=[] ↔ l.all (cs.contains ·)=true:=by
 unfold Lib.trimS Lib.trimLeftS Lib.trimRightS;rw [dropW_nil,List.all_reverse];constructor
 ·intro h;have h2:l.reverse.dropWhile (cs.contains ·)=[]:=by
   cases e:l.reverse.dropWhile (cs.contains ·) with
   | nil=>rfl
   | cons b r=>
     have:=List.head?_dropWhile_not (p:=(cs.contains ·)) (l:=l.reverse)
     rw [e] at this h
     simp at this h
     exact absurd h.1 this
  rw [dropW_nil,List.all_reverse] at h2;exact h2
 ·intro h;have:l.reverse.dropWhile (cs.contains ·)=[]:=by rw [dropW_nil,List.all_reverse];exact h
  rw [this];rfl
theorem numB_in:∀ b:UInt8,numCut.data.toList.contains b=numB b:=by
 have:∀ n:Fin 256,numCut.data.toList.contains (UInt8.ofNat n.1)=numB (UInt8.ofNat n.1):=by decide +kernel
 intro b;have h:=this ⟨b.toNat,b.toNat_lt⟩;simpa using h
theorem trimS_num (l:List UInt8):(Lib.trimS l numCut.data.toList).isEmpty=numericL l:=by rw [Zm,Zv,trimS_nil];unfold numericL;rw [show (fun b=>numCut.data.toList.contains b)=numB from funext numB_in]
theorem dot_app (d:ByteArray):((⟨#[46]⟩:ByteArray) ++ d).data.toList=46 :: d.data.toList:=by rw [app_list];rfl
theorem domL_nil (h:List UInt8):domL h []=false:=rfl
theorem domL_ne (h d:List UInt8)(hd:d≠[]):domL h d=(h == d || (Lib.hasSuffix h (46 :: d) && !numericL h)):=by
 unfold domL
 cases d with
 | nil=>exact absurd rfl hd
 | cons b r=>rfl
theorem list_ne' {s:ByteArray}(h:¬ s.size=0):s.data.toList≠[]:=fun e=>h (by rw [<-size_len,e];rfl)
theorem list_nil' {s:ByteArray}(h:s.size=0):s.data.toList=[]:=Ja (by rw [size_len];exact h)
theorem beq_lists (a b:ByteArray):(a.toList == b.toList)=(a.data.toList == b.data.toList):=by rw [Kt,Kt]
theorem dom_any (h d:ByteArray)(w:World)(hh:h.size<=1000000)(hd:d.size<=1000000):
 Calls Tryz.prog 83 #[.string h,.string d] w fun e w'=>e = .returned (.bool (domL h.data.toList d.data.toList))/\Below w.heap.size w w':=by
 by_cases h0:d.size=0
 ·rw [list_nil' h0,domL_nil];have hE:=empty_of d h0;clear h0;go_enter Tryz.func83,Tryz.ntmps83;go_wp2_with fail;go_ret;exact ⟨rfl,Kc _⟩
 ·have hE:=nonempty_of d (by omega);rw [domL_ne _ _ (list_ne' h0),<-beq_lists];obtain ⟨A,hA⟩:=Ka (h.toList == d.toList);have cS:=fun w=>Tryz.strings_HasSuffix h (⟨#[46]⟩ ++ d) w (by omega);rw [dot_app] at cS;obtain ⟨S,hS⟩:=Ka (Lib.hasSuffix h.data.toList (46 :: d.data.toList));have cT:=fun w=>trimcs_any h numCut w hh (by decide) (by decide);obtain ⟨T,hT⟩:∃ T:ByteArray,⟨(Lib.trimS h.data.toList numCut.data.toList).toArray⟩=T:=⟨_,rfl⟩
  have hN:=trimS_num h.data.toList;have hTl:T.toList=Lib.trimS h.data.toList numCut.data.toList:=by rw [Kt,<-hT]
  rw [<-hTl] at hN;obtain ⟨N,hN2⟩:=Ka (numericL h.data.toList);rw [hS,hN2,hA];rw [hS] at cS;rw [hT] at cT;rw [hN2] at hN;have CS:=Kb cS;have CT:=Kb cT;clear cS cT hT hTl hS hN2 h0;cases A
  ·cases S
   ·go_enter Tryz.func83,Tryz.ntmps83;go_wp2_with (with_reducible refine (CS.out _).mono ?_;rintro e w' ⟨rfl,rfl⟩)
    go_ret;exact ⟨rfl,Kc _⟩
   ·cases N
    all_goals
     go_enter Tryz.func83,Tryz.ntmps83;go_wp2_with (first | (with_reducible refine (CS.out _).mono ?_;rintro e w' ⟨rfl,rfl⟩) | (with_reducible refine (CT.out _).mono ?_;rintro e w1 ⟨rfl,hb1⟩))
     go_ret;exact ⟨rfl,hb1⟩
  ·go_enter Tryz.func83,Tryz.ntmps83;go_wp2_with fail;go_ret;exact ⟨rfl,Kc _⟩
theorem pathL_eq (p:List UInt8):pathL p p=true:=by simp [pathL]
theorem pathL_ne (p q:List UInt8)(h:p≠q):pathL p q=(Lib.hasPrefix p q && (Lib.hasSuffix q [47] || (p.drop q.length).head? == some 47)):=by unfold pathL;rw [Ki.2 h];rfl
theorem ba_ext' {a b:ByteArray}(h:a.data.toList=b.data.toList):a=b:=by cases a;cases b;congr 1;exact Array.toList_inj.1 h
theorem hasPrefix_drop {p q:List UInt8}(h:Lib.hasPrefix p q=true):p=q ++ p.drop q.length:=by unfold Lib.hasPrefix at h;rw [List.isPrefixOf_iff_prefix] at h;obtain ⟨r,rfl⟩:=h;simp
theorem path_len {p q:ByteArray}(h:Lib.hasPrefix p.data.toList q.data.toList=true)(hne:p.data.toList≠q.data.toList):q.size<p.size:=by
 have h1:=hasPrefix_drop h;have h2:=Kq List.length h1;rw [Kw,size_len,size_len] at h2;rcases Zn q.size p.size with h3 | h3
 ·exact h3
 ·exfalso;apply hne;rw [h1,Ja (l:=p.data.toList.drop q.data.toList.length) (by rw [Jy,size_len,size_len];omega),Je]
theorem head_drop (p:ByteArray)(n:Nat)(h:n<p.size):((p.data.toList.drop n).head? == some 47)=((p[n].toNat:Int) == 47):=by rw [drop_at p n h];simp only [List.head?_cons];rw [Zm,Ju,Ju,Option.some_inj];exact ⟨fun e=>by rw [e];rfl,fun e=>UInt8.toNat_inj.1 (by have:(47:UInt8).toNat=47:=rfl;omega)⟩
theorem path_any (p q:ByteArray)(w:World)(hp:p.size<=1000000)(hq:q.size<=1000000):
 Calls Tryz.prog 85 #[.string p,.string q] w fun e w'=>e = .returned (.bool (pathL p.data.toList q.data.toList))/\w=w':=by
 have cP:=fun w=>Tryz.strings_CutPrefix p q w;have cS:=fun w=>Tryz.strings_HasSuffix q ⟨#[47]⟩ w (by omega);obtain ⟨T,hT⟩:∃ T:ByteArray,⟨(Lib.trimPrefix p.data.toList q.data.toList).toArray⟩=T:=⟨_,rfl⟩
 rw [hT] at cP;by_cases h0:p.data.toList=q.data.toList
 ·obtain rfl:=ba_ext' h0;rw [pathL_eq];have h1:Lib.hasPrefix p.data.toList p.data.toList=true:=by unfold Lib.hasPrefix;rw [List.isPrefixOf_iff_prefix];exact List.prefix_refl _
  have hE:T.toList.isEmpty=true:=by rw [Kt,<-hT,Zv];unfold Lib.trimPrefix;rw [Kf h1];simp
  rw [h1] at cP;have CP:=Kb cP;clear cP h0 hT cS h1;go_enter Tryz.func85,Tryz.ntmps85;go_wp2_with (with_reducible refine (CP.out _).mono ?_;rintro e w' ⟨rfl,rfl⟩)
  go_ret;exact ⟨rfl,rfl⟩
 ·rw [pathL_ne _ _ h0];obtain ⟨A,hA⟩:=Ka (Lib.hasPrefix p.data.toList q.data.toList);obtain ⟨B,hB⟩:=Ka (Lib.hasSuffix q.data.toList [47]);rw [show (⟨#[47]⟩:ByteArray).data.toList=[47] from rfl,hB] at cS;rw [hA] at cP;rw [hA,hB];have CS:=Kb cS;have CP:=Kb cP;clear cS cP;cases A
  ·clear hA hB h0 hT;go_enter Tryz.func85,Tryz.ntmps85;go_wp2_with (with_reducible refine (CP.out _).mono ?_;rintro e w' ⟨rfl,rfl⟩)
   go_ret;exact ⟨rfl,rfl⟩
  ·have hl:=path_len hA h0;have hTl:T.data.toList=p.data.toList.drop q.data.toList.length:=by rw [<-hT];show (Lib.trimPrefix p.data.toList q.data.toList)=_;unfold Lib.trimPrefix;rw [Kf hA]
   have hTs:0<T.size:=by rw [<-size_len,hTl,Jy,size_len,size_len];omega
   have hE:=nonempty_of T hTs;have hh:((p.data.toList.drop q.data.toList.length).head? == some 47)=((T[0].toNat:Int) == 47):=by
    rw [<-hTl]
    have:=head_drop T 0 hTs
    rwa [List.drop_zero] at this
   rw [hh];have hTi:(0:Int)<T.size:=by omega
   clear hA hB h0 hh hT hTl;cases B
   all_goals
    go_enter Tryz.func85,Tryz.ntmps85;go_wp2_with (first | (with_reducible refine (CP.out _).mono ?_;rintro e w' ⟨rfl,rfl⟩) | (with_reducible refine (CS.out _).mono ?_;rintro e w' ⟨rfl,rfl⟩))
    go_ret;exact ⟨ret_bool (by simp),rfl⟩
theorem bef_of (l:List UInt8)(i:Nat)(h:l[i]? = some 47)(hl:∀ j,i<j->l[j]? ≠ some 47):befL l=l.take i:=by
 have hi:i<l.length:=(Xi.1 h).1
 have e:l=l.take i ++ 47 :: l.drop (i+1):=by
  have:=(Xi.1 h).2
  rw [<-this,<-Zu hi,Jt]
 have hn:∀ b∈l.drop (i+1),(b != 47)=true:=fun b hb=>by
  obtain ⟨j,hj,rfl⟩:=Xe hb
  rw [List.getElem_drop,bne_iff_ne]
  intro e
  refine hl (i+1+j) (by omega) ?_
  rw [Jd (by rw [Jy] at hj;omega),e]
 unfold befL
 conv=>lhs;rw [e]
 rw [List.reverse_append,List.reverse_cons,Jj,List.dropWhile_append_of_pos (fun b hb=>hn b (List.mem_reverse.1 hb))]
 simp
theorem bef_none (l:List UInt8)(hl:∀ j:Nat,l[j]? ≠ some 47):befL l=[]:=by
 unfold befL;have:l.reverse.dropWhile (· != 47)=[]:=by rw [dropW_nil,List.all_reverse,Jv];intro b hb;obtain ⟨j,hj,rfl⟩:=Xe hb;rw [bne_iff_ne];intro e;exact hl j (by rw [Jd hj,e])
 rw [this];rfl
theorem at47 (s:ByteArray)(i:Nat):s.data.toList[i]? = some 47 ↔ i<s.size/\((s.data[i]!).toNat:Int)=47:=by
 constructor
 ·intro h;have h1:=Xi.1 h;obtain ⟨h2,h3⟩:=h1;have h4:i<s.size:=by rwa [size_len] at h2
  refine ⟨h4,?_⟩;rw [getElem!_pos s.data i h4];rw [Array.getElem_toList] at h3;rw [h3];rfl
 ·rintro ⟨h1,h2⟩;rw [Jd (by rw [size_len];exact h1)];rw [getElem!_pos s.data i h1] at h2;rw [Array.getElem_toList];congr 1;exact UInt8.toNat_inj.1 (by have:(47:UInt8).toNat=47:=rfl;omega)
theorem last47 (s:ByteArray):(Lib.lastIndexByte s 47 = -1/\∀ j:Nat,s.data.toList[j]? ≠ some 47)\/∃ i:Nat,i<s.size/\Lib.lastIndexByte s 47=i/\s.data.toList[i]? = some 47/\∀ j,i<j->s.data.toList[j]? ≠ some 47:=by
 rcases Lib.lastIndexByte_spec s 47 with ⟨h1,h2⟩ | ⟨i,h1,h2,h3,h4⟩
 ·refine .inl ⟨h1,fun j hj=>?_⟩;obtain ⟨a,b⟩:=(at47 s j).1 hj;exact h2 j a b
 ·refine .inr ⟨i,h1,h2,(at47 s i).2 ⟨h1,h3⟩,fun j hj hj2=>?_⟩;obtain ⟨a,b⟩:=(at47 s j).1 hj2;exact h4 j hj a b
theorem head47 (s:ByteArray)(h:0<s.size):s.data.toList.head? = some s[0]:=by rw [<-List.drop_zero (l:=s.data.toList),drop_at s 0 h];rfl
theorem defp_any (s:ByteArray)(w:World)(hs:s.size<=1000000):
 Calls Tryz.prog 172 #[.string s] w fun e w'=>∃ t:ByteArray,e = .returned (.string t)/\t.data.toList=defpL s.data.toList/\w=w':=by
 obtain ⟨R,hR⟩:=Ka (defpL s.data.toList);rw [hR];have cL:=fun w=>Tryz.strings_LastIndexByte s 47 (by omega) w;rcases last47 s with ⟨h1,h2⟩ | ⟨i,h1,h2,h3,h4⟩
 ·rw [h1] at cL;have CL:=Kb cL;have HR:=Kb (show [47]=R by rw [<-hR];unfold defpL;rw [bef_none _ h2,Kf (Or.inr rfl)]);clear cL h1 h2 hR;go_enter Tryz.func172,Tryz.ntmps172;go_wp2_with (with_reducible refine (CL.out _).mono ?_;rintro e w' ⟨rfl,rfl⟩)
  go_ret;exact ⟨_,rfl,HR.out,rfl⟩
 ·rw [h2] at cL;have CL:=Kb cL;have hb:=bef_of _ i h3 h4;have hp:(0:Nat)<s.size:=by omega
  have hpi:(0:Int)<s.size:=by omega
  have hhd:=head47 s hp;clear cL h2 h3 h4;by_cases hi:i=0
  ·subst hi;have HR:=Kb (show [47]=R by rw [<-hR];unfold defpL;rw [hb,Kf (Or.inr (by simp))]);clear hR hb hhd h1;go_enter Tryz.func172,Tryz.ntmps172;go_wp2_with (with_reducible refine (CL.out _).mono ?_;rintro e w' ⟨rfl,rfl⟩)
   go_ret;exact ⟨_,rfl,HR.out,rfl⟩
  ·have hii:(0:Int)<(i:Int):=by omega
   have hne:s.data.toList.take i≠[]:=fun e=>by have:=Kq List.length e;rw [Jk,size_len,Zg] at this;omega
   by_cases hz:(s[0].toNat:Int)=47
   ·have hz1:((s[0].toNat:Int) != 47)=false:=by simp [hz]
    have HR:=Kb (show s.data.toList.take i=R by
     rw [<-hR];unfold defpL;rw [hb,hhd,Ke (by
      rintro (h | h)
      ·exact h (by congr 1;exact UInt8.toNat_inj.1 (by have:(47:UInt8).toNat=47:=rfl;omega))
      ·exact hne h)])
    clear hR hb hhd hz hi;go_enter Tryz.func172,Tryz.ntmps172;go_wp2_with (with_reducible refine (CL.out _).mono ?_;rintro e w' ⟨rfl,rfl⟩)
    go_ret;exact ⟨_,rfl,by rw [<-HR.out,ext_from],rfl⟩
   ·have hz1:((s[0].toNat:Int) != 47)=true:=by simp [hz]
    have HR:=Kb (show [47]=R by rw [<-hR];unfold defpL;rw [hhd,Kf (.inl (fun h=>hz (by injection h with h;rw [h];rfl)))]);clear hR hb hhd hz hi;go_enter Tryz.func172,Tryz.ntmps172;go_wp2_with (with_reducible refine (CL.out _).mono ?_;rintro e w' ⟨rfl,rfl⟩)
    go_ret;exact ⟨_,rfl,HR.out,rfl⟩
def kstep (acc:List (List UInt8))(p:List UInt8):List (List UInt8):=if p=[46,46] then acc.dropLast else if p=[46] then acc else acc ++ [p]
def isDot (p:List UInt8):Bool:=p == [46] || p == [46,46]
def kpt (l:List (List UInt8))(k:Nat):List (List UInt8):=(l.take k).foldl kstep [] ++ (if k=l.length/\(l.getLast?.map isDot).getD false=true then [[]] else [])
def keptL (l:List (List UInt8)):List (List UInt8):=kpt l l.length
theorem kpt_zero (l:List (List UInt8)):kpt l 0=[]:=by
 unfold kpt
 cases l with
 | nil=>rfl
 | cons a b=>simp
theorem kpt_fold (l:List (List UInt8))(k:Nat)(h:k<l.length):kpt l k=(l.take k).foldl kstep []:=by unfold kpt;rw [Ke (by omega),Je]
theorem kpt_succ (l:List (List UInt8))(k:Nat)(h:k<l.length):kpt l (k+1)=kstep (kpt l k) l[k] ++ (if k+1=l.length/\isDot l[k]=true then [[]] else []):=by
 rw [kpt_fold l k h,kpt,Jf h,Xj];congr 1;by_cases hk:k+1=l.length
 ·have:l.getLast? = some l[k]:=by rw [List.getLast?_eq_getElem?,show l.length - 1=k by omega,Jd h]
  rw [this];rfl
 ·simp [hk]
theorem kstep_mem (acc:List (List UInt8))(p x:List UInt8)(h:x∈kstep acc p):x∈acc\/x=p:=by
 unfold kstep at h;split at h
 ·exact .inl (List.dropLast_subset _ h)
 ·split at h
  ·exact .inl h
  ·simpa using h
theorem fold_mem (l:List (List UInt8)):∀ (acc:List (List UInt8)) (x:List UInt8),x∈l.foldl kstep acc->x∈acc\/x∈l:=by
 induction l with
 | nil=>intro acc x h;exact .inl h
 | cons p r ih=>
   intro acc x h
   rcases ih _ x h with h | h
   ·rcases kstep_mem _ _ _ h with h | h
    ·exact .inl h
    ·exact .inr (by simp [h])
   ·exact .inr (Jg _ h)
theorem kpt_mem (l:List (List UInt8))(k:Nat)(x:List UInt8)(h:x∈kpt l k):x=[]\/x∈l:=by
 unfold kpt at h;rcases Kz.1 h with h | h
 ·rcases fold_mem _ _ _ h with h | h
  ·cases h
  ·exact .inr (Xk h)
 ·split at h
  ·exact .inl (by simpa using h)
  ·cases h
theorem segs_len (c:UInt8)(l:List UInt8):∀ p∈segs c l,p.length<=l.length:=by
 induction l with
 | nil=>intro p h;simp [segs] at h;simp [h]
 | cons b l ih=>
   intro p h
   unfold segs at h
   split at h
   ·rcases Ji.1 h with rfl | h
    ·simp
    ·have:=ih p h;simp;omega
   ·split at h
    ·next e=>exact absurd e (segs_ne c l)
    ·next q r e=>
     rcases Ji.1 h with rfl | h
     ·have:=ih q (by simp [e]);simp;omega
     ·have:=ih p (by simp [e,h]);simp;omega
theorem join_len (N:Nat):∀ xs:List (List UInt8),(∀ x∈xs,x.length<=N)->(Lib.join xs [47]).length<=xs.length * (N+1):=by
 intro xs
 induction xs with
 | nil=>intro _;simp [Lib.join_nil]
 | cons x r ih=>
   intro h
   have hx:=h x Jz
   have:=ih fun y hy=>h y (Jg _ hy)
   cases r with
   | nil=>rw [Lib.join_one];simp;omega
   | cons y r=>
     have e:Lib.join (x :: y :: r) [47]=x ++ 47 :: Lib.join (y :: r) [47]:=by simp [Lib.join,List.intercalate]
     have hl:(x :: y :: r).length=(y :: r).length+1:=rfl
     rw [e,Kw,Kv,hl,Nat.add_mul]
     omega
def outL (k:List (List UInt8)):List UInt8:=(k.map (47 :: ·)).flatten
def tailE (l:List (List UInt8)):List (List UInt8):=if l.head? = some [] then l.tail else l
theorem out_join:∀ xs:List (List UInt8),xs≠[]->47 :: Lib.join xs [47]=outL xs:=by
 intro xs
 induction xs with
 | nil=>intro h;exact absurd rfl h
 | cons x r ih=>
   intro _
   cases r with
   | nil=>rw [Lib.join_one];simp [outL]
   | cons y r=>
     have e:Lib.join (x :: y :: r) [47]=x ++ 47 :: Lib.join (y :: r) [47]:=by simp [Lib.join,List.intercalate]
     rw [e,ih (by simp)]
     simp [outL]
def cleanL (l:List UInt8):List UInt8:=if keptL (tailE (segs 47 l))=[] then [47] else outL (keptL (tailE (segs 47 l)))
theorem own_shape {w:World}{b e n:Nat}{v:Value}{xs:List Value}(h:w.ownsRow b e 1 v n xs):(v = .slice none 0 0/\n=0/\xs=[])\/∃ g cap,v = .slice (some ⟨g,0,none⟩) n cap/\n<=cap/\cap<=maxLen:=by
 rcases h.2 with ⟨rfl,rfl⟩ | ⟨g,cap,cur,rfl,hbg,hg,hnc,hcm,hcs,htake⟩
 ·exact .inl ⟨rfl,rfl,Ja (by simpa using h.1)⟩
 ·exact .inr ⟨g,cap,rfl,hnc,hcm⟩
theorem own_shrink {w:World}{b e n g cap:Nat}{xs:List Value}(h:w.ownsRow b e 1 (.slice (some ⟨g,0,none⟩) n cap) n xs)(m:Nat)(hm:m<=n):w.ownsRow b e 1 (.slice (some ⟨g,0,none⟩) m cap) m (xs.take m):=by
 have h1:=h.1;rcases h.2 with ⟨h0,_⟩ | ⟨g',cap',cur,hv,hbg,hg,hnc,hcm,hcs,htake⟩
 ·cases h0
 ·cases hv;refine ⟨by rw [Jk];omega,.inr ⟨g,cap,cur,rfl,hbg,hg,by omega,hcm,hcs,?_⟩⟩;rw [<-htake];simp [List.take_take,Zd hm]
def MaxAt (w:World):Prop:=∃ m,w.cell? ⟨0,0,none⟩=some (.int .i64 m)
theorem cell_lt {w:World}{b o:Nat}{v:Value}(h:w.cell? ⟨b,o,none⟩=some v):b<w.heap.size:=by
 unfold World.cell? at h;rcases Zn b w.heap.size with h1 | h1
 ·exact h1
 ·simp [Array.getElem?_eq_none h1] at h
theorem MaxAt.below {w w':World}{B:Nat}(h:MaxAt w)(hb:Below B w w')(hB:w.heap.size<=B):MaxAt w':=by obtain ⟨m,hm⟩:=h;exact ⟨m,(hb.cell (p:=⟨0,0,none⟩) (Ko (cell_lt hm) hB)).trans hm⟩
theorem toList_ne {p:ByteArray}{a:Array UInt8}(h:¬ p=⟨a⟩):p.data.toList≠a.toList:=fun e=>h (by cases p;congr 1;exact Array.toList_inj.1 e)
theorem kstep_other (acc:List (List UInt8))(p:ByteArray)(h1:¬ p=⟨#[46,46]⟩)(h2:¬ p=⟨#[46]⟩):kstep acc p.data.toList=acc ++ [p.data.toList]:=by rw [kstep,Ke (toList_ne h1),Ke (toList_ne h2)]
theorem notDot (p:ByteArray)(h1:¬ p=⟨#[46,46]⟩)(h2:¬ p=⟨#[46]⟩):isDot p.data.toList=false:=by have a:=toList_ne h1;have b:=toList_ne h2;unfold isDot;rw [Bool.or_eq_false_iff];exact ⟨by rw [Ki];exact b,by rw [Ki];exact a⟩
theorem segs_count (c:UInt8)(l:List UInt8):(segs c l).length<=l.length+1:=by
 induction l with
 | nil=>simp [segs]
 | cons b l ih=>
   unfold segs
   split
   ·simp;omega
   ·split
    ·simp
    ·next q r e=>rw [e] at ih;simp at ih ⊢;omega
theorem N19{p:Prop}(h:p:=by
 have HN:=Kb KN;clear KN HS;go_wp2_with (refine app2 slS _ rfl (.tmp 23) (.tmp 25) rfl (w.heap.size+1) _ _ _ rfl hown [_] 1 _ rfl rfl rfl (by intro u hu;simp at hu;subst hu;rfl) (by decide) (by omega) (by omega) (by omega) ?_;intro v2 w2 hA2 gA fA;have hB2:=below_own hbw hown gA (by omega) (by omega))
 go_roundw;case rel=>exact ⟨k+1,ks ++ [p],by (try simp only [Kv]);omega,by go_num,by simpa [strsV] using hA2,by rw [HN.out];simp [lists],by simp;omega,hB2⟩
 case measure=>simp [intOf];omega
 ):p:=h
theorem N28{p:Prop}(h:p:=by
 have h0b:((ks.length:Int) == 0)=false:=by rw [Ki];omega
 have hj:(Lib.join (ks.map (·.data.toList)) [47]).length<=140737488355328:=by have:=join_len 1000000 (lists ks) HM.out;have h2:(lists ks).length * (1000000+1)<=1000002 * (1000000+1):=Zq _ (by simp [lists];omega);exact Kg this (by omega)
 have cJ:=Tryz.strings_Join g 0 cap ks ⟨#[47]⟩ wr (fun j x hx=>by have:=hcl j (.string x) (by simp [strsV,hx]);simpa using this) hgs (by omega) hnc hj;obtain ⟨J,hJ⟩:∃ J:ByteArray,⟨(Lib.join (ks.map (·.data.toList)) [47]).toArray⟩=J:=⟨_,rfl⟩
 have hJl:J.data.toList=Lib.join (lists ks) [47]:=by rw [<-hJ];rfl
 have hJs:J.size<=140737488355328:=by rw [<-size_len,hJl];exact hj
 have HJ:=Kb hJl;replace cJ:=Kb (show Calls Tryz.prog 81 _ wr (fun e w'=>e = .returned (.string J)/\Below wr.heap.size wr w') from hJ ▸ cJ);clear hJ hJl;clear hcl hj;go_wp2_with (with_reducible refine cJ.out.mono ?_;rintro e w2 ⟨rfl,hb2⟩)
 go_ret;refine ⟨_,rfl,?_,Kd hbA hb2⟩;rw [<-HR2.out,Ke (fun h=>h0 (by simpa [lists] using Kq List.length h)),<-out_join _ (fun h=>h0 (by simpa [lists] using Kq List.length h)),app_list,HJ.out]
 rfl
 ):p:=h
theorem N39{p:Prop}(h:p:=by
 have hm0:(max ((ks.length:Int) - 1) 0).toNat=ks.length - 1:=by omega
 have hown2:=own_shrink hown (ks.length - 1) (by omega);go_wp2_with (refine app2 slS _ rfl (.tmp 42) (.tmp 43) rfl (w.heap.size+1) _ _ _ rfl hown2 [_] 1 _ rfl rfl rfl (by intro u hu;simp at hu;subst hu;rfl) (by decide) (by omega) (by omega) (by omega) ?_;intro v2 w2 hA2 gA fA;have hB2:=below_own hbw hown2 gA (by omega) (by omega))
 go_roundw;case rel=>exact ⟨k+1,ks.dropLast ++ [⟨#[]⟩],by (try simp only [Kv]);omega,by go_num,by rw [List.dropLast_eq_take];simpa [strsV] using hA2,by rw [HN.out];simp [lists],by simp;omega,hB2⟩
 case measure=>simp [intOf];omega
 ):p:=h
theorem N43{p:Prop}(h:p:=by
 obtain rfl:ks=[]:=Ja hk0;have hm0:(max (-1:Int) 0).toNat=0:=by decide
 have hown2:wr.ownsRow (w.heap.size+1) 9 1 (.slice none 0 0) 0 []:=World.ownsRow_nil _ _ _ _;go_wp2_with (refine app2 slS _ rfl (.tmp 42) (.tmp 43) rfl (w.heap.size+1) _ _ _ rfl hown2 [_] 1 _ rfl rfl rfl (by intro u hu;simp at hu;subst hu;rfl) (by decide) (by omega) (by omega) (by omega) ?_;intro v2 w2 hA2 gA fA;have hB2:=below_own hbw hown2 gA (by omega) (by omega))
 go_roundw;case rel=>exact ⟨k+1,[⟨#[]⟩],by (try simp only [Kv]);omega,by go_num,hA2,by rw [HN.out];rfl,by simp,hB2⟩
 case measure=>simp [intOf];omega
 ):p:=h
theorem N47{p:Prop}(h:p:=by
 have HN:=Kb KN;clear KN HS;go_wp2_with (refine app2 slS _ rfl (.tmp 42) (.tmp 43) rfl (w.heap.size+1) _ _ _ rfl hown [_] 1 _ rfl rfl rfl (by intro u hu;simp at hu;subst hu;rfl) (by decide) (by omega) (by omega) (by omega) ?_;intro v2 w2 hA2 gA fA;have hB2:=below_own hbw hown gA (by omega) (by omega))
 go_roundw;case rel=>exact ⟨k+1,ks ++ [⟨#[]⟩],by (try simp only [Kv]);omega,by go_num,by simpa [strsV] using hA2,by rw [HN.out];simp [lists],by simp;omega,hB2⟩
 case measure=>simp [intOf];omega
 ):p:=h
theorem N60{p:Prop}(h:p:=by
 have hm0:(max ((ks.length:Int) - 1) 0).toNat=ks.length - 1:=by omega
 have hown2:=own_shrink hown (ks.length - 1) (by omega);go_wp2_with fail;go_roundw;case rel=>exact ⟨k+1,ks.dropLast,by (try simp only [Kv]);omega,by go_num,by rw [List.dropLast_eq_take];simpa [strsV] using hown2,by rw [HN.out];simp [lists],by simp;omega,hbw⟩
 case measure=>simp [intOf];omega
 ):p:=h
theorem N68{p:Prop}(h:p:=by
 obtain rfl:ks=[]:=Ja hk0;have hm0:(max (-1:Int) 0).toNat=0:=by decide
 go_wp2_with fail;go_roundw;case rel=>exact ⟨k+1,[],by (try simp only [Kv]);omega,by go_num,World.ownsRow_nil _ _ _ _,by rw [HN.out];rfl,by simp,hbw⟩
 case measure=>simp [intOf];omega
 ):p:=h
theorem N73{p:Prop}(h:p:=by
 have HN:=Kb KN;clear KN HS;go_wp2_with fail;go_roundw;case rel=>exact ⟨k+1,ks,by (try simp only [Kv]);omega,by go_num,hown,by rw [HN.out],by omega,hbw⟩
 case measure=>simp [intOf];omega
 ):p:=h
theorem M8{p:Prop}(h:p:=by
 have hmem:∀ x∈lists ks,x.length<=1000000:=fun x hx=>by
  rw [hK2] at hx;rcases kpt_mem _ _ _ hx with rfl | h
  ·simp
  ·exact HQ.out x h
 have hR2:=HR.out;rw [<-hK2] at hR2;have HM:=Kb hmem;have HR2:=Kb hR2;obtain ⟨a,cap,rfl,hnc,hcm,hc⟩:=own_reads hown;clear hks hK2 hmem hR2 hown;have hbA:Below w.heap.size w wr:=hAB.trans (hbw.mono (by omega));try simp only [Kv] at hk hkl hlt
 by_cases h0:ks.length=0
 ·obtain rfl:ks=[]:=Ja h0;go_wp2_with fail;go_ret;exact ⟨_,rfl,by rw [<-HR2.out];rfl,hbA⟩
 ·rcases hc with ⟨rfl,h⟩ | ⟨g,rfl,hbg,hgs,hcl⟩
  ·exact absurd h h0
  ·exact N28
 ):p:=h
theorem M20{p:Prop}(h:p:=by
 have h2b:(p.toList == [46])=false:=by rw [Ki,Kt];exact toList_ne h2
 have KN:kpt (lists ps) (k+1)=lists ks ++ [p.data.toList]:=by rw [HS.out,kstep_other _ _ h1 h2,notDot _ h1 h2];simp
 exact N19
 ):p:=h
theorem M32{p:Prop}(h:p:=by
 have HN:=Kb KN;clear KN HS;rcases own_shape hown with ⟨rfl,hk0,hx0⟩ | ⟨g,cap,rfl,hcap,hcm⟩
 ·exact N43
 ·exact N39
 ):p:=h
theorem M33{p:Prop}(h:p:=by
 have HN:=Kb KN;clear KN HS;rcases own_shape hown with ⟨rfl,hk0,hx0⟩ | ⟨g,cap,rfl,hcap,hcm⟩
 ·exact N68
 ·exact N60
 ):p:=h
theorem cleanA (s:ByteArray)(w:World)(p0:ByteArray)(ps:List ByteArray)(hlen:ps.length<=1000000)(hq:∀ p∈lists ps,p.length<=1000000)(hE:p0.toList.isEmpty=true)(hne:ps≠[])
 (cS:Calls Tryz.prog 115 #[.string s,.string ⟨#[47]⟩] w fun e w'=>e = .returned (.slice (some ⟨w.heap.size,0,none⟩) (p0 :: ps).length (p0 :: ps).length)/\w'=w.alloc (.cells ((p0 :: ps).map Value.string).toArray 9)) :
 Calls Tryz.prog 67 #[.string s] w fun e w'=>∃ t:ByteArray,e = .returned (.string t)/\t.data.toList=(if keptL (lists ps)=[] then [47] else outL (keptL (lists ps)))/\Below w.heap.size w w':=by
 have S:=Kb cS;have HQ:=Kb hq;obtain ⟨R,hR⟩:=Ka (if keptL (lists ps)=[] then [47] else outL (keptL (lists ps)));rw [hR];have HR:=Kb hR;clear cS hq hR;go_enter Tryz.func67,Tryz.ntmps67;go_wp2_with (with_reducible refine S.out.mono ?_;rintro e w1 ⟨rfl,rfl⟩)
 obtain ⟨wA,hwA⟩:=Ka (w.alloc (.cells ((p0 :: ps).map Value.string).toArray 9));have hA:wA.heap.size=w.heap.size+1:=by rw [<-hwA];simp
 have hAB:Below w.heap.size w wA:=by rw [<-hwA];exact (Kc w).alloc lr _
 have hcell:∀ j (h:j<(ps).length),wA.cell? ⟨w.heap.size,1+j,none⟩=some (.string (ps)[j]):=fun j h=>by
  rw [<-hwA]
  have:=cells_new w ((p0 :: ps).map Value.string) 9 (1+j) (.string (ps)[j]) (by first | (rw [Jm,Zh,Jd h];rfl) | (rw [Nat.add_comm,Jw,Xl,Zh,Jd h];rfl))
  rwa [show (⟨w.heap.size,0,none⟩:Addr).add (1+j)=⟨w.heap.size,1+j,none⟩ by unfold Addr.add;split <;> simp_all] at this
 simp only [Jw] at hwA;rw [hwA];clear hwA;have hB1:w.heap.size+1<=wA.heap.size:=by omega
 go_loopw [4,17] (fun v iv wr=>∃ (k:Nat) (ks:List ByteArray),k<=(ps).length/\iv = .int .i64 k/\wr.ownsRow (w.heap.size+1) 9 1 v ks.length (strsV ks)/\lists ks=kpt (lists ps) k/\ks.length<=k+1/\Below (w.heap.size+1) wA wr) (fun _ iv _=>(ps).length - (intOf iv).toNat);case atStart=>exact ⟨0,[],Kh _,rfl,World.ownsRow_nil _ _ _ _,by rw [kpt_zero];rfl,Kh _,Kc _⟩
 case round=>
  obtain ⟨k,ks,hk,rfl,hown,hks,hkl,hbw⟩:=hrel;have hwz:=hbw.size;by_cases hlt:k<(ps).length
  ·have c0:=(hbw.cell (p:=⟨w.heap.size,1+k,none⟩) (Nat.lt_succ_self _)).trans (hcell k hlt);obtain ⟨p,hp⟩:=Ka ((ps)[k]);have hsu:=kpt_succ (lists ps) k (by simpa [lists] using hlt);have hpe:(lists ps)[k]'(by simpa [lists] using hlt)=p.data.toList:=by simp only [lists,List.getElem_map,hp]
   have hll:(lists ps).length=(ps).length:=by simp [lists]
   rw [hpe,<-hks,hll] at hsu;rw [hp] at c0;have HS:=Kb hsu;have HK:=Kb hks;clear hsu hpe hp hll hks;by_cases hl:k+1=(ps).length
   ·have hlb:((k:Int) == ((ps.length:Int)-1))=true:=by (try simp only [Kv] at hl ⊢);rw [Ju];omega
    try simp only [Kv,Jm] at hlt c0 hk hl
    by_cases h1:p=⟨#[46,46]⟩
    ·subst h1;have KN:kpt (lists ps) (k+1)=(lists ks).dropLast ++ [[]]:=by rw [HS.out,Kf ⟨hl,rfl⟩];rfl
     exact M32
    ·have h1b:(p.toList == [46,46])=false:=by rw [Ki,Kt];exact toList_ne h1
     by_cases h2:p=⟨#[46]⟩
     ·subst h2;have KN:kpt (lists ps) (k+1)=lists ks ++ [[]]:=by rw [HS.out,Kf ⟨hl,rfl⟩];rfl
      exact N47
     ·exact M20
   ·have hlb:((k:Int) == ((ps.length:Int)-1))=false:=by (try simp only [Kv] at hl hlt ⊢);rw [Ki];omega
    try simp only [Kv,Jm] at hlt c0 hk hl
    by_cases h1:p=⟨#[46,46]⟩
    ·subst h1;have KN:kpt (lists ps) (k+1)=(lists ks).dropLast:=by rw [HS.out,Ke fun h=>hl h.1,Je];rfl
     exact M33
    ·have h1b:(p.toList == [46,46])=false:=by rw [Ki,Kt];exact toList_ne h1
     by_cases h2:p=⟨#[46]⟩
     ·subst h2;have KN:kpt (lists ps) (k+1)=lists ks:=by rw [HS.out,Ke fun h=>hl h.1,Je];rfl
      exact N73
     ·exact M20
  ·have hkk:k=(ps).length:=by omega
   subst hkk;have hK2:lists ks=keptL (lists ps):=by rw [hks,keptL];simp [lists]
   exact M8
theorem M19{p:Prop}(h:p:=by
 have h2b:(p.toList == [46])=false:=by rw [Ki,Kt];exact toList_ne h2
 have KN:kpt (lists (p0::ps)) (k+1)=lists ks ++ [p.data.toList]:=by rw [HS.out,kstep_other _ _ h1 h2,notDot _ h1 h2];simp
 exact N19
 ):p:=h
theorem cleanB (s:ByteArray)(w:World)(p0:ByteArray)(ps:List ByteArray)(hlen:ps.length<=1000000)(hq:∀ p∈lists (p0::ps),p.length<=1000000)(hE:p0.toList.isEmpty=false)(hne:True)
 (cS:Calls Tryz.prog 115 #[.string s,.string ⟨#[47]⟩] w fun e w'=>e = .returned (.slice (some ⟨w.heap.size,0,none⟩) (p0 :: ps).length (p0 :: ps).length)/\w'=w.alloc (.cells ((p0 :: ps).map Value.string).toArray 9)) :
 Calls Tryz.prog 67 #[.string s] w fun e w'=>∃ t:ByteArray,e = .returned (.string t)/\t.data.toList=(if keptL (lists (p0::ps))=[] then [47] else outL (keptL (lists (p0::ps))))/\Below w.heap.size w w':=by
 have S:=Kb cS;have HQ:=Kb hq;obtain ⟨R,hR⟩:=Ka (if keptL (lists (p0::ps))=[] then [47] else outL (keptL (lists (p0::ps))));rw [hR];have HR:=Kb hR;clear cS hq hR;go_enter Tryz.func67,Tryz.ntmps67;go_wp2_with (with_reducible refine S.out.mono ?_;rintro e w1 ⟨rfl,rfl⟩)
 obtain ⟨wA,hwA⟩:=Ka (w.alloc (.cells ((p0 :: ps).map Value.string).toArray 9));have hA:wA.heap.size=w.heap.size+1:=by rw [<-hwA];simp
 have hAB:Below w.heap.size w wA:=by rw [<-hwA];exact (Kc w).alloc lr _
 have hcell:∀ j (h:j<((p0::ps)).length),wA.cell? ⟨w.heap.size,0+j,none⟩=some (.string ((p0::ps))[j]):=fun j h=>by
  rw [<-hwA]
  have:=cells_new w ((p0 :: ps).map Value.string) 9 (0+j) (.string ((p0::ps))[j]) (by first | (rw [Jm,Zh,Jd h];rfl) | (rw [Nat.add_comm,Jw,Xl,Zh,Jd h];rfl))
  rwa [show (⟨w.heap.size,0,none⟩:Addr).add (0+j)=⟨w.heap.size,0+j,none⟩ by unfold Addr.add;split <;> simp_all] at this
 simp only [Jw] at hwA;rw [hwA];clear hwA;have hB1:w.heap.size+1<=wA.heap.size:=by omega
 go_loopw [4,17] (fun v iv wr=>∃ (k:Nat) (ks:List ByteArray),k<=((p0::ps)).length/\iv = .int .i64 k/\wr.ownsRow (w.heap.size+1) 9 1 v ks.length (strsV ks)/\lists ks=kpt (lists (p0::ps)) k/\ks.length<=k+1/\Below (w.heap.size+1) wA wr) (fun _ iv _=>((p0::ps)).length - (intOf iv).toNat);case atStart=>exact ⟨0,[],Kh _,rfl,World.ownsRow_nil _ _ _ _,by rw [kpt_zero];rfl,Kh _,Kc _⟩
 case round=>
  obtain ⟨k,ks,hk,rfl,hown,hks,hkl,hbw⟩:=hrel;have hwz:=hbw.size;by_cases hlt:k<((p0::ps)).length
  ·have c0:=(hbw.cell (p:=⟨w.heap.size,0+k,none⟩) (Nat.lt_succ_self _)).trans (hcell k hlt);obtain ⟨p,hp⟩:=Ka (((p0::ps))[k]);have hsu:=kpt_succ (lists (p0::ps)) k (by simpa [lists] using hlt);have hpe:(lists (p0::ps))[k]'(by simpa [lists] using hlt)=p.data.toList:=by simp only [lists,List.getElem_map,hp]
   have hll:(lists (p0::ps)).length=((p0::ps)).length:=by simp [lists]
   rw [hpe,<-hks,hll] at hsu;rw [hp] at c0;have HS:=Kb hsu;have HK:=Kb hks;clear hsu hpe hp hll hks;by_cases hl:k+1=((p0::ps)).length
   ·have hlb:((k:Int) == (ps.length:Int))=true:=by (try simp only [Kv] at hl ⊢);rw [Ju];omega
    try simp only [Kv,Jm] at hlt c0 hk hl
    by_cases h1:p=⟨#[46,46]⟩
    ·subst h1;have KN:kpt (lists (p0::ps)) (k+1)=(lists ks).dropLast ++ [[]]:=by rw [HS.out,Kf ⟨hl,rfl⟩];rfl
     exact M32
    ·have h1b:(p.toList == [46,46])=false:=by rw [Ki,Kt];exact toList_ne h1
     by_cases h2:p=⟨#[46]⟩
     ·subst h2;have KN:kpt (lists (p0::ps)) (k+1)=lists ks ++ [[]]:=by rw [HS.out,Kf ⟨hl,rfl⟩];rfl
      exact N47
     ·exact M19
   ·have hlb:((k:Int) == (ps.length:Int))=false:=by (try simp only [Kv] at hl hlt ⊢);rw [Ki];omega
    try simp only [Kv,Jm] at hlt c0 hk hl
    by_cases h1:p=⟨#[46,46]⟩
    ·subst h1;have KN:kpt (lists (p0::ps)) (k+1)=(lists ks).dropLast:=by rw [HS.out,Ke fun h=>hl h.1,Je];rfl
     exact M33
    ·have h1b:(p.toList == [46,46])=false:=by rw [Ki,Kt];exact toList_ne h1
     by_cases h2:p=⟨#[46]⟩
     ·subst h2;have KN:kpt (lists (p0::ps)) (k+1)=lists ks:=by rw [HS.out,Ke fun h=>hl h.1,Je];rfl
      exact N73
     ·exact M19
  ·have hkk:k=((p0::ps)).length:=by omega
   subst hkk;have hK2:lists ks=keptL (lists (p0::ps)):=by rw [hks,keptL];simp [lists]
   exact M8
theorem cleanZ (s:ByteArray)(w:World)(p0:ByteArray)(hE:p0.toList.isEmpty=true)
 (cS:Calls Tryz.prog 115 #[.string s,.string ⟨#[47]⟩] w fun e w'=>e = .returned (.slice (some ⟨w.heap.size,0,none⟩) [p0].length [p0].length)/\w'=w.alloc (.cells ([p0].map Value.string).toArray 9)) :
 Calls Tryz.prog 67 #[.string s] w fun e w'=>∃ t:ByteArray,e = .returned (.string t)/\t.data.toList=[47]/\Below w.heap.size w w':=by
 have S:=Kb cS;clear cS;go_enter Tryz.func67,Tryz.ntmps67;go_wp2_with (with_reducible refine S.out.mono ?_;rintro e w1 ⟨rfl,rfl⟩)
 obtain ⟨wA,hwA⟩:=Ka (w.alloc (.cells ([p0].map Value.string).toArray 9));have hAB:Below w.heap.size w wA:=by rw [<-hwA];exact (Kc w).alloc lr _
 simp only [Jw,Zt] at hwA;rw [hwA];clear hwA;go_loopw [4,17] (fun v iv wr=>v = .slice none 0 0/\iv = .int .i64 0/\Below w.heap.size w wr) (fun _ iv _=>0);case atStart=>exact ⟨rfl,rfl,hAB⟩
 case round=>obtain ⟨rfl,rfl,hbw⟩:=hrel;go_wp2_with fail;go_ret;exact ⟨_,rfl,rfl,hbw⟩
theorem clean_any (s:ByteArray)(w:World)(hs:s.size<=1000000)(hM:MaxAt w):
 Calls Tryz.prog 67 #[.string s] w fun e w'=>∃ t:ByteArray,e = .returned (.string t)/\t.data.toList=cleanL s.data.toList/\Below w.heap.size w w':=by
 obtain ⟨m,hm⟩:=hM
 have cS:=Tryz.strings_Split s ⟨#[47]⟩ m w (by omega) hm (by decide)
 have hsg:=split_segs 47 _ s rfl
 obtain ⟨l,hl⟩:=Ka (Lib.splitB ⟨#[47]⟩ 0 (Lib.countB s ⟨#[47]⟩) s)
 have hsl:=Lib.splitB_all ⟨#[47]⟩ (by decide) 0 (Lib.countB s ⟨#[47]⟩) s rfl
 rw [hl] at cS hsg hsl
 rw [<-hsl] at cS
 have hN:l.length<=1000001:=by
  have h1:=Kq List.length hsg
  rw [Za] at h1
  have h2:=segs_count 47 s.data.toList
  rw [size_len] at h2
  omega
 have hseg:lists l=segs 47 s.data.toList:=hsg
 have hmx:∀ p∈lists l,p.length<=1000000:=fun p hp=>by
  rw [hseg] at hp
  have:=segs_len 47 _ p hp
  rw [size_len] at this
  omega
 unfold cleanL
 rw [<-hseg]
 match l,cS,hN,hmx with
 | [],_,_,_=>exact absurd hseg.symm (segs_ne 47 _)
 | p0 :: ps, cS, hN, hmx =>
   simp only [Kv] at hN
   by_cases h0:p0.data.toList=[]
   ·have hE:p0.toList.isEmpty=true:=by rw [Zv,Kt];exact h0
    have ht:tailE (lists (p0 :: ps))=lists ps:=by simp [tailE,lists,h0]
    rw [ht]
    by_cases hp:ps=[]
    ·subst hp
     exact cleanZ s w p0 hE cS
    ·exact cleanA s w p0 ps (by omega) (fun p h=>hmx p (Jg _ h)) hE hp cS
   ·have hE:p0.toList.isEmpty=false:=by
     cases e:p0.toList.isEmpty with
     | false=>rfl
     | true=>rw [Zv,Kt] at e;exact absurd e h0
    have ht:tailE (lists (p0 :: ps))=lists (p0 :: ps):=by simp [tailE,lists,h0]
    rw [ht]
    exact cleanB s w p0 ps (by omega) hmx hE trivial cS
def clockI (now:Int):Int:=min (max now 0) 9007199254740992
theorem clock_bd (now:Int):0<=clockI now/\clockI now<=9007199254740992:=by unfold clockI;omega
theorem clock_any (x:Int)(w:World):Calls Tryz.prog 135 #[.int .i64 x] w fun e w'=>e = .returned (.int .i64 (clockI x))/\w=w':=by go_enter Tryz.func135,Tryz.ntmps135;go_wp2;go_ret;exact ⟨ret_int rfl,rfl⟩
def wsC (b:UInt8):Bool:=[32,9].contains b
def ldrop (l:List UInt8):List UInt8:=l.dropWhile wsC
def rdrop (l:List UInt8):List UInt8:=(l.reverse.dropWhile wsC).reverse
def trimC (l:List UInt8):List UInt8:=rdrop (ldrop l)
theorem rdrop_cons (b:UInt8)(l:List UInt8):rdrop (b :: l)=if rdrop l=[] then (if wsC b then [] else [b]) else b :: rdrop l:=by
 unfold rdrop;rw [List.reverse_cons,List.dropWhile_append];by_cases h:l.reverse.dropWhile wsC=[]
 ·rw [h];simp only [List.isEmpty_nil,if_true,List.reverse_nil];rw [Ze];cases wsC b <;> simp
 ·have h2:(l.reverse.dropWhile wsC).isEmpty=false:=by simpa using h
  rw [h2,Ke (by simp),Ke (by simpa using h)];simp
theorem trim_comm:∀ l:List UInt8,ldrop (rdrop l)=rdrop (ldrop l):=by
 intro l
 induction l with
 | nil=>rfl
 | cons b l ih=>
   have e:ldrop (b :: l)=if wsC b then ldrop l else b :: l:=by unfold ldrop;rw [Ze]
   rw [rdrop_cons,e]
   cases hb:wsC b with
   | true =>
     rw [Kf rfl,Kf rfl]
     by_cases h:rdrop l=[]
     ·rw [Kf h,<-ih,h]
     ·rw [Ke h]
      have e2:ldrop (b :: rdrop l)=ldrop (rdrop l):=by unfold ldrop;rw [Ze,Kf hb]
      rw [e2,ih]
   | false =>
     rw [Ke Bool.false_ne_true,Ke Bool.false_ne_true,rdrop_cons,hb,Ke Bool.false_ne_true]
     by_cases h:rdrop l=[]
     ·rw [Kf h]
      unfold ldrop;rw [Ze,Ke (by simp [hb])]
     ·rw [Ke h]
      unfold ldrop;rw [Ze,Ke (by simp [hb])]
theorem trimC_is (l:List UInt8):Lib.trimS l [32,9]=trimC l:=by show ldrop (rdrop l)=_;rw [trim_comm];rfl
theorem trimC_len (l:List UInt8):(trimC l).length<=l.length:=by unfold trimC rdrop ldrop;rw [Xm];have h1:=(Zw (p:=wsC) (l:=(l.dropWhile wsC).reverse)).length_le;have h2:=(Zw (p:=wsC) (l:=l)).length_le;rw [Xm] at h1;omega
theorem ctrim_is (s T:ByteArray)(w:World)(hs:s.size<=1000000)(hT:T.data.toList=trimC s.data.toList):
 Calls Tryz.prog 134 #[.string s,.string ⟨#[32,9]⟩] w fun e w'=>e = .returned (.string T)/\Below w.heap.size w w':=by refine (trimcs_any s ⟨#[32,9]⟩ w hs (by decide) (by decide)).mono ?_;rintro e w' ⟨rfl,h⟩;refine ⟨?_,h⟩;congr 2;exact ba_ext' (by rw [hT,<-trimC_is])
theorem pair_is (s N V:ByteArray)(F:Bool)(w:World)(hs:s.size<=1000000)(hM:MaxAt w)(hN:N.data.toList=trimC (pre 61 s.data.toList))(hV:V.data.toList=trimC (post 61 s.data.toList))(hF:s.data.toList.contains 61=F):
 Calls Tryz.prog 170 #[.string s] w fun e w'=>e = .returned (.tuple #[.string N,.string V,.bool F])/\Below w.heap.size w w':=by
 obtain ⟨m,hm⟩:=hM;have cC:=Tryz.strings_Cut s ⟨#[61]⟩ m w (by omega) hm;rw [show (⟨#[61]⟩:ByteArray).data.toList=[61] from rfl,cut_eq,hF] at cC;obtain ⟨A,hA⟩:∃ A:ByteArray,⟨(pre 61 s.data.toList).toArray⟩=A:=⟨_,rfl⟩
 obtain ⟨B,hB⟩:∃ B:ByteArray,⟨(post 61 s.data.toList).toArray⟩=B:=⟨_,rfl⟩
 have hA2:A.data.toList=pre 61 s.data.toList:=by rw [<-hA]
 have hB2:B.data.toList=post 61 s.data.toList:=by rw [<-hB]
 simp only [hA,hB] at cC;have l1:(pre 61 s.data.toList).length<=s.data.toList.length:=(List.takeWhile_sublist _).length_le;have l2:(post 61 s.data.toList).length<=s.data.toList.length:=by unfold post;rw [Jy];have:=(Zw (p:=(· != (61:UInt8))) (l:=s.data.toList)).length_le;omega
 rw [<-hA2,size_len,size_len] at l1;rw [<-hB2,size_len,size_len] at l2;have C1:=Kb (fun w=>ctrim_is A N w (by omega) (by rw [hA2];exact hN));have C2:=Kb (fun w=>ctrim_is B V w (by omega) (by rw [hB2];exact hV));have CC:=Kb cC;clear cC hA hB hA2 hB2 hN hV hF hm;go_enter Tryz.func170,Tryz.ntmps170
 go_wp2_with (first
  | (with_reducible refine CC.out.mono ?_;rintro e w' ⟨rfl,nn,rfl⟩)
  | (with_reducible refine (C1.out _).mono ?_;rintro e w1 ⟨rfl,hb1⟩)
  | (with_reducible refine (C2.out _).mono ?_;rintro e w2 ⟨rfl,hb2⟩))
 go_ret3;exact ⟨rfl,((below_drewN (Kc w) _).trans (hb1.mono (by simp))).trans (hb2.mono (by have:=hb1.size;simp at this;exact this))⟩
def ageF (n:Int)(b:UInt8):Int:=min (n * 10+((b.toNat:Int) - 48)) 1000000000
def ageL (l:List UInt8):Option Int:=
 if Lib.hasPrefix l [45]=true then (if l.drop 1≠[]/\(l.drop 1).all digitB=true then some 0 else none)
 else (if l≠[]/\l.all digitB=true then some (l.foldl ageF 0) else none)
theorem ageF_bd (n:Int)(b:UInt8)(h0:0<=n)(h:digitB b=true):0<=ageF n b/\ageF n b<=1000000000:=by simp only [digitB,digitI,Jb] at h;unfold ageF;omega
theorem foldl_age_bd:∀ (l:List UInt8)(n:Int) ,0<=n->n<=1000000000->l.all digitB=true->0<=l.foldl ageF n/\l.foldl ageF n<=1000000000:=by
 intro l
 induction l with
 | nil=>intro n h0 h1 _;exact ⟨h0,h1⟩
 | cons b l ih=>
   intro n h0 h1 h
   simp only [Zz,Jh] at h
   have:=ageF_bd n b h0 h.1
   exact ih _ this.1 this.2 h.2
theorem ageL_bd (l:List UInt8)(n:Int)(h:ageL l=some n):0<=n/\n<=1000000000:=by
 unfold ageL at h;split at h
 ·split at h
  ·injection h with h;omega
  ·cases h
 ·split at h
  ·next h2=>
   injection h with h;have:=foldl_age_bd l 0 (by omega) (by omega) h2.2;omega
  ·cases h
abbrev digCut:ByteArray:=⟨#[48,49,50,51,52,53,54,55,56,57]⟩
theorem digB_in:∀ b:UInt8,digCut.data.toList.contains b=digitB b:=by
 have:∀ n:Fin 256,digCut.data.toList.contains (UInt8.ofNat n.1)=digitB (UInt8.ofNat n.1):=by decide +kernel
 intro b;have h:=this ⟨b.toNat,b.toNat_lt⟩;simpa using h
theorem trimS_dig (l:List UInt8):(Lib.trimS l digCut.data.toList).isEmpty=l.all digitB:=by rw [Zm,Zv,trimS_nil];rw [show (fun b=>digCut.data.toList.contains b)=digitB from funext digB_in]
theorem take_snoc' (s:ByteArray)(k:Nat)(h:k<s.size):s.data.toList.take (k+1)=s.data.toList.take k ++ [s[k]]:=by rw [Jf (by simpa using h)];rfl
theorem dig_at {s:ByteArray}(h:s.data.toList.all digitB=true)(k:Nat)(hk:k<s.size):(48:Int)<=s[k].toNat/\(s[k].toNat:Int)<=57:=by have hm:s[k]∈s.data.toList:=List.drop_subset k _ (by rw [drop_at s k hk];exact Jz);have:=Jv.1 h _ hm;simp only [digitB,digitI,Jb] at this;exact this
theorem age_step (s:ByteArray)(k:Nat)(hk:k<s.size)(n:Int)(hn:(s.data.toList.take k).foldl ageF 0=n):(s.data.toList.take (k+1)).foldl ageF 0=min (n * 10+((s[k].toNat:Int) - 48)) 1000000000:=by rw [take_snoc' s k hk,Xj,hn];rfl
theorem age_some (s D:ByteArray)(mi:Bool)(R:Int)(hR:(if mi then 0 else D.data.toList.foldl ageF 0)=R)(w:World)(hs:s.size<=1000000)(hD:0<D.size)(hDs:D.size<=1000000)(hdig:D.data.toList.all digitB=true)
 (cP:∀ w,Calls Tryz.prog 63 #[.string s,.string ⟨#[45]⟩] w fun e w'=>e = .returned (.tuple #[.string D,.bool mi])/\w=w') :
 Calls Tryz.prog 174 #[.string s] w fun e w'=>e = .returned (.tuple #[.int .i64 R,.bool true])/\Below w.heap.size w w':=by
 have cT:=fun w=>trimcs_any D digCut w hDs (by decide) (by decide);obtain ⟨T,hT⟩:∃ T:ByteArray,⟨(Lib.trimS D.data.toList digCut.data.toList).toArray⟩=T:=⟨_,rfl⟩
 have hN:=trimS_dig D.data.toList;rw [hdig] at hN;have hTE:T.toList.isEmpty=true:=by rw [Kt,<-hT];exact hN
 rw [hT] at cT;have hE:=nonempty_of D hD;have CP:=Kb cP;have CT:=Kb cT;have HD:=Kb hdig;clear cP cT hT hN hdig;have HR:=Kb hR;clear hR;cases mi
 all_goals
  go_enter Tryz.func174,Tryz.ntmps174
  go_wp2_with (first
   | (with_reducible refine (CP.out _).mono ?_;rintro e w' ⟨rfl,rfl⟩)
   | (with_reducible refine (CT.out _).mono ?_;rintro e w1 ⟨rfl,hb1⟩))
  go_loop [6,22] (fun v i=>∃ (k:Nat) (n:Int),k<=D.size/\i = .int .i64 k/\v = .int .i64 n/\0<=n/\n<=1000000000/\(D.data.toList.take k).foldl ageF 0=n) (fun _ i=>D.size - (intOf i).toNat);case atStart=>exact ⟨0,0,Kh _,rfl,rfl,by omega,by omega,rfl⟩
  case round=>
   obtain ⟨k,n,hk,rfl,rfl,hn0,hn1,hf⟩:=hrel;by_cases hlt:k<D.size
   ·have hd:=dig_at HD.out k hlt;have hst:=age_step D k hlt n hf;have HS:=Kb hst;obtain ⟨hd1,hd2⟩:=hd;have hlti:(k:Int)<D.size:=by omega
    clear hf hst;go_wp2_with fail;go_round;case rel=>exact ⟨k+1,_,by omega,by go_num,rfl,by omega,by omega,HS.out.trans (by first | rfl | (congr 1 <;> omega))⟩
    case measure=>simp [intOf];omega
   ·obtain rfl:k=D.size:=by omega
    rw [Zb (by rw [size_len];exact lr)] at hf;have HF:=Kb hf;clear hf;go_wp2_with fail;go_ret2;exact ⟨by rw [<-HR.out];first | rfl | (simp only [Bool.false_eq_true,if_false];rw [HF.out];rfl),hb1⟩
theorem age_no (s D:ByteArray)(mi:Bool)(w:World)(hs:s.size<=1000000)(hDs:D.size<=1000000)(hdig:¬ (D.data.toList≠[]/\D.data.toList.all digitB=true))
 (cP:∀ w,Calls Tryz.prog 63 #[.string s,.string ⟨#[45]⟩] w fun e w'=>e = .returned (.tuple #[.string D,.bool mi])/\w=w') :
 Calls Tryz.prog 174 #[.string s] w fun e w'=>e = .returned (.tuple #[.int .i64 0,.bool false])/\Below w.heap.size w w':=by
 have CP:=Kb cP;clear cP;by_cases h0:D.size=0
 ·have hE:=empty_of D h0;clear hdig h0;go_enter Tryz.func174,Tryz.ntmps174;go_wp2_with (with_reducible refine (CP.out _).mono ?_;rintro e w' ⟨rfl,rfl⟩)
  go_ret2;exact ⟨rfl,Kc _⟩
 ·have hE:=nonempty_of D (by omega);have hd2:D.data.toList.all digitB=false:=by
   cases e:D.data.toList.all digitB with
   | false=>rfl
   | true=>exact absurd ⟨list_ne' h0,e⟩ hdig
  have cT:=fun w=>trimcs_any D digCut w hDs (by decide) (by decide);obtain ⟨T,hT⟩:∃ T:ByteArray,⟨(Lib.trimS D.data.toList digCut.data.toList).toArray⟩=T:=⟨_,rfl⟩
  have hN:=trimS_dig D.data.toList;rw [hd2] at hN;have hTE:T.toList.isEmpty=false:=by rw [Kt,<-hT];exact hN
  rw [hT] at cT;have CT:=Kb cT;clear cT hT hN hdig hd2 h0;go_enter Tryz.func174,Tryz.ntmps174
  go_wp2_with (first
   | (with_reducible refine (CP.out _).mono ?_;rintro e w' ⟨rfl,rfl⟩)
   | (with_reducible refine (CT.out _).mono ?_;rintro e w1 ⟨rfl,hb1⟩))
  go_ret2;exact ⟨rfl,hb1⟩
theorem cage_is (s:ByteArray)(o:Option Int)(ho:ageL s.data.toList=o)(w:World)(hs:s.size<=1000000):
 Calls Tryz.prog 174 #[.string s] w fun e w'=>e = .returned (.tuple #[.int .i64 (o.getD 0),.bool o.isSome])/\Below w.heap.size w w':=by
 obtain ⟨D,hD⟩:∃ D:ByteArray,⟨(Lib.trimPrefix s.data.toList [45]).toArray⟩=D:=⟨_,rfl⟩
 have cP:=fun w=>Tryz.strings_CutPrefix s ⟨#[45]⟩ w
 rw [show (⟨#[45]⟩:ByteArray).data.toList=[45] from rfl,hD] at cP
 have hDl:D.data.toList=Lib.trimPrefix s.data.toList [45]:=by rw [<-hD]
 have hDs:D.size<=1000000:=by
  rw [<-size_len,hDl]
  unfold Lib.trimPrefix
  have:=size_len s
  split
  ·rw [Jy];omega
  ·omega
 have cP2:=fun w=>(cP w).mono fun e w' ⟨h1,h2⟩=>(⟨h1,h2.symm⟩:_/\w=w')
 clear cP hD
 unfold ageL at ho
 cases hp:Lib.hasPrefix s.data.toList [45] with
 | true=>
   rw [hp] at ho cP2
   have hDl2:D.data.toList=s.data.toList.drop 1:=by rw [hDl];unfold Lib.trimPrefix;rw [Kf hp];rfl
   rw [Kf rfl,<-hDl2] at ho
   by_cases hc:D.data.toList≠[]/\D.data.toList.all digitB=true
   ·rw [Kf hc] at ho
    subst ho
    exact age_some s D true 0 rfl w hs (by rw [<-size_len];exact Xf.2 hc.1) hDs hc.2 cP2
   ·rw [Ke hc] at ho
    subst ho
    exact age_no s D true w hs hDs hc cP2
 | false=>
   rw [hp] at ho cP2
   have hDl2:D.data.toList=s.data.toList:=by rw [hDl];unfold Lib.trimPrefix;rw [Ke (by simp [hp])]
   rw [Ke Bool.false_ne_true,<-hDl2] at ho
   by_cases hc:D.data.toList≠[]/\D.data.toList.all digitB=true
   ·rw [Kf hc] at ho
    subst ho
    exact age_some s D false _ rfl w hs (by rw [<-size_len];exact Xf.2 hc.1) hDs hc.2 cP2
   ·rw [Ke hc] at ho
    subst ho
    exact age_no s D false w hs hDs hc cP2
def AtL (W:World)(k:Nat)(vs:List Value):Prop:=k<W.heap.size/\∀ j v,vs[j]? = some v->W.cell? ⟨k,j,none⟩=some v/\W.frozen? ⟨k,j,none⟩=false
theorem AtL.lt {W:World}{k:Nat}{vs:List Value}(h:AtL W k vs):k<W.heap.size:=h.1
theorem AtL.c {W:World}{k:Nat}{vs:List Value}(h:AtL W k vs)(j:Nat){v:Value}(hv:vs[j]? = some v):W.cell? ⟨k,j,none⟩=some v:=(h.2 j v hv).1
theorem AtL.f {W:World}{k:Nat}{vs:List Value}(h:AtL W k vs)(j:Nat){v:Value}(hv:vs[j]? = some v):W.frozen? ⟨k,j,none⟩=false:=(h.2 j v hv).2
theorem AtL.o3 {w:World}{k:Nat}{x0 x1 x2:Value}(h:AtL w k [x0,x1,x2]):w.cell? ⟨k,0,none⟩=some x0/\w.cell? ⟨k,1,none⟩=some x1/\w.cell? ⟨k,2,none⟩=some x2:=⟨h.c 0 rfl,h.c 1 rfl,h.c 2 rfl⟩
theorem AtL.o4 {w:World}{k:Nat}{x0 x1 x2 x3:Value}(h:AtL w k [x0,x1,x2,x3]):w.cell? ⟨k,0,none⟩=some x0/\w.cell? ⟨k,1,none⟩=some x1/\w.cell? ⟨k,2,none⟩=some x2/\w.cell? ⟨k,3,none⟩=some x3:=⟨h.c 0 rfl,h.c 1 rfl,h.c 2 rfl,h.c 3 rfl⟩
theorem AtL.o6 {w:World}{k:Nat}{x0 x1 x2 x3 x4 x5:Value}(h:AtL w k [x0,x1,x2,x3,x4,x5]):w.cell? ⟨k,0,none⟩=some x0/\w.cell? ⟨k,1,none⟩=some x1/\w.cell? ⟨k,2,none⟩=some x2/\w.cell? ⟨k,3,none⟩=some x3/\w.cell? ⟨k,4,none⟩=some x4/\w.cell? ⟨k,5,none⟩=some x5:=⟨h.c 0 rfl,h.c 1 rfl,h.c 2 rfl,h.c 3 rfl,h.c 4 rfl,h.c 5 rfl⟩
theorem AtL.o8 {w:World}{k:Nat}{x0 x1 x2 x3 x4 x5 x6 x7:Value}(h:AtL w k [x0,x1,x2,x3,x4,x5,x6,x7]):w.cell? ⟨k,0,none⟩=some x0/\w.cell? ⟨k,1,none⟩=some x1/\w.cell? ⟨k,2,none⟩=some x2/\w.cell? ⟨k,3,none⟩=some x3/\w.cell? ⟨k,4,none⟩=some x4/\w.cell? ⟨k,5,none⟩=some x5/\w.cell? ⟨k,6,none⟩=some x6/\w.cell? ⟨k,7,none⟩=some x7:=⟨h.c 0 rfl,h.c 1 rfl,h.c 2 rfl,h.c 3 rfl,h.c 4 rfl,h.c 5 rfl,h.c 6 rfl,h.c 7 rfl⟩
theorem AtL.o9 {w:World}{k:Nat}{x0 x1 x2 x3 x4 x5 x6 x7 x8:Value}(h:AtL w k [x0,x1,x2,x3,x4,x5,x6,x7,x8]):w.cell? ⟨k,0,none⟩=some x0/\w.cell? ⟨k,1,none⟩=some x1/\w.cell? ⟨k,2,none⟩=some x2/\w.cell? ⟨k,3,none⟩=some x3/\w.cell? ⟨k,4,none⟩=some x4/\w.cell? ⟨k,5,none⟩=some x5/\w.cell? ⟨k,6,none⟩=some x6/\w.cell? ⟨k,7,none⟩=some x7/\w.cell? ⟨k,8,none⟩=some x8:=⟨h.c 0 rfl,h.c 1 rfl,h.c 2 rfl,h.c 3 rfl,h.c 4 rfl,h.c 5 rfl,h.c 6 rfl,h.c 7 rfl,h.c 8 rfl⟩
theorem AtL.o23 {w:World}{k:Nat}{x0 x1 x2 x3 x4 x5 x6 x7 x8 x9 x10 x11 x12 x13 x14 x15 x16 x17 x18 x19 x20 x21 x22:Value}(h:AtL w k [x0,x1,x2,x3,x4,x5,x6,x7,x8,x9,x10,x11,x12,x13,x14,x15,x16,x17,x18,x19,x20,x21,x22]):w.cell? ⟨k,0,none⟩=some x0/\w.cell? ⟨k,1,none⟩=some x1/\w.cell? ⟨k,2,none⟩=some x2/\w.cell? ⟨k,3,none⟩=some x3/\w.cell? ⟨k,4,none⟩=some x4/\w.cell? ⟨k,5,none⟩=some x5/\w.cell? ⟨k,6,none⟩=some x6/\w.cell? ⟨k,7,none⟩=some x7/\w.cell? ⟨k,8,none⟩=some x8/\w.cell? ⟨k,9,none⟩=some x9/\w.cell? ⟨k,10,none⟩=some x10/\w.cell? ⟨k,11,none⟩=some x11/\w.cell? ⟨k,12,none⟩=some x12/\w.cell? ⟨k,13,none⟩=some x13/\w.cell? ⟨k,14,none⟩=some x14/\w.cell? ⟨k,15,none⟩=some x15/\w.cell? ⟨k,16,none⟩=some x16/\w.cell? ⟨k,17,none⟩=some x17/\w.cell? ⟨k,18,none⟩=some x18/\w.cell? ⟨k,19,none⟩=some x19/\w.cell? ⟨k,20,none⟩=some x20/\w.cell? ⟨k,21,none⟩=some x21/\w.cell? ⟨k,22,none⟩=some x22:=⟨h.c 0 rfl,h.c 1 rfl,h.c 2 rfl,h.c 3 rfl,h.c 4 rfl,h.c 5 rfl,h.c 6 rfl,h.c 7 rfl,h.c 8 rfl,h.c 9 rfl,h.c 10 rfl,h.c 11 rfl,h.c 12 rfl,h.c 13 rfl,h.c 14 rfl,h.c 15 rfl,h.c 16 rfl,h.c 17 rfl,h.c 18 rfl,h.c 19 rfl,h.c 20 rfl,h.c 21 rfl,h.c 22 rfl⟩
theorem AtL.of3 {w:World}{k:Nat}{x0 x1 x2:Value}(h:AtL w k [x0,x1,x2]):w.frozen? ⟨k,0,none⟩=false/\w.frozen? ⟨k,1,none⟩=false/\w.frozen? ⟨k,2,none⟩=false:=⟨h.f 0 rfl,h.f 1 rfl,h.f 2 rfl⟩
theorem AtL.of4 {w:World}{k:Nat}{x0 x1 x2 x3:Value}(h:AtL w k [x0,x1,x2,x3]):w.frozen? ⟨k,0,none⟩=false/\w.frozen? ⟨k,1,none⟩=false/\w.frozen? ⟨k,2,none⟩=false/\w.frozen? ⟨k,3,none⟩=false:=⟨h.f 0 rfl,h.f 1 rfl,h.f 2 rfl,h.f 3 rfl⟩
theorem AtL.of6 {w:World}{k:Nat}{x0 x1 x2 x3 x4 x5:Value}(h:AtL w k [x0,x1,x2,x3,x4,x5]):w.frozen? ⟨k,0,none⟩=false/\w.frozen? ⟨k,1,none⟩=false/\w.frozen? ⟨k,2,none⟩=false/\w.frozen? ⟨k,3,none⟩=false/\w.frozen? ⟨k,4,none⟩=false/\w.frozen? ⟨k,5,none⟩=false:=⟨h.f 0 rfl,h.f 1 rfl,h.f 2 rfl,h.f 3 rfl,h.f 4 rfl,h.f 5 rfl⟩
theorem AtL.of8 {w:World}{k:Nat}{x0 x1 x2 x3 x4 x5 x6 x7:Value}(h:AtL w k [x0,x1,x2,x3,x4,x5,x6,x7]):w.frozen? ⟨k,0,none⟩=false/\w.frozen? ⟨k,1,none⟩=false/\w.frozen? ⟨k,2,none⟩=false/\w.frozen? ⟨k,3,none⟩=false/\w.frozen? ⟨k,4,none⟩=false/\w.frozen? ⟨k,5,none⟩=false/\w.frozen? ⟨k,6,none⟩=false/\w.frozen? ⟨k,7,none⟩=false:=⟨h.f 0 rfl,h.f 1 rfl,h.f 2 rfl,h.f 3 rfl,h.f 4 rfl,h.f 5 rfl,h.f 6 rfl,h.f 7 rfl⟩
theorem AtL.of9 {w:World}{k:Nat}{x0 x1 x2 x3 x4 x5 x6 x7 x8:Value}(h:AtL w k [x0,x1,x2,x3,x4,x5,x6,x7,x8]):w.frozen? ⟨k,0,none⟩=false/\w.frozen? ⟨k,1,none⟩=false/\w.frozen? ⟨k,2,none⟩=false/\w.frozen? ⟨k,3,none⟩=false/\w.frozen? ⟨k,4,none⟩=false/\w.frozen? ⟨k,5,none⟩=false/\w.frozen? ⟨k,6,none⟩=false/\w.frozen? ⟨k,7,none⟩=false/\w.frozen? ⟨k,8,none⟩=false:=⟨h.f 0 rfl,h.f 1 rfl,h.f 2 rfl,h.f 3 rfl,h.f 4 rfl,h.f 5 rfl,h.f 6 rfl,h.f 7 rfl,h.f 8 rfl⟩
theorem AtL.of23 {w:World}{k:Nat}{x0 x1 x2 x3 x4 x5 x6 x7 x8 x9 x10 x11 x12 x13 x14 x15 x16 x17 x18 x19 x20 x21 x22:Value}(h:AtL w k [x0,x1,x2,x3,x4,x5,x6,x7,x8,x9,x10,x11,x12,x13,x14,x15,x16,x17,x18,x19,x20,x21,x22]):w.frozen? ⟨k,0,none⟩=false/\w.frozen? ⟨k,1,none⟩=false/\w.frozen? ⟨k,2,none⟩=false/\w.frozen? ⟨k,3,none⟩=false/\w.frozen? ⟨k,4,none⟩=false/\w.frozen? ⟨k,5,none⟩=false/\w.frozen? ⟨k,6,none⟩=false/\w.frozen? ⟨k,7,none⟩=false/\w.frozen? ⟨k,8,none⟩=false/\w.frozen? ⟨k,9,none⟩=false/\w.frozen? ⟨k,10,none⟩=false/\w.frozen? ⟨k,11,none⟩=false/\w.frozen? ⟨k,12,none⟩=false/\w.frozen? ⟨k,13,none⟩=false/\w.frozen? ⟨k,14,none⟩=false/\w.frozen? ⟨k,15,none⟩=false/\w.frozen? ⟨k,16,none⟩=false/\w.frozen? ⟨k,17,none⟩=false/\w.frozen? ⟨k,18,none⟩=false/\w.frozen? ⟨k,19,none⟩=false/\w.frozen? ⟨k,20,none⟩=false/\w.frozen? ⟨k,21,none⟩=false/\w.frozen? ⟨k,22,none⟩=false:=⟨h.f 0 rfl,h.f 1 rfl,h.f 2 rfl,h.f 3 rfl,h.f 4 rfl,h.f 5 rfl,h.f 6 rfl,h.f 7 rfl,h.f 8 rfl,h.f 9 rfl,h.f 10 rfl,h.f 11 rfl,h.f 12 rfl,h.f 13 rfl,h.f 14 rfl,h.f 15 rfl,h.f 16 rfl,h.f 17 rfl,h.f 18 rfl,h.f 19 rfl,h.f 20 rfl,h.f 21 rfl,h.f 22 rfl⟩
theorem AtL.below {W W':World}{k n:Nat}{vs:List Value}(h:AtL W k vs)(hb:Below n W W')(hk:k<n):AtL W' k vs:=
 ⟨Ko h.1 hb.size,fun j v hv=>⟨(hb.cell (p:=⟨k,j,none⟩) hk).trans (h.c j hv),(hb.frozen (p:=⟨k,j,none⟩) hk).trans (h.f j hv)⟩⟩
theorem AtL.next {W W':World}{k:Nat}{vs:List Value}(h:AtL W k vs)(hb:Below W.heap.size W W'):AtL W' k vs:=h.below hb h.1
theorem AtL.alloc {W:World}{k:Nat}{vs:List Value}(h:AtL W k vs)(o:Obj):AtL (W.alloc o) k vs:=h.below ((Kc W).alloc lr o) h.1
theorem AtL.drew {W:World}{k:Nat}{vs:List Value}(h:AtL W k vs):AtL W.drew k vs:=h
theorem AtL.set {W:World}{k:Nat}{vs:List Value}(h:AtL W k vs)(i:Nat)(v:Value):AtL (W.setCell ⟨k,i,none⟩ v) k (vs.set i v):=by
 refine ⟨by rw [World.size_setCell];exact h.1,fun j u hu=>?_⟩;have hj:j<vs.length:=by
  rcases Zn j vs.length with h1 | h1
  ·exact h1
  ·rw [List.getElem?_eq_none (by simpa using h1)] at hu;cases hu
 have h0:=h.c j (Jd hj);have hf:=h.f j (Jd hj);refine ⟨?_,by rw [World.frozen?_setCell];exact hf⟩;by_cases e:i=j
 ·subst e;rw [List.getElem?_set_self hj] at hu;injection hu with hu;subst hu;exact World.cell?_setCell_same' W _ v (by rw [h0];rfl)
 ·rw [List.getElem?_set_ne e] at hu;rw [World.cell?_setCell_other W _ _ v (fun q=>e (by cases q;rfl))];exact h.c j hu
theorem AtL.far {W:World}{k:Nat}{vs:List Value}(h:AtL W k vs)(p:Addr)(v:Value)(hp:p.block≠k):AtL (W.setCell p v) k vs:=by refine ⟨by rw [World.size_setCell];exact h.1,fun j u hu=>⟨?_,by rw [World.frozen?_setCell];exact h.f j hu⟩⟩;rw [World.cell?_setCell_other W _ _ v (fun q=>hp (by rw [q]))];exact h.c j hu
theorem AtL.new (w:World)(vs:List Value)(T:TypeId):AtL (w.alloc (.cells vs.toArray T)) w.heap.size vs:=by
 have hh:(w.alloc (.cells vs.toArray T)).heap[w.heap.size]? = some (.cells vs.toArray T):=by unfold World.alloc;simp
 refine ⟨by simp,fun j v hv=>⟨?_,?_⟩⟩
 ·have:=cells_new w vs T j v hv;have hadd:(⟨w.heap.size,0,none⟩:Addr).add j=⟨w.heap.size,j,none⟩:=by unfold Addr.add;split <;> simp_all
  rwa [hadd] at this
 ·unfold World.frozen?;rw [hh];simp
abbrev set9 (W:World)(k:Nat)(a b c d e f g h i:Value):World:=((((((((W.setCell ⟨k,0,none⟩ a).setCell ⟨k,1,none⟩ b).setCell ⟨k,2,none⟩ c).setCell ⟨k,3,none⟩ d).setCell ⟨k,4,none⟩ e).setCell ⟨k,5,none⟩ f).setCell ⟨k,6,none⟩ g).setCell ⟨k,7,none⟩ h).setCell ⟨k,8,none⟩ i
theorem AtL.set9 {W:World}{k:Nat}{vs:List Value}(hv:AtL W k vs)(hl:vs.length=9)(a b c d e f g h i:Value):AtL (set9 W k a b c d e f g h i) k [a,b,c,d,e,f,g,h,i]:=by
 match vs,hl with
 | [_,_,_,_,_,_,_,_,_],_=>exact ((((((((hv.set 0 a).set 1 b).set 2 c).set 3 d).set 4 e).set 5 f).set 6 g).set 7 h).set 8 i
theorem below_set9 {B k:Nat}{w W:World}(h:Below B w W)(hk:B<=k)(a b c d e f g x i:Value):Below B w (set9 W k a b c d e f g x i):=
 ((((((((h.setCell (p:=⟨k,0,none⟩) hk a).setCell (p:=⟨k,1,none⟩) hk b).setCell (p:=⟨k,2,none⟩) hk c).setCell (p:=⟨k,3,none⟩) hk d).setCell (p:=⟨k,4,none⟩) hk e).setCell (p:=⟨k,5,none⟩) hk f).setCell (p:=⟨k,6,none⟩) hk g).setCell (p:=⟨k,7,none⟩) hk x).setCell (p:=⟨k,8,none⟩) hk i
theorem ret9_run {P:Program}{fn:Func}{q T r:Nat}(hr:fn.results = #[.cell q T,.tmp r])(hz:∀ w,(Go.sizeOf T).run P w = .ok 9 w)(ha:∀ w,(isAgg T).run P w = .ok true w)(tmps:Array Value)(W:World)(k:Nat)(a b c d e f g h i x:Value)(h2:tmps.getD q undef = .pointer (some ⟨k,0,none⟩))(h3:tmps.getD r undef=x)(hA:AtL W k [a,b,c,d,e,f,g,h,i]):
 (results fn tmps).run P W = .ok (.tuple #[.agg #[a,b,c,d,e,f,g,h,i],x]) W:=by have c0:=hA.c 0 rfl;have c1:=hA.c 1 rfl;have c2:=hA.c 2 rfl;have c3:=hA.c 3 rfl;have c4:=hA.c 4 rfl;have c5:=hA.c 5 rfl;have c6:=hA.c 6 rfl;have c7:=hA.c 7 rfl;have c8:=hA.c 8 rfl;rw [Xg] at h2 h3;simp [results,hr,h2,h3,go_sem,hz,ha,c0,c1,c2,c3,c4,c5,c6,c7,c8]
end Go.Proofs.YtjdhaacmlpegoaaGreatDoor
