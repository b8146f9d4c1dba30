/- Part 3 of what the proof needs: YTK UE UF UG UH UN UO UQ UR. -/
import Derived.Test.YtjdhaacmlpegoaaGreatDoorU02
import Derived.Deep.RegionHeld3
set_option maxRecDepth 20000
set_option maxHeartbeats 16000000
set_option linter.unusedSimpArgs false
set_option linter.unusedVariables false
namespace Go.Proofs.YtjdhaacmlpegoaaGreatDoor
open Go.RowKit
theorem tkH {P:Program}{md:Region.Mode}{ops:Array Oper}{Q:Exit->Act->World->Prop}{S:World->Prop}{fuel:Nat}{listed:Array Bool}{a b:Act}{w:World}(i:Nat){oi:Oper}{v:Value}
 (h:wpAnyH P md ops Q S fuel (listed.setIfInBounds i true) b w)
 (hb:a.put oi.dst v=b:=by first | (simp only [Act.put,Kr,Km,Ks];rfl) | rfl)(hi:ops[i]? = some oi:=by simp only [List.getElem?_toArray,Xl,List.getElem?_cons_zero];rfl)
 (hs:Region.noSelect ops=true:=by kernel_rfl) (hf:Region.free md ops listed i=true:=by kernel_rfl) (hr:(Region.ready md ops listed).contains i=true:=by kernel_rfl)
 (hQ:∀ c a w,Q (.panic c) (a.put oi.dst v) w->Q (.panic c) a w:=by intro _ _ _ h;exact h)
 (hw:Region.wanted oi (yielded ops a.tmps)=true:=by rfl) (hy:∀ w,S w->(execOp a.eval oi).run P w = .ok (.value v) w:=by intro w hSw;(try dsimp only at hSw);go_simp;try (with_reducible rfl))
 (hS:S w:=by assumption):wpAnyH P md ops Q S (fuel+1) listed a w:=
 wpAnyH_take hi hs hf hr hQ (.inl ⟨hw,hy⟩) hS (by subst hb;exact h)
theorem skH {P:Program}{md:Region.Mode}{ops:Array Oper}{Q:Exit->Act->World->Prop}{S:World->Prop}{fuel:Nat}{listed:Array Bool}{a b:Act}{w:World}(i:Nat){oi:Oper}
 (h:wpAnyH P md ops Q S fuel (listed.setIfInBounds i true) b w)
 (hb:a.put oi.dst undef=b:=by first | (simp only [Act.put,Kr,Km,Ks];rfl) | rfl)(hi:ops[i]? = some oi:=by simp only [List.getElem?_toArray,Xl,List.getElem?_cons_zero];rfl)
 (hs:Region.noSelect ops=true:=by kernel_rfl) (hf:Region.free md ops listed i=true:=by kernel_rfl) (hr:(Region.ready md ops listed).contains i=true:=by kernel_rfl)
 (hQ:∀ c a w,Q (.panic c) (a.put oi.dst undef) w->Q (.panic c) a w:=by intro _ _ _ h;exact h)
 (hw:Region.wanted oi (yielded ops a.tmps)=false:=by rfl)
 (hS:S w:=by assumption):wpAnyH P md ops Q S (fuel+1) listed a w:=
 wpAnyH_take hi hs hf hr hQ (.inr ⟨hw,rfl⟩) hS (by subst hb;exact h)
def codedL:List UInt8->Bool
 | c :: a :: b :: _=>c == 37 && decide (0<=hexB a) && decide (0<=hexB b)
 | _=>false
theorem drop3 (s:ByteArray)(i:Nat)(h:i+2<s.size):s.data.toList.drop i=s[i] :: s[i+1] :: s[i+2] :: s.data.toList.drop (i+3):=by rw [drop_at s i (by omega),drop_at s (i+1) (by omega),drop_at s (i+2) h]
theorem codedL_short (l:List UInt8)(h:l.length<=2):codedL l=false:=by
 match l,h with
 | [],_=>rfl
 | [_],_=>rfl
 | [_,_],_=>rfl
theorem codedL_no (c:UInt8)(l:List UInt8)(h:c≠37):codedL (c :: l)=false:=by
 match l with
 | []=>rfl
 | [_]=>rfl
 | _ :: _ :: _=>simp [codedL,h]
theorem coded_any (s:ByteArray)(i:Nat)(w:World)(hs:s.size<=1000000)(hi:i<s.size):
 Calls Tryz.prog 109 #[.string s,.int .i64 (i:Int)] w fun e w'=>e = .returned (.bool (codedL (s.data.toList.drop i)))/\w=w':=by
 by_cases hc:s[i]=37
 ·by_cases h2:i+2<s.size
  ·have h2i:(i:Int)+2<(s.size:Int):=by omega
   have hii:(0:Int)<=(i:Int):=by omega
   rw [drop3 s i h2,codedL,hc];have ba:=hexI_bd (s[i+1].toNat:Int);have bb:=hexI_bd (s[i+2].toNat:Int);have cA:=fun w=>hex_any (s[i+1].toNat:Int) w (byte_bd _);have cB:=fun w=>hex_any (s[i+2].toNat:Int) w (byte_bd _);have e1:hexB s[i+1]=hexI (s[i+1].toNat:Int):=rfl;have e2:hexB s[i+2]=hexI (s[i+2].toNat:Int):=rfl;rw [e1,e2];obtain ⟨x,hx⟩:=Ka (hexI (s[i+1].toNat:Int));obtain ⟨y,hy⟩:=Ka (hexI (s[i+2].toNat:Int));rw [hx] at ba cA ⊢;rw [hy] at bb cB ⊢;have A:=Kb cA;have B:=Kb cB;have hci:(s[i].toNat:Int)=37:=by rw [hc];rfl
   clear cA cB hx hy e1 e2 hc;go_enter Tryz.func109,Tryz.ntmps109
   go_wp2_with (first
    | (with_reducible refine (A.out _).mono ?_;rintro e w' ⟨rfl,rfl⟩)
    | (with_reducible refine (B.out _).mono ?_;rintro e w' ⟨rfl,rfl⟩))
   all_goals (go_ret;exact ⟨ret_bool (by simp [*] <;> omega),rfl⟩)
  ·rw [codedL_short _ (by simp;omega)];have h2i:¬ (i:Int)+2<(s.size:Int):=by omega
   have hii:(0:Int)<=(i:Int):=by omega
   have hci:(s[i].toNat:Int)=37:=by rw [hc];rfl
   clear hc;go_enter Tryz.func109,Tryz.ntmps109;go_wp2_with fail;all_goals (go_ret;exact ⟨ret_bool (by simp [*] <;> omega),rfl⟩)
 ·rw [drop_at s i hi,codedL_no _ _ hc];have hci:¬ (s[i].toNat:Int)=37:=fun e=>hc (UInt8.toNat_inj.1 (by rw [show (37:UInt8).toNat=37 from rfl];omega));clear hc;go_enter Tryz.func109,Tryz.ntmps109;go_wp2_with fail;all_goals (go_ret;exact ⟨ret_bool (by simp [*] <;> omega),rfl⟩)
def digs:List UInt8:=[48,49,50,51,52,53,54,55,56,57,65,66,67,68,69,70]
def dig (n:Nat):UInt8:=digs.getD n 0
def pct (b:UInt8):List UInt8:=[37,dig (b.toNat / 16),dig (b.toNat % 16)]
abbrev digsS:ByteArray:=⟨#[48,49,50,51,52,53,54,55,56,57,65,66,67,68,69,70]⟩
def conv (keep:List UInt8)(codes:Bool):List UInt8->List UInt8
 | []=>[]
 | c :: r=>(if okC keep c || (codes && codedL (c :: r)) then [c] else pct c) ++ conv keep codes r
theorem conv_len (keep:List UInt8)(codes:Bool)(l:List UInt8):(conv keep codes l).length<=3 * l.length:=by
 induction l with
 | nil=>simp [conv]
 | cons c r ih=>unfold conv;split <;> simp [pct] <;> omega
theorem digs_get (n:Nat)(h:n<digsS.size):digsS[n]=dig n:=by
 have:∀ i:Fin 16,digsS[i.1]'(by have:=i.2;show _<16;omega)=dig i.1:=by decide
 exact this ⟨n,h⟩
theorem pct_cells (b:UInt8):Lib.byteCells (pct b)=[Value.int .u8 37,.int .u8 ((digsS[b.toNat / 16]'(by have:=b.toNat_lt;show _<16;omega)).toNat:Int),.int .u8 ((digsS[b.toNat % 16]'(by have:=b.toNat_lt;show _<16;omega)).toNat:Int)]:=by rw [digs_get,digs_get];rfl
theorem N30{p:Prop}(h:p:=by
 go_wp2_with (first
  | (with_reducible refine (L1.out _).mono ?_;rintro e w' ⟨rfl,rfl⟩)
  | (with_reducible refine (G1.out _).mono ?_;rintro e w' ⟨rfl,rfl⟩)
  | (with_reducible refine (I.out _).mono ?_;rintro e w' ⟨rfl,rfl⟩)
  | (with_reducible refine (D1.out _).mono ?_;rintro e w' ⟨rfl,rfl⟩)
  | (go_at_call 110;refine (Tryz.Builder_WriteByte_k w.heap.size w.heap.size _ _ _ (Or.inr h2) (by simp [Lib.byteCells_length];omega) hz2).mono ?_;rintro e W3 ⟨rfl,h3,b3,k3⟩)
  | (go_at_call 110;refine (Tryz.Builder_WriteByte_k w.heap.size w.heap.size _ _ _ (Or.inr h1) (by simp [Lib.byteCells_length];omega) hz1).mono ?_;rintro e W2 ⟨rfl,h2,b2,k2⟩;have hz2:=Kg hz1 b2.size)
  | (go_at_call 110;refine (Tryz.Builder_WriteByte_k w.heap.size w.heap.size _ _ _ hI (by rw [Lib.byteCells_length];omega) hwz).mono ?_;rintro e W1 ⟨rfl,h1,b1,k1⟩;have hz1:=Kg hwz b1.size))
 all_goals first
  | (go_roundw
     case rel=>
      refine ⟨k+1,acc ++ [s[k]],by omega,by go_num,?_,hbw.trans b1,?_⟩
      ·rw [Lib.byteCells_append];exact Or.inr h1
      ·rw [<-HA.out];simp [*]
     case measure=>simp [intOf];omega)
  | (have hq:=byte_bd s[k];exfalso;omega)
  | (go_roundw
     case rel=>
      refine ⟨k+1,acc ++ pct s[k],by omega,by go_num,?_,((hbw.trans b1).trans b2).trans b3,?_⟩
      ·rw [Lib.byteCells_append,pct_cells]
       simp only [Jj,Xa,Jn,Jp] at h3
       exact Or.inr h3
      ·rw [<-HA.out];simp [*]
     case measure=>simp [intOf];omega)
 ):p:=h
theorem N71{p:Prop}(h:p:=by
 rw [drop_end s k (by omega),conv,Je] at hacc;subst hacc;go_wp2_with (go_at_call 111;refine (Tryz.Builder_String_any_k w.heap.size w.heap.size acc _ hI hbw.size).mono ?_)
 rintro e W1 ⟨rfl,_,b1,_⟩;go_wp2;go_ret
 exact ⟨_,rfl,rfl,hbw.trans b1⟩
 ):p:=h
theorem M6{p:Prop}(h:p:=by
 rw [hcd] at hacc;have cI:=Tryz.strings_IndexByte keep (s[k].toNat:Int);rw [byte_back] at cI;have hc:=idx_in keep.data.toList s[k];have ho:okC keep.data.toList s[k]=(letterI s[k].toNat || digitI s[k].toNat || keep.data.toList.contains s[k]):=rfl;have hge:=Lib.indexByte_ge keep.data.toList s[k];obtain ⟨x,hxe⟩:=Ka (Lib.indexByte keep.data.toList s[k]);rw [hxe] at cI hc hge;obtain ⟨C,hC⟩:=Ka (keep.data.toList.contains s[k]);rw [hC] at hc ho;have cD:=fun w=>coded_any s k w hs hlt;obtain ⟨D,hD⟩:=Ka (codedL (s.data.toList.drop k));rw [hD] at cD hacc;rw [ho] at hacc;have cL:=fun w=>letter_any (s[k].toNat:Int) w;have cG:=fun w=>digit_any (s[k].toNat:Int) w;obtain ⟨LE,hLE⟩:∃ D,letterI (s[k].toNat:Int)=D:=⟨_,rfl⟩
 obtain ⟨DI,hDI⟩:∃ D,digitI (s[k].toNat:Int)=D:=⟨_,rfl⟩
 rw [hLE] at cL hacc;rw [hDI] at cG hacc;have hx:(C=false/\x = -1)\/(C=true/\∃ n:Nat,x=n):=by
  cases C <;> simp at hc
  ·exact .inl ⟨rfl,by omega⟩
  ·exact .inr ⟨rfl,x.toNat,by omega⟩
 have I:=Kb cI;have D1:=Kb cD;have L1:=Kb cL;have G1:=Kb cG;have HA:=Kb hacc;clear cI cD cL cG hacc hC hD hLE hDI hxe hge hc ho hcd;rcases hx with ⟨rfl,rfl⟩ | ⟨rfl,n,rfl⟩
 all_goals
  exact N30
 ):p:=h
theorem convertT_any (s keep:ByteArray)(w:World)(hs:s.size<=1000000):
 Calls Tryz.prog 61 #[.string s,.string keep,.bool true] w fun e w'=>∃ t:ByteArray,e = .returned (.string t)/\t.data.toList=conv keep.data.toList true s.data.toList/\Below w.heap.size w w':=by
 obtain ⟨R,hR⟩:=Ka (conv keep.data.toList true s.data.toList);have hRl:R.length<=3 * s.size:=by rw [<-hR,<-size_len];exact conv_len _ _ _
 rw [hR];have HR:=Kb hR;clear hR;go_enter Tryz.func61,Tryz.ntmps61;go_wp2;go_loopw [8] (fun i wr=>∃ (k:Nat) (acc:List UInt8),k<=s.size/\i = .int .i64 k/\Lib.IsBuilderF 148 5 w.heap.size w.heap.size (Lib.byteCells acc) wr/\Below w.heap.size w wr/\acc ++ conv keep.data.toList true (s.data.toList.drop k)=R) (fun i _=>s.size - (intOf i).toNat);case atStart=>exact ⟨0,[],Kh _,rfl,Lib.IsBuilderF.of (Lib.fresh_isBuilder 148 5 w),(Kc w).alloc lr _,HR.out⟩
 case round=>
  obtain ⟨k,acc,hk,rfl,hI,hbw,hacc⟩:=hrel;have hal:acc.length<=3000000:=by have:=Kq List.length hacc;simp at this;omega
  have hwz:=hbw.size;by_cases hlt:k<s.size
  ·have hki:(k:Int)<(s.size:Int):=by omega
   have hcd:conv keep.data.toList true (s.data.toList.drop k)=(if okC keep.data.toList s[k] || (true && codedL (s.data.toList.drop k)) then [s[k]] else pct s[k]) ++ conv keep.data.toList true (s.data.toList.drop (k+1)):=by rw [drop_at s k hlt,conv]
   exact M6
  ·exact N71
theorem convertF_any (s keep:ByteArray)(w:World)(hs:s.size<=1000000):
 Calls Tryz.prog 61 #[.string s,.string keep,.bool false] w fun e w'=>∃ t:ByteArray,e = .returned (.string t)/\t.data.toList=conv keep.data.toList false s.data.toList/\Below w.heap.size w w':=by
 obtain ⟨R,hR⟩:=Ka (conv keep.data.toList false s.data.toList);have hRl:R.length<=3 * s.size:=by rw [<-hR,<-size_len];exact conv_len _ _ _
 rw [hR];have HR:=Kb hR;clear hR;go_enter Tryz.func61,Tryz.ntmps61;go_wp2;go_loopw [8] (fun i wr=>∃ (k:Nat) (acc:List UInt8),k<=s.size/\i = .int .i64 k/\Lib.IsBuilderF 148 5 w.heap.size w.heap.size (Lib.byteCells acc) wr/\Below w.heap.size w wr/\acc ++ conv keep.data.toList false (s.data.toList.drop k)=R) (fun i _=>s.size - (intOf i).toNat);case atStart=>exact ⟨0,[],Kh _,rfl,Lib.IsBuilderF.of (Lib.fresh_isBuilder 148 5 w),(Kc w).alloc lr _,HR.out⟩
 case round=>
  obtain ⟨k,acc,hk,rfl,hI,hbw,hacc⟩:=hrel;have hal:acc.length<=3000000:=by have:=Kq List.length hacc;simp at this;omega
  have hwz:=hbw.size;by_cases hlt:k<s.size
  ·have hki:(k:Int)<(s.size:Int):=by omega
   have hcd:conv keep.data.toList false (s.data.toList.drop k)=(if okC keep.data.toList s[k] || (false && codedL (s.data.toList.drop k)) then [s[k]] else pct s[k]) ++ conv keep.data.toList false (s.data.toList.drop (k+1)):=by rw [drop_at s k hlt,conv]
   exact M6
  ·exact N71
theorem convert_any (s keep:ByteArray)(codes:Bool)(w:World)(hs:s.size<=1000000):
 Calls Tryz.prog 61 #[.string s,.string keep,.bool codes] w fun e w'=>∃ t:ByteArray,e = .returned (.string t)/\t.data.toList=conv keep.data.toList codes s.data.toList/\Below w.heap.size w w':=by
 cases codes
 ·exact convertF_any s keep w hs
 ·exact convertT_any s keep w hs
abbrev innerL:List UInt8:=[45,46,95,126,33,36,38,39,40,41,42,43,44,59,61,58,64,47]
abbrev U6:=List UInt8 × List UInt8 × List UInt8 × List UInt8 × List UInt8 × List UInt8
abbrev httpL:List UInt8:=[104,116,116,112]
abbrev httpsL:List UInt8:=[104,116,116,112,115]
abbrev aboutL:List UInt8:=[97,98,111,117,116]
def schemeOk (l:List UInt8):Bool:=l.contains 58 && (match l with | []=>false | b :: _=>letterB b) && (pre 58 l).all (okC [43,45,46])
def zerosOff (l:List UInt8):List UInt8:=l.dropWhile (· == 48)
def numF (n:Nat)(b:UInt8):Nat:=n * 10+(b.toNat - 48)
def numL (l:List UInt8):Nat:=l.foldl numF 0
def portOk (d:List UInt8):Prop:=d.all digitB=true/\d.length<=5/\numL d<=65535
def portOf (sch d:List UInt8):List UInt8:=if (sch=httpL/\numL d=80)\/(sch=httpsL/\numL d=443) then [] else zerosOff d
instance (d:List UInt8):Decidable (portOk d):=by unfold portOk;infer_instance
def siteL (n fr before:List UInt8):Option U6:=
 if (n=httpL\/n=httpsL)/\before.take 2=[47,47] then
  let path:=pre 63 (before.drop 2)
  let plc:=pre 47 path
  let host:=pre 58 plc
  if portOk (post 58 plc)/\1<=host.length/\host.length<=253/\host.all (okC [45,46])=true then
   some (n,lowL host,portOf n (post 58 plc),cleanL (conv innerL true (path.drop plc.length)),conv (innerL ++ [63]) true (post 63 (before.drop 2)),fr)
  else none
 else none
def restL (n rest:List UInt8):Option U6:=
 let fr:=conv (innerL ++ [63]) true (post 35 rest)
 if n=aboutL then (if (pre 35 rest).all (okC [45])=true then some (n,[],[],pre 35 rest,[],fr) else none) else siteL n fr (pre 35 rest)
def parseL (s:List UInt8):Option U6:=
 if schemeOk (trimL s)=true then restL (lowL (pre 58 (trimL s))) (post 58 (trimL s)) else none
theorem numF_le (n:Nat)(b:UInt8)(h:digitB b=true):numF n b<=n * 10+9/\n * 10<=numF n b:=by simp only [digitB,digitI,Jb] at h;unfold numF;omega
theorem foldl_bd:∀ (l:List UInt8)(n:Nat) ,l.all digitB=true->n * 10 ^ l.length<=l.foldl numF n/\l.foldl numF n+1<=(n+1) * 10 ^ l.length:=by
 intro l
 induction l with
 | nil=>intro n _;simp
 | cons b l ih=>
   intro n h
   simp only [Zz,Jh] at h
   have h1:=numF_le n b h.1
   have h2:=ih (numF n b) h.2
   simp only [Xc,Kv,Nat.pow_succ']
   constructor
   ·calc n * (10 * 10 ^ l.length)=(n * 10) * 10 ^ l.length:=by rw [Nat.mul_assoc]
     _<=numF n b * 10 ^ l.length:=Zq _ h1.2
     _<=_:=h2.1
   ·calc _<=(numF n b+1) * 10 ^ l.length:=h2.2
     _<=((n+1) * 10) * 10 ^ l.length:=Zq _ (by omega)
     _=_:=by rw [Nat.mul_assoc]
theorem numL_zeros:∀ l:List UInt8,numL (zerosOff l)=numL l:=by
 intro l
 unfold numL zerosOff
 induction l with
 | nil=>rfl
 | cons b l ih=>
   rw [Ze]
   split
   ·next h=>
    rw [ih]
    have:b=48:=by simpa using h
    subst this
    rfl
   ·rfl
theorem zeros_all (l:List UInt8)(h:l.all digitB=true):(zerosOff l).all digitB=true:=by rw [Jv] at h ⊢;exact fun x hx=>h x ((Zw _).subset hx)
theorem zeros_head (l:List UInt8):∀ b r,zerosOff l=b :: r->b≠48:=by intro b r h e;subst e;unfold zerosOff at h;have:=List.head?_dropWhile_not (p:=(· == (48:UInt8))) (l:=l);rw [h] at this;simp at this
theorem lowB_ok (more:List UInt8)(b:UInt8)(hm:∀ x∈more,letterB x=false/\lowB x=x):okC more (lowB b)=okC more b:=by
 unfold lowB;split
 ·next h=>
  have:(b+32).toNat=b.toNat+32:=by rw [UInt8.toNat_add];have:=b.toNat_lt;simp;omega
  have l1:letterB (b+32)=true:=by simp [letterB,letterI,this];omega
  have l2:letterB b=true:=by simp [letterB,letterI];omega
  simp [okC,l1,l2]
 ·rfl
theorem lowL_ok (more l:List UInt8)(hm:∀ x∈more,letterB x=false/\lowB x=x):(lowL l).all (okC more)=l.all (okC more):=by unfold lowL;rw [List.all_map];congr 1;exact funext fun b=>lowB_ok more b hm
theorem lowL_len (l:List UInt8):(lowL l).length=l.length:=by simp [lowL]
theorem empty_iff (p:ByteArray):p.toList.isEmpty=true ↔ p.data.toList=[]:=by rw [Zv,Kt]
theorem cut_any (s:ByteArray)(c:UInt8)(w:World)(hs:s.size<=1000000)(hM:MaxAt w):
 Calls Tryz.prog 60 #[.string s,.string ⟨#[c]⟩] w fun e w'=>∃ a b:ByteArray,e = .returned (.tuple #[.string a,.string b,.bool (s.data.toList.contains c)])/\a.data.toList=pre c s.data.toList/\b.data.toList=post c s.data.toList/\Below w.heap.size w w':=by obtain ⟨m,hm⟩:=hM;refine (Tryz.strings_Cut s ⟨#[c]⟩ m w (by omega) hm).mono ?_;rintro e w' ⟨rfl,n,rfl⟩;have h:=cut_eq c s.data.toList;exact ⟨_,_,by rw [show (⟨#[c]⟩:ByteArray).data.toList=[c] from rfl,h],rfl,rfl,below_drewN (Kc w) n⟩
theorem takeW_head (p:UInt8->Bool)(l:List UInt8)(b:UInt8)(r:List UInt8)(h:l.takeWhile p=b :: r):∃ r',l=b :: r':=by
 cases l with
 | nil=>simp at h
 | cons x l=>
   rw [List.takeWhile_cons] at h
   split at h
   ·cases h;exact ⟨l,rfl⟩
   ·cases h
theorem schemeOk_pre (l:List UInt8):schemeOk l=(l.contains 58 && (match pre 58 l with | []=>false | b :: _=>letterB b) && (pre 58 l).all (okC [43,45,46])):=by
 unfold schemeOk
 congr 2
 cases h:pre 58 l with
 | nil=>
   cases l with
   | nil=>rfl
   | cons b l=>
     unfold pre at h
     rw [List.takeWhile_cons] at h
     split at h
     ·cases h
     ·next hb=>
      have:b=58:=by simpa using hb
      subst this;rfl
 | cons b r=>
   obtain ⟨r',rfl⟩:=takeW_head _ _ _ _ h
   rfl
theorem pre_le (c:UInt8)(l:List UInt8):(pre c l).length<=l.length:=(List.takeWhile_sublist _).length_le
theorem post_le (c:UInt8)(l:List UInt8):(post c l).length<=l.length:=by unfold post;rw [Jy];have:=(Zw (· != c) (l:=l)).length_le;omega
theorem size_of {s:ByteArray}{l:List UInt8}(h:s.data.toList=l):s.size=l.length:=by rw [<-h,size_len]
theorem first_at (a:ByteArray)(h:0<a.size):∃ r,a.data.toList=a[0] :: r:=⟨_,by rw [<-drop_at a 0 h];simp⟩
theorem scheme_case (l:List UInt8)(a:ByteArray)(ha:a.data.toList=pre 58 l):
 (l.contains 58=false/\schemeOk l=false)\/(l.contains 58=true/\((a.size=0/\a.toList.isEmpty=true/\schemeOk l=false)\/(∃ h:0<a.size,a.toList.isEmpty=false/\((letterI (a[0].toNat:Int)=false/\schemeOk l=false)\/(letterI (a[0].toNat:Int)=true/\a.data.toList.all (okC [43,45,46])=schemeOk l))))):=by
 rw [schemeOk_pre,<-ha]
 cases l.contains 58 with
 | false=>exact .inl ⟨rfl,rfl⟩
 | true=>
   refine .inr ⟨rfl,?_⟩
   rcases Nat.eq_zero_or_pos a.size with h0 | h0
   ·have:a.data.toList=[]:=Ja (by rw [size_len];exact h0)
    exact .inl ⟨h0,(empty_iff a).2 this,by rw [this];rfl⟩
   ·obtain ⟨r,hr⟩:=first_at a h0
    refine .inr ⟨h0,nonempty_of a h0,?_⟩
    rw [hr]
    have e:letterB a[0]=letterI (a[0].toNat:Int):=rfl
    simp only [e]
    cases letterI (a[0].toNat:Int) with
    | false=>exact .inl ⟨rfl,rfl⟩
    | true=>exact .inr ⟨rfl,by simp⟩
theorem scheme_any (s:ByteArray)(w:World)(hs:s.size<=1000000)(hM:MaxAt w):
 Calls Tryz.prog 58 #[.string s] w fun e w'=>∃ a b:ByteArray,e = .returned (.tuple #[.string a,.string b,.bool (schemeOk s.data.toList)])/\(schemeOk s.data.toList=true->a.data.toList=lowL (pre 58 s.data.toList)/\b.data.toList=post 58 s.data.toList)/\Below w.heap.size w w':=by
 obtain ⟨OK,hOK⟩:=Ka (schemeOk s.data.toList);obtain ⟨A,hA⟩:=Ka (pre 58 s.data.toList);obtain ⟨B,hB⟩:=Ka (post 58 s.data.toList);have cC:=cut_any s 58 w hs hM;have hal:=pre_le 58 s.data.toList;have hsc:=scheme_case s.data.toList;rw [hA,hB] at cC;rw [hA] at hal hsc;rw [hOK] at hsc;rw [hOK,hA,hB];obtain ⟨N,hN⟩:=Ka (s.data.toList.contains 58);rw [hN] at cC hsc;have hAl:A.length<=1000000:=by rw [size_len] at hal;omega
 have CC:=Kb cC;have SC:=Kb hsc;clear cC hsc hN hal hOK hA hB;go_enter Tryz.func58,Tryz.ntmps58
 go_wp2_with (first
  | (with_reducible refine CC.out.mono ?_;rintro e w1 ⟨a,b,rfl,ha,hb,hbw⟩;have has:=size_of ha;have HA:=Kb ha;have HB:=Kb hb;rcases SC.out a ha with ⟨rfl,rfl⟩ | ⟨rfl,⟨h0,hem,rfl⟩ | ⟨h0,hem,⟨hlt,rfl⟩ | ⟨hlt,hok⟩⟩⟩ <;> (try have HOK:=Kb hok) <;> clear ha hb <;> (try clear hok))
  | (go_at_call 106;refine (letter_any _ _).mono ?_;rintro e w' ⟨rfl,rfl⟩)
  | (go_at_call 62;refine (only_any _ _ _ (by omega)).mono ?_;rintro e w' ⟨rfl,rfl⟩;rcases Xn OK with rfl | rfl <;> simp only [HOK.out])
  | (go_at_call 66;refine (lower_any _ _ (by omega)).mono ?_;rintro e w2 ⟨t,rfl,ht,hb2⟩;have HT:=Kb ht;clear ht))
 all_goals first | (go_ret3;exact ⟨_,_,rfl,fun h=>(nomatch h),hbw⟩) | (go_ret3;exact ⟨⟨_,_,rfl⟩,hbw⟩) | (go_ret3;exact ⟨_,_,rfl,⟨by rw [HT.out,HA.out],HB.out⟩,Kd hbw hb2⟩) | (go_ret3;exact ⟨_,_,rfl,fun _=>⟨by rw [HT.out,HA.out],HB.out⟩,Kd hbw hb2⟩)
theorem numL_snoc (l:List UInt8)(b:UInt8):numL (l ++ [b])=numL l * 10+(b.toNat - 48):=by simp [numL,numF]
theorem take_snoc (s:ByteArray)(k:Nat)(h:k<s.size):s.data.toList.take (k+1)=s.data.toList.take k ++ [s[k]]:=by rw [Jf (by simpa using h)];rfl
theorem numL_bd (l:List UInt8)(h:l.all digitB=true)(h5:l.length<=5):numL l<=99999:=by have h1:=(foldl_bd l 0 h).2;have h2:10 ^ l.length<=10 ^ 5:=Nat.pow_le_pow_right (by omega) h5;unfold numL;omega
theorem digits_take (d:List UInt8)(k:Nat)(h:d.all digitB=true):(d.take k).all digitB=true:=by rw [Jv] at h ⊢;exact fun x hx=>h x (Xk hx)
theorem mem_at (s:ByteArray)(k:Nat)(h:k<s.size):s[k]∈s.data.toList:=List.drop_subset k _ (by rw [drop_at s k h];exact Jz)
theorem str_beq (s:ByteArray)(l:List UInt8):(s.toList == l)=decide (s.data.toList=l):=by
 rw [Kt];by_cases h:s.data.toList=l
 ·rw [h];simp
 ·rw [Kj h,Ki];exact h
theorem N31{p:Prop}(h:p:=by
 have hsn:=numL_snoc (s.data.toList.take k) s[k];rw [<-take_snoc s k hlt] at hsn;have hg:digitB s[k]=true:=by have h1:=HD.out;rw [Jv] at h1;exact h1 s[k] (mem_at s k hlt)
 simp only [digitB,digitI,Jb] at hg;obtain ⟨n,hn⟩:=Ka (numL (s.data.toList.take k));rw [hn] at hsn hbd ⊢;have HS:=Kb hsn;clear hn hsn;go_wp2_with fail;go_roundw;case rel=>exact ⟨k+1,by omega,by go_num,by rw [HS.out];congr 1;omega,trivial⟩
 case measure=>simp [intOf];omega
 ):p:=h
theorem N37{p:Prop}(h:p:=by
 have hd2:(s.data.toList.take (k+1)).all digitB=true:=by rw [take_snoc s k hlt,List.all_append,hd];simp only [Zz,List.all_nil,Bool.and_true,Bool.true_and];exact hg
 have HD:=Kb hd2;clear hd2 hd;go_wp2_with (go_at_call 108;refine (digit_any _ _).mono ?_;rintro e w' ⟨rfl,rfl⟩)
 go_roundw;case rel=>exact ⟨k+1,by omega,by go_num,HD.out,trivial⟩
 case measure=>simp [intOf];omega
 ):p:=h
theorem N42{p:Prop}(h:p:=by
 have hno:OK=false:=by
  cases hO:OK with
  | false=>rfl
  | true=>
    have h1:=(HOK.out.2 hO).1
    rw [Jv] at h1
    have h2:=h1 s[k] (mem_at s k hlt)
    rw [digitB,hg] at h2;cases h2
 subst hno;clear HR hd HOK;go_wp2_with (go_at_call 108;refine (digit_any _ _).mono ?_;rintro e w' ⟨rfl,rfl⟩)
 go_ret2
 first | exact ⟨_,rfl⟩ | exact ⟨_,rfl,trivial⟩ | exact ⟨⟨_,rfl⟩,rfl⟩ | exact ⟨_,rfl,fun h=>(nomatch h),rfl⟩
 ):p:=h
theorem N54{p:Prop}(h:p:=by
 have hno:OK=false:=by
  cases hO:OK with
  | false=>rfl
  | true=>exact absurd (hOn.1 hO) hn5
 subst hno;clear hOn;go_wp2_with (with_reducible refine cT.out.mono ?_;rintro e w2 ⟨rfl,rfl⟩)
 go_ret2
 first | exact ⟨_,rfl⟩ | exact ⟨_,rfl,trivial⟩ | exact ⟨⟨_,rfl⟩,rfl⟩ | exact ⟨_,rfl,fun h=>(nomatch h),rfl⟩
 ):p:=h
theorem N59{p:Prop}(h:p:=by
 have hno:OK=false:=by
  cases hO:OK with
  | false=>rfl
  | true=>
    have h1:=(HOK.out.2 hO).2.1
    rw [size_len] at h1;omega
 subst hno;clear HR HOK;go_wp2_with fail;go_ret2
 first | exact ⟨_,rfl⟩ | exact ⟨_,rfl,trivial⟩ | exact ⟨⟨_,rfl⟩,rfl⟩ | exact ⟨_,rfl,fun h=>(nomatch h),rfl⟩
 ):p:=h
theorem M17{p:Prop}(h:p:=by
 subst hc;go_wp2_with (with_reducible refine cT.out.mono ?_;rintro e w2 ⟨rfl,rfl⟩)
 go_ret2;first | exact ⟨_,rfl,by rw [HR.out];simp⟩ | exact ⟨_,rfl,fun _=>by rw [HR.out];simp,rfl⟩ | exact ⟨_,rfl,fun h=>(nomatch h),rfl⟩
 ):p:=h
theorem M21{p:Prop}(h:p:=by
 go_wp2_with (with_reducible refine cT.out.mono ?_;rintro e w2 ⟨rfl,rfl⟩)
 go_ret2;first | exact ⟨_,rfl,by rw [HR.out];simp [hc]⟩ | exact ⟨_,rfl,fun h=>(nomatch h),rfl⟩
 ):p:=h
theorem M30{p:Prop}(h:p:=by
 have e2:(sch.data.toList=httpsL) ↔ (false=true):=by simp only [Jb,Zy] at hy;simp [hy]
 rw [<-hR,portOf];simp only [e1,e2]
 ):p:=h
theorem portA (sch s:ByteArray)(w:World)(hs:s.size<=1000000)(hX:(sch.toList == [104,116,116,112])=true)(hY:(sch.toList == [104,116,116,112,115])=false)(R:List UInt8)(hR:portOf sch.data.toList s.data.toList=R):
 Calls Tryz.prog 65 #[.string sch,.string s] w fun e w'=>∃ t:ByteArray,e = .returned (.tuple #[.string t,.bool (decide (portOk s.data.toList))])/\(portOk s.data.toList->t.data.toList=R)/\w=w':=by
 obtain ⟨OK,hOK⟩:=Ka (decide (portOk s.data.toList));have hP:portOk s.data.toList ↔ OK=true:=by rw [<-hOK];simp
 rw [hOK];simp only [hP];have HOK:=Kb hP;have hx:=hX;have hy:=hY;rw [str_beq] at hx hy;have hR0:R=if (true=true/\numL s.data.toList=80)\/(false=true/\numL s.data.toList=443) then [] else zerosOff s.data.toList:=by
  have e1:(sch.data.toList=httpL) ↔ (true=true):=by simp only [Jb,Zy] at hx;simp [hx]
  exact M30
 have HR:=Kb hR0;clear hR hOK hP hx hy hR0;go_enter Tryz.func65,Tryz.ntmps65;go_wp2_with fail;go_loopw [6] (fun iv wr=>∃ k:Nat,k<=s.size/\iv = .int .i64 k/\(s.data.toList.take k).all digitB=true/\wr=w) (fun iv _=>s.size - (intOf iv).toNat);case atStart=>exact ⟨0,Kh _,rfl,by simp,rfl⟩
 case round=>
  obtain ⟨k,hk,rfl,hd,rfl⟩:=hrel;by_cases hlt:k<s.size
  ·rcases Xn (digitI (s[k].toNat:Int)) with hg | hg
   ·exact N37
   ·exact N42
  ·have hke:k=s.size:=by omega
   subst hke;rw [Zb (by simp)] at hd;have HD:=Kb hd;clear hd hlt hk;by_cases h5:5<s.size
   ·exact N59
   ·go_wp2_with fail;obtain ⟨wo,rfl⟩:∃ wo:World,wo=wr:=⟨_,rfl⟩
    go_loopw [7,8] (fun nv iv wr=>∃ k:Nat,k<=s.size/\iv = .int .i64 k/\nv = .int .i64 (numL (s.data.toList.take k):Nat)/\wr=wo) (fun _ iv _=>s.size - (intOf iv).toNat);case atStart=>exact ⟨0,Kh _,rfl,rfl,rfl⟩
    case round=>
     obtain ⟨k,hk,rfl,rfl,rfl⟩:=hrel;have hbd:=numL_bd _ (digits_take _ k HD.out) (by rw [Jk,size_len];omega);by_cases hlt:k<s.size
     ·exact N31
     ·have hke:k=s.size:=by omega
      subst hke;rw [Zb (by simp)] at hbd ⊢;obtain ⟨n,hn⟩:=Ka (numL s.data.toList);have hOn:OK=true ↔ n<=65535:=by rw [<-HOK.out,<-hn];exact ⟨fun h=>h.2.2,fun h=>⟨HD.out,by rw [size_len];omega,h⟩⟩
      have hr:=HR.out;rw [hn] at hbd hr ⊢;clear hn hlt hk HD HOK HR;have cT:=Kb (Tryz.strings_TrimLeft_one s 48 (by decide) wr);have hz:(⟨(Lib.trimLeftB s.data.toList 48).toArray⟩:ByteArray).data.toList=zerosOff s.data.toList:=rfl;obtain ⟨T,hT⟩:∃ T:ByteArray,⟨(Lib.trimLeftB s.data.toList 48).toArray⟩=T:=⟨_,rfl⟩
      rw [hT] at cT hz;rw [<-hz] at hr;have HR:=Kb hr;clear hz hT hr;by_cases hn5:n<=65535
      ·obtain rfl:=hOn.2 hn5;clear hOn;by_cases hc:n=80
       ·exact M17
       ·have hcb:((n:Int) == 80)=false:=by rw [Ki];omega
        exact M21
      ·exact N54
theorem portB (sch s:ByteArray)(w:World)(hs:s.size<=1000000)(hX:(sch.toList == [104,116,116,112])=false)(hY:(sch.toList == [104,116,116,112,115])=true)(R:List UInt8)(hR:portOf sch.data.toList s.data.toList=R):
 Calls Tryz.prog 65 #[.string sch,.string s] w fun e w'=>∃ t:ByteArray,e = .returned (.tuple #[.string t,.bool (decide (portOk s.data.toList))])/\(portOk s.data.toList->t.data.toList=R)/\w=w':=by
 obtain ⟨OK,hOK⟩:=Ka (decide (portOk s.data.toList));have hP:portOk s.data.toList ↔ OK=true:=by rw [<-hOK];simp
 rw [hOK];simp only [hP];have HOK:=Kb hP;have hx:=hX;have hy:=hY;rw [str_beq] at hx hy;have hR0:R=if (false=true/\numL s.data.toList=80)\/(true=true/\numL s.data.toList=443) then [] else zerosOff s.data.toList:=by
  have e1:(sch.data.toList=httpL) ↔ (false=true):=by simp only [Jb,Zy] at hx;simp [hx]
  have e2:(sch.data.toList=httpsL) ↔ (true=true):=by simp only [Jb,Zy] at hy;simp [hy]
  rw [<-hR,portOf];simp only [e1,e2]
 have HR:=Kb hR0;clear hR hOK hP hx hy hR0;go_enter Tryz.func65,Tryz.ntmps65;go_wp2_with fail;go_loopw [6] (fun iv wr=>∃ k:Nat,k<=s.size/\iv = .int .i64 k/\(s.data.toList.take k).all digitB=true/\wr=w) (fun iv _=>s.size - (intOf iv).toNat);case atStart=>exact ⟨0,Kh _,rfl,by simp,rfl⟩
 case round=>
  obtain ⟨k,hk,rfl,hd,rfl⟩:=hrel;by_cases hlt:k<s.size
  ·rcases Xn (digitI (s[k].toNat:Int)) with hg | hg
   ·exact N37
   ·exact N42
  ·have hke:k=s.size:=by omega
   subst hke;rw [Zb (by simp)] at hd;have HD:=Kb hd;clear hd hlt hk;by_cases h5:5<s.size
   ·exact N59
   ·go_wp2_with fail;obtain ⟨wo,rfl⟩:∃ wo:World,wo=wr:=⟨_,rfl⟩
    go_loopw [7,8] (fun nv iv wr=>∃ k:Nat,k<=s.size/\iv = .int .i64 k/\nv = .int .i64 (numL (s.data.toList.take k):Nat)/\wr=wo) (fun _ iv _=>s.size - (intOf iv).toNat);case atStart=>exact ⟨0,Kh _,rfl,rfl,rfl⟩
    case round=>
     obtain ⟨k,hk,rfl,rfl,rfl⟩:=hrel;have hbd:=numL_bd _ (digits_take _ k HD.out) (by rw [Jk,size_len];omega);by_cases hlt:k<s.size
     ·exact N31
     ·have hke:k=s.size:=by omega
      subst hke;rw [Zb (by simp)] at hbd ⊢;obtain ⟨n,hn⟩:=Ka (numL s.data.toList);have hOn:OK=true ↔ n<=65535:=by rw [<-HOK.out,<-hn];exact ⟨fun h=>h.2.2,fun h=>⟨HD.out,by rw [size_len];omega,h⟩⟩
      have hr:=HR.out;rw [hn] at hbd hr ⊢;clear hn hlt hk HD HOK HR;have cT:=Kb (Tryz.strings_TrimLeft_one s 48 (by decide) wr);have hz:(⟨(Lib.trimLeftB s.data.toList 48).toArray⟩:ByteArray).data.toList=zerosOff s.data.toList:=rfl;obtain ⟨T,hT⟩:∃ T:ByteArray,⟨(Lib.trimLeftB s.data.toList 48).toArray⟩=T:=⟨_,rfl⟩
      rw [hT] at cT hz;rw [<-hz] at hr;have HR:=Kb hr;clear hz hT hr;by_cases hn5:n<=65535
      ·obtain rfl:=hOn.2 hn5;clear hOn;by_cases hc:n=443
       ·exact M17
       ·have hcb:((n:Int) == 443)=false:=by rw [Ki];omega
        exact M21
      ·exact N54
theorem portC (sch s:ByteArray)(w:World)(hs:s.size<=1000000)(hX:(sch.toList == [104,116,116,112])=false)(hY:(sch.toList == [104,116,116,112,115])=false)(R:List UInt8)(hR:portOf sch.data.toList s.data.toList=R):
 Calls Tryz.prog 65 #[.string sch,.string s] w fun e w'=>∃ t:ByteArray,e = .returned (.tuple #[.string t,.bool (decide (portOk s.data.toList))])/\(portOk s.data.toList->t.data.toList=R)/\w=w':=by
 obtain ⟨OK,hOK⟩:=Ka (decide (portOk s.data.toList));have hP:portOk s.data.toList ↔ OK=true:=by rw [<-hOK];simp
 rw [hOK];simp only [hP];have HOK:=Kb hP;have hx:=hX;have hy:=hY;rw [str_beq] at hx hy;have hR0:R=if (false=true/\numL s.data.toList=80)\/(false=true/\numL s.data.toList=443) then [] else zerosOff s.data.toList:=by
  have e1:(sch.data.toList=httpL) ↔ (false=true):=by simp only [Jb,Zy] at hx;simp [hx]
  exact M30
 have HR:=Kb hR0;clear hR hOK hP hx hy hR0;go_enter Tryz.func65,Tryz.ntmps65;go_wp2_with fail;go_loopw [6] (fun iv wr=>∃ k:Nat,k<=s.size/\iv = .int .i64 k/\(s.data.toList.take k).all digitB=true/\wr=w) (fun iv _=>s.size - (intOf iv).toNat);case atStart=>exact ⟨0,Kh _,rfl,by simp,rfl⟩
 case round=>
  obtain ⟨k,hk,rfl,hd,rfl⟩:=hrel;by_cases hlt:k<s.size
  ·rcases Xn (digitI (s[k].toNat:Int)) with hg | hg
   ·exact N37
   ·exact N42
  ·have hke:k=s.size:=by omega
   subst hke;rw [Zb (by simp)] at hd;have HD:=Kb hd;clear hd hlt hk;by_cases h5:5<s.size
   ·exact N59
   ·go_wp2_with fail;obtain ⟨wo,rfl⟩:∃ wo:World,wo=wr:=⟨_,rfl⟩
    go_loopw [7,8] (fun nv iv wr=>∃ k:Nat,k<=s.size/\iv = .int .i64 k/\nv = .int .i64 (numL (s.data.toList.take k):Nat)/\wr=wo) (fun _ iv _=>s.size - (intOf iv).toNat);case atStart=>exact ⟨0,Kh _,rfl,rfl,rfl⟩
    case round=>
     obtain ⟨k,hk,rfl,rfl,rfl⟩:=hrel;have hbd:=numL_bd _ (digits_take _ k HD.out) (by rw [Jk,size_len];omega);by_cases hlt:k<s.size
     ·exact N31
     ·have hke:k=s.size:=by omega
      subst hke;rw [Zb (by simp)] at hbd ⊢;obtain ⟨n,hn⟩:=Ka (numL s.data.toList);have hOn:OK=true ↔ n<=65535:=by rw [<-HOK.out,<-hn];exact ⟨fun h=>h.2.2,fun h=>⟨HD.out,by rw [size_len];omega,h⟩⟩
      have hr:=HR.out;rw [hn] at hbd hr ⊢;clear hn hlt hk HD HOK HR;have cT:=Kb (Tryz.strings_TrimLeft_one s 48 (by decide) wr);have hz:(⟨(Lib.trimLeftB s.data.toList 48).toArray⟩:ByteArray).data.toList=zerosOff s.data.toList:=rfl;obtain ⟨T,hT⟩:∃ T:ByteArray,⟨(Lib.trimLeftB s.data.toList 48).toArray⟩=T:=⟨_,rfl⟩
      rw [hT] at cT hz;rw [<-hz] at hr;have HR:=Kb hr;clear hz hT hr;by_cases hn5:n<=65535
      ·obtain rfl:=hOn.2 hn5;clear hOn;by_cases hc:n=0
       ·exact M17
       ·have hcb:((n:Int) == 0)=false:=by rw [Ki];omega
        exact M21
      ·exact N54
theorem port_any (sch s:ByteArray)(w:World)(hs:s.size<=1000000):
 Calls Tryz.prog 65 #[.string sch,.string s] w fun e w'=>∃ t:ByteArray,e = .returned (.tuple #[.string t,.bool (decide (portOk s.data.toList))])/\(portOk s.data.toList->t.data.toList=portOf sch.data.toList s.data.toList)/\w=w':=by
 by_cases h1:sch.data.toList=httpL
 ·exact portA sch s w hs (by rw [str_beq,Kx h1]) (by rw [str_beq,h1];rfl) _ rfl
 ·by_cases h2:sch.data.toList=httpsL
  ·exact portB sch s w hs (by rw [str_beq,h2];rfl) (by rw [str_beq,Kx h2]) _ rfl
  ·exact portC sch s w hs (by rw [str_beq,Kj h1]) (by rw [str_beq,Kj h2]) _ rfl
abbrev noneU:U6:=([],[],[],[],[],[])
def strV (l:List UInt8):Value:=.string ⟨l.toArray⟩
def urlV (u:U6):Value:=.agg #[strV u.1,strV u.2.1,strV u.2.2.1,strV u.2.2.2.1,strV u.2.2.2.2.1,strV u.2.2.2.2.2]
def resV (o:Option U6):Value:=.tuple #[urlV (o.getD noneU),.int .i64 (if o.isSome then 0 else 4)]
theorem strV_of {t:ByteArray}{l:List UInt8}(h:t.data.toList=l):Value.string t=strV l:=by subst h;rfl
theorem urlV_of {a b c d e f:ByteArray}{u:U6}(ha:a.data.toList=u.1)(hb:b.data.toList=u.2.1)(hc:c.data.toList=u.2.2.1)(hd:d.data.toList=u.2.2.2.1)(he:e.data.toList=u.2.2.2.2.1)(hf:f.data.toList=u.2.2.2.2.2):
 Value.agg #[.string a,.string b,.string c,.string d,.string e,.string f]=urlV u:=by rw [urlV,strV_of ha,strV_of hb,strV_of hc,strV_of hd,strV_of he,strV_of hf]
theorem res_none {R:Option U6}(h:R=none):Ending.returned (.tuple #[.agg #[.string ⟨#[]⟩,.string ⟨#[]⟩,.string ⟨#[]⟩,.string ⟨#[]⟩,.string ⟨#[]⟩,.string ⟨#[]⟩],.int .i64 4]) = .returned (resV R):=by subst h;rfl
theorem res_some {R:Option U6}{u:U6}(h:R=some u){a b c d e f:ByteArray}(ha:a.data.toList=u.1)(hb:b.data.toList=u.2.1)(hc:c.data.toList=u.2.2.1)(hd:d.data.toList=u.2.2.2.1)(he:e.data.toList=u.2.2.2.2.1)(hf:f.data.toList=u.2.2.2.2.2):
 Ending.returned (.tuple #[.agg #[.string a,.string b,.string c,.string d,.string e,.string f],.int .i64 0]) = .returned (resV R):=by subst h;rw [urlV_of ha hb hc hd he hf];rfl
theorem trimL_len (l:List UInt8):(trimL l).length<=l.length:=by unfold trimL trimE trimF;rw [Xm];refine Kg (Zw _).length_le ?_;rw [Xm];exact (Zw _).length_le
theorem cutp_any (s:ByteArray)(x y:UInt8)(w:World):
 Calls Tryz.prog 63 #[.string s,.string ⟨#[x,y]⟩] w fun e w'=>∃ g:ByteArray,e = .returned (.tuple #[.string g,.bool (decide (s.data.toList.take 2=[x,y]))])/\(s.data.toList.take 2=[x,y]->g.data.toList=s.data.toList.drop 2)/\w'=w:=by
 refine (Tryz.strings_CutPrefix s ⟨#[x,y]⟩ w).mono ?_;rintro e w' ⟨rfl,rfl⟩;have hp:Lib.hasPrefix s.data.toList [x,y]=decide (s.data.toList.take 2=[x,y]):=by
  unfold Lib.hasPrefix
  match s.data.toList with
  | []=>rfl
  | [a]=>simp [List.isPrefixOf]
  | a :: b :: r=>
    simp only [List.isPrefixOf,Bool.and_true,List.take_succ_cons,List.take_zero,List.cons.injEq,and_true]
    by_cases h1:x=a
    ·by_cases h2:y=b
     ·subst h1;subst h2;simp
     ·subst h1;simp [h2,Ne.symm h2]
    ·simp [h1,Ne.symm h1]
 refine ⟨⟨(Lib.trimPrefix s.data.toList [x,y]).toArray⟩,?_,fun h=>?_,rfl⟩
 ·rw [<-hp]
 ·show Lib.trimPrefix s.data.toList [x,y]=_;rw [Lib.trimPrefix,Kf (by rw [hp,Kx h])];rfl
theorem pre_take (c:UInt8)(l:List UInt8):l.take (pre c l).length=pre c l:=by
 by_cases h:c∈l
 ·have:=pre_post c l h
  calc l.take (pre c l).length=(pre c l ++ c :: post c l).take (pre c l).length:=Kq (List.take _) this
   _=pre c l:=List.take_left
 ·rw [pre_all c l h];simp
theorem bcell {W w1:World}(hb:Below W.heap.size W w1):(∀ b o,b<W.heap.size->w1.cell? ⟨b,o,none⟩=W.cell? ⟨b,o,none⟩)/\(∀ b o,b<W.heap.size->w1.frozen? ⟨b,o,none⟩=W.frozen? ⟨b,o,none⟩):=
 ⟨fun b o h=>hb.cell (p:=⟨b,o,none⟩) h,fun b o h=>hb.frozen (p:=⟨b,o,none⟩) h⟩
theorem _root_.Go.RowKit.Below.set6 {w w':World}(h:Below w.heap.size w w')(a b c d e f:Value):Below w.heap.size w ((((((w'.setCell ⟨w.heap.size,0,none⟩ a).setCell ⟨w.heap.size,1,none⟩ b).setCell ⟨w.heap.size,2,none⟩ c).setCell ⟨w.heap.size,3,none⟩ d).setCell ⟨w.heap.size,4,none⟩ e).setCell ⟨w.heap.size,5,none⟩ f):=
 (((((h.setCell lr _).setCell lr _).setCell lr _).setCell lr _).setCell lr _).setCell lr _
def Blank (W:World)(b:Nat):Prop:=∀ j,j<6->(W.cell? ⟨b,j,none⟩).isSome=true
theorem Blank.below {W W':World}{b n:Nat}(h:Blank W b)(hb:Below n W W')(hlt:b<n):Blank W' b:=fun j hj=>by
 rw [hb.cell (p:=⟨b,j,none⟩) hlt];exact h j hj
theorem isSome_set {W:World}{p q:Addr}{v:Value}(h:(W.cell? q).isSome=true):((W.setCell p v).cell? q).isSome=true:=by obtain ⟨x,hx⟩:=Option.isSome_iff_exists.1 h;obtain ⟨y,hy⟩:=cell?_setCell_some (p:=p) (x:=v) hx;rw [hy];rfl
theorem Blank.set {W:World}{b:Nat}(h:Blank W b)(p:Addr)(v:Value):Blank (W.setCell p v) b:=fun j hj=>isSome_set (h j hj)
theorem Blank.new (w:World)(a b c d e f:Value)(T:Nat):Blank (w.alloc (.cells #[a,b,c,d,e,f] T)) w.heap.size:=fun j hj=>by
 have:=cells_new w [a,b,c,d,e,f] T j ([a,b,c,d,e,f][j]'hj) (Jd _)
 have hadd:(⟨w.heap.size,0,none⟩:Addr).add j=⟨w.heap.size,j,none⟩:=by unfold Addr.add;split <;> simp_all
 rw [hadd] at this
 rw [show #[a,b,c,d,e,f]=[a,b,c,d,e,f].toArray from rfl,this];rfl
abbrev set6 (W:World)(k:Nat)(a b c d e f:Value):World:=(((((W.setCell ⟨k,0,none⟩ a).setCell ⟨k,1,none⟩ b).setCell ⟨k,2,none⟩ c).setCell ⟨k,3,none⟩ d).setCell ⟨k,4,none⟩ e).setCell ⟨k,5,none⟩ f
theorem set6_at {W:World}{k:Nat}(h:Blank W k)(a b c d e f:Value):(set6 W k a b c d e f).cell? ⟨k,0,none⟩=some a/\(set6 W k a b c d e f).cell? ⟨k,1,none⟩=some b/\(set6 W k a b c d e f).cell? ⟨k,2,none⟩=some c/\(set6 W k a b c d e f).cell? ⟨k,3,none⟩=some d/\(set6 W k a b c d e f).cell? ⟨k,4,none⟩=some e/\(set6 W k a b c d e f).cell? ⟨k,5,none⟩=some f:=by
 have far:∀ (V:World) (i j:Nat) (v:Value),i≠j->(V.setCell ⟨k,i,none⟩ v).cell? ⟨k,j,none⟩=V.cell? ⟨k,j,none⟩:=fun V i j v hij=>World.cell?_setCell_other V _ _ v (fun e=>hij (by cases e;rfl));have near:∀ (V:World) (i:Nat) (v:Value),Blank V k->i<6->(V.setCell ⟨k,i,none⟩ v).cell? ⟨k,i,none⟩=some v:=fun V i v hV hi=>World.cell?_setCell_same' V _ v (hV i hi);refine ⟨?_,?_,?_,?_,?_,?_⟩
 ·rw [far _ 5 0 _ (by omega),far _ 4 0 _ (by omega),far _ 3 0 _ (by omega),far _ 2 0 _ (by omega),far _ 1 0 _ (by omega)];exact near _ 0 _ h (by omega)
 ·rw [far _ 5 1 _ (by omega),far _ 4 1 _ (by omega),far _ 3 1 _ (by omega),far _ 2 1 _ (by omega)];exact near _ 1 _ (h.set _ _) (by omega)
 ·rw [far _ 5 2 _ (by omega),far _ 4 2 _ (by omega),far _ 3 2 _ (by omega)];exact near _ 2 _ ((h.set _ _).set _ _) (by omega)
 ·rw [far _ 5 3 _ (by omega),far _ 4 3 _ (by omega)];exact near _ 3 _ (((h.set _ _).set _ _).set _ _) (by omega)
 ·rw [far _ 5 4 _ (by omega)];exact near _ 4 _ ((((h.set _ _).set _ _).set _ _).set _ _) (by omega)
 ·exact near _ 5 _ (((((h.set _ _).set _ _).set _ _).set _ _).set _ _) (by omega)
theorem res_cell {fn:Func}(hr:fn.results = #[.cell 2 37,.tmp 3])(tmps:Array Value)(w:World)(k:Nat)(a b c d e f x:Value)(h2:tmps.getD 2 undef = .pointer (some ⟨k,0,none⟩))(h3:tmps.getD 3 undef=x)
 (h:w.cell? ⟨k,0,none⟩=some a/\w.cell? ⟨k,1,none⟩=some b/\w.cell? ⟨k,2,none⟩=some c/\w.cell? ⟨k,3,none⟩=some d/\w.cell? ⟨k,4,none⟩=some e/\w.cell? ⟨k,5,none⟩=some f) :
 (results fn tmps).run Tryz.prog w = .ok (.tuple #[.agg #[a,b,c,d,e,f],x]) w:=by obtain ⟨c0,c1,c2,c3,c4,c5⟩:=h;rw [Xg] at h2 h3;simp [results,hr,h2,h3,go_sem,c0,c1,c2,c3,c4,c5]
theorem url_ret {fn:Func}(hr:fn.results = #[.cell 2 37,.tmp 3])(tmps:Array Value)(W:World)(k:Nat)(hW:Blank W k)(a b c d e f x:Value)(h2:tmps.getD 2 undef = .pointer (some ⟨k,0,none⟩))(h3:tmps.getD 3 undef=x):
 (results fn tmps).run Tryz.prog (set6 W k a b c d e f) = .ok (.tuple #[.agg #[a,b,c,d,e,f],x]) (set6 W k a b c d e f):=res_cell hr tmps _ k a b c d e f x h2 h3 (set6_at hW a b c d e f)
abbrev innerQ:ByteArray:=⟨#[45,46,95,126,33,36,38,39,40,41,42,43,44,59,61,58,64,47,63]⟩
abbrev innerS:ByteArray:=⟨#[45,46,95,126,33,36,38,39,40,41,42,43,44,59,61,58,64,47]⟩
theorem parseN (s:ByteArray)(w:World)(hs:s.size<=300000)(hM:MaxAt w)(hOK:schemeOk (trimL s.data.toList)=false):
 Calls Tryz.prog 28 #[.string s] w fun e w'=>e = .returned (resV (parseL s.data.toList))/\Below w.heap.size w w':=by
 have hR:parseL s.data.toList=none:=by rw [parseL,hOK];rfl
 rw [hR];obtain ⟨T,hT⟩:=Ka (trimL s.data.toList);have hTl:=trimL_len s.data.toList;rw [size_len] at hTl;have cT:=fun w=>trim_any s w (by omega);rw [hT] at cT hTl hOK;have cS:∀ t:ByteArray,t.data.toList=T->∀ w,MaxAt w->Calls Tryz.prog 58 #[.string t] w fun e w'=>∃ a b:ByteArray,e = .returned (.tuple #[.string a,.string b,.bool false])/\Below w.heap.size w w':=fun t ht w hM=>by refine (scheme_any t w (by have:=size_of ht;omega) hM).mono ?_;rintro e w' ⟨a,b,rfl,-,hb⟩;exact ⟨a,b,by rw [ht,hOK],hb⟩
 have CT:=Kb cT;have CS:=Kb cS;clear cT cS hT hOK hR;have hB0:Below w.heap.size w (w.alloc (.cells #[.string ⟨#[]⟩,.string ⟨#[]⟩,.string ⟨#[]⟩,.string ⟨#[]⟩,.string ⟨#[]⟩,.string ⟨#[]⟩] 37)):=(Kc w).alloc lr _;go_enter Tryz.func28,Tryz.ntmps28
 go_wp2_with (first
  | (with_reducible refine (CT.out _).mono ?_;rintro e w' ⟨t,rfl,ht,rfl⟩;have Ht:=Kb ht;clear ht)
  | (with_reducible refine (CS.out _ Ht.out _ (hM.below hB0 lr)).mono ?_;rintro e w1 ⟨a,b,rfl,hb1⟩;obtain ⟨hc1,hf1⟩:=bcell hb1;have hz1:w.heap.size<w1.heap.size:=by have:=hb1.size;simp at this;omega))
 refine bodyPost_ret (v:=resV none) (by simp [results,Tryz.results28,go_sem,hc1,hf1,hz1];rfl) rfl ⟨rfl,?_⟩;exact (Kd hB0 hb1).set6 _ _ _ _ _ _
theorem parseA (s:ByteArray)(w:World)(hs:s.size<=300000)(hM:MaxAt w)(N Rst:List UInt8)(hOK:schemeOk (trimL s.data.toList)=true)(hN:lowL (pre 58 (trimL s.data.toList))=N)(hRs:post 58 (trimL s.data.toList)=Rst)(hab:N=aboutL)(R:Option U6)(hR:restL N Rst=R):
 Calls Tryz.prog 28 #[.string s] w fun e w'=>e = .returned (resV R)/\Below w.heap.size w w':=by
 have hTl:=trimL_len s.data.toList;rw [size_len] at hTl;have hNl:N.length<=s.size:=by rw [<-hN,lowL_len];exact Kg (pre_le _ _) hTl
 have hRl:Rst.length<=s.size:=by rw [<-hRs];exact Kg (post_le _ _) hTl
 have cT:=fun w=>trim_any s w (by omega);obtain ⟨T,hT⟩:=Ka (trimL s.data.toList);rw [hT] at cT hTl hOK hN hRs;have cS:∀ t:ByteArray,t.data.toList=T->∀ w,MaxAt w->Calls Tryz.prog 58 #[.string t] w fun e w'=>∃ a b:ByteArray,e = .returned (.tuple #[.string a,.string b,.bool true])/\a.data.toList=N/\b.data.toList=Rst/\Below w.heap.size w w':=fun t ht w hM=>by refine (scheme_any t w (by have:=size_of ht;omega) hM).mono ?_;rintro e w' ⟨a,b,rfl,hab,hb⟩;rw [ht,hOK] at hab;obtain ⟨h1,h2⟩:=hab rfl;exact ⟨a,b,by rw [ht,hOK],h1.trans hN,h2.trans hRs,hb⟩
 have hpl:=pre_le 35 Rst;have hql:=post_le 35 Rst;obtain ⟨BF,hBF⟩:∃ l,pre 35 Rst=l:=⟨_,rfl⟩
 obtain ⟨FR,hFR⟩:∃ l,post 35 Rst=l:=⟨_,rfl⟩
 obtain ⟨CF,hCF⟩:∃ l,conv (innerL ++ [63]) true FR=l:=⟨_,rfl⟩
 have hR2:R=if BF.all (okC [45])=true then some (N,[],[],BF,[],CF) else none:=by rw [<-hR,restL,Kf hab,hBF,hFR,hCF]
 obtain ⟨OB,hOB⟩:=Ka (BF.all (okC [45]));rw [hOB] at hR2;rw [hBF] at hpl;rw [hFR] at hql;have HOB:=Kb hOB;have CT:=Kb cT;have CS:=Kb cS;have HBF:=Kb hBF;have HFR:=Kb hFR;have HCF:=Kb hCF;have HR:=Kb hR2;have HAB:=Kb hab;clear cT cS hT hOK hR hN hRs hBF hFR hCF hR2 hab hOB;have hB0:Below w.heap.size w (w.alloc (.cells #[.string ⟨#[]⟩,.string ⟨#[]⟩,.string ⟨#[]⟩,.string ⟨#[]⟩,.string ⟨#[]⟩,.string ⟨#[]⟩] 37)):=(Kc w).alloc lr _;go_enter Tryz.func28,Tryz.ntmps28
 go_wp2_with (first
  | (with_reducible refine (CT.out _).mono ?_;rintro e w' ⟨t,rfl,ht,rfl⟩;have Ht:=Kb ht;clear ht)
  | (with_reducible refine (CS.out _ Ht.out _ (hM.below hB0 lr)).mono ?_;rintro e w1 ⟨a,b,rfl,ha,hb,hb1⟩;obtain ⟨hc1,hf1⟩:=bcell hb1;have hz1:w.heap.size<w1.heap.size:=(by have:=hb1.size;simp at this;omega);have hB1:=Kd hB0 hb1;have hbs:=size_of hb;have Ha:=Kb ha;have Hb:=Kb hb;have n1:(a.toList == [97,98,111,117,116])=true:=(by rw [str_beq];exact Kx (ha.trans HAB.out));clear ha hb)
  | (with_reducible refine (cut_any b 35 _ (by omega) (hM.below hB1 lr)).mono ?_;rw [Hb.out,HBF.out,HFR.out];rintro e w2 ⟨c,d,rfl,hc,hd,hb2⟩;obtain ⟨hc2,hf2⟩:=bcell hb2;have hz2:w.heap.size<w2.heap.size:=(by have:=hb2.size;omega);have hB2:=Kd hB1 hb2;have hcs:=size_of hc;have hds:=size_of hd;have Hc:=Kb hc;have Hd:=Kb hd;clear hc hd)
  | (with_reducible refine (convert_any d innerQ true _ (by omega)).mono ?_;rw [Hd.out];rintro e w3 ⟨f,rfl,hf,hb3⟩;obtain ⟨hc3,hf3⟩:=bcell hb3;have hz3:w.heap.size<w3.heap.size:=(by have:=hb3.size;omega);have hB3:=Kd hB2 hb3;have Hf:=Kb hf;clear hf)
  | (go_at_call 62;refine (only_any _ _ _ (by omega)).mono ?_;rw [Hc.out,show (⟨#[45]⟩:ByteArray).data.toList=[45] from rfl,HOB.out];rintro e w' ⟨rfl,rfl⟩;rcases Xn OB with rfl | rfl))
 ·refine bodyPost_ret (v:=.tuple #[.agg #[.string a,.string ⟨#[]⟩,.string ⟨#[]⟩,.string c,.string ⟨#[]⟩,.string f],.int .i64 0]) (by simp [results,Tryz.results28,go_sem,hc1,hf1,hz1,hc2,hf2,hz2,hc3,hf3,hz3]) rfl ⟨res_some HR.out Ha.out rfl rfl Hc.out rfl (Hf.out.trans HCF.out),?_⟩;exact (hB3.set6 _ _ _ _ _ _).alloc (by simp;omega) _
 ·refine bodyPost_ret (v:=resV none) (by simp [results,Tryz.results28,go_sem,hc1,hf1,hz1,hc2,hf2,hz2,hc3,hf3,hz3];rfl) rfl ⟨by rw [HR.out];rfl,?_⟩;exact (hB3.set6 _ _ _ _ _ _).alloc (by simp;omega) _
end Go.Proofs.YtjdhaacmlpegoaaGreatDoor
