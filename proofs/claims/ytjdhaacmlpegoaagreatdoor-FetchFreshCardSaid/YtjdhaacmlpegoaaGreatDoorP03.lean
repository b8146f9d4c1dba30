/- Part 3 of what the proof needs: UO UE UF UG UH. -/
import Derived.Test.YtjdhaacmlpegoaaGreatDoorP02
import Derived.WalkSmall
import Derived.Test.YtjdhaacmlpegoaaGreatDoorP01
set_option maxRecDepth 20000
set_option maxHeartbeats 16000000
namespace Go.Proofs.YtjdhaacmlpegoaaGreatDoor
open Go.RowKit
set_option linter.unusedSimpArgs false
set_option linter.unusedVariables false
theorem empty_iff (p:ByteArray):p.toList.isEmpty=true ↔ p.data.toList=[]:=by rw [List.isEmpty_iff,ByteArray.toList_eq]
def codedL:List UInt8->Bool
 | c :: a :: b :: _=>c == 37 && decide (0<=hexB a) && decide (0<=hexB b)
 | _=>false
theorem drop3 (s:ByteArray)(i:Nat)(h:i+2<s.size):s.data.toList.drop i=s[i] :: s[i+1] :: s[i+2] :: s.data.toList.drop (i+3):=by
 rw [drop_at s i (by omega),drop_at s (i+1) (by omega),drop_at s (i+2) h]
theorem codedL_short (l:List UInt8)(h:l.length<=2):codedL l=false:=by
 match l,h with
 | [],_=>rfl
 | [_],_=>rfl
 | [_,_],_=>rfl
theorem codedL_no (c:UInt8)(l:List UInt8)(h:c≠37):codedL (c :: l)=false:=by
 match l with
 | []=>rfl
 | [_]=>rfl
 | _ :: _ :: _=>simp [codedL,h]
theorem coded_any (s:ByteArray)(i:Nat)(w:World)(hs:s.size<=1000000)(hi:i<s.size):
 Calls Tryz.prog 109 #[.string s,.int .i64 (i:Int)] w fun e w'=>e = .returned (.bool (codedL (s.data.toList.drop i)))/\w=w':=by
 by_cases hc:s[i]=37
 ·by_cases h2:i+2<s.size
  ·have h2i:(i:Int)+2<(s.size:Int):=by omega
   have hii:(0:Int)<=(i:Int):=by omega
   rw [drop3 s i h2,codedL,hc]
   have ba:=hexI_bd (s[i+1].toNat:Int)
   have bb:=hexI_bd (s[i+2].toNat:Int)
   have cA:=fun w=>hex_any (s[i+1].toNat:Int) w (byte_bd _)
   have cB:=fun w=>hex_any (s[i+2].toNat:Int) w (byte_bd _)
   have e1:hexB s[i+1]=hexI (s[i+1].toNat:Int):=rfl
   have e2:hexB s[i+2]=hexI (s[i+2].toNat:Int):=rfl
   rw [e1,e2]
   obtain ⟨x,hx⟩:∃ x,hexI (s[i+1].toNat:Int)=x:=⟨_,rfl⟩
   obtain ⟨y,hy⟩:∃ y,hexI (s[i+2].toNat:Int)=y:=⟨_,rfl⟩
   rw [hx] at ba cA ⊢
   rw [hy] at bb cB ⊢
   have A:=Lib.hid cA
   have B:=Lib.hid cB
   have hci:(s[i].toNat:Int)=37:=by rw [hc];rfl
   clear cA cB hx hy e1 e2 hc
   go_enter Tryz.func109,Tryz.ntmps109
   go_wp2_with (first
    | (go_at_call 160;with_reducible refine (A.out _).mono ?_;rintro e w' ⟨rfl,rfl⟩)
    | (go_at_call 160;with_reducible refine (B.out _).mono ?_;rintro e w' ⟨rfl,rfl⟩))
   all_goals (go_ret;exact ⟨ret_bool (by simp [*] <;> omega),rfl⟩)
  ·rw [codedL_short _ (by simp;omega)]
   have h2i:¬ (i:Int)+2<(s.size:Int):=by omega
   have hii:(0:Int)<=(i:Int):=by omega
   have hci:(s[i].toNat:Int)=37:=by rw [hc];rfl
   clear hc
   go_enter Tryz.func109,Tryz.ntmps109
   go_wp2_with fail
   all_goals (go_ret;exact ⟨ret_bool (by simp [*] <;> omega),rfl⟩)
 ·rw [drop_at s i hi,codedL_no _ _ hc]
  have hci:¬ (s[i].toNat:Int)=37:=fun e=>hc (UInt8.toNat_inj.1 (by rw [show (37:UInt8).toNat=37 from rfl];omega))
  clear hc
  go_enter Tryz.func109,Tryz.ntmps109
  go_wp2_with fail
  all_goals (go_ret;exact ⟨ret_bool (by simp [*] <;> omega),rfl⟩)
def digs:List UInt8:=[48,49,50,51,52,53,54,55,56,57,65,66,67,68,69,70]
def dig (n:Nat):UInt8:=digs.getD n 0
def pct (b:UInt8):List UInt8:=[37,dig (b.toNat / 16),dig (b.toNat % 16)]
abbrev digsS:ByteArray:=⟨#[48,49,50,51,52,53,54,55,56,57,65,66,67,68,69,70]⟩
def conv (keep:List UInt8)(codes:Bool):List UInt8->List UInt8
 | []=>[]
 | c :: r=>(if okC keep c || (codes && codedL (c :: r)) then [c] else pct c) ++ conv keep codes r
theorem conv_len (keep:List UInt8)(codes:Bool)(l:List UInt8):(conv keep codes l).length<=3 * l.length:=by
 induction l with
 | nil=>simp [conv]
 | cons c r ih=>unfold conv;split <;> simp [pct] <;> omega
theorem digs_get (n:Nat)(h:n<digsS.size):digsS[n]=dig n:=by
 have:∀ i:Fin 16,digsS[i.1]'(by have:=i.2;show _<16;omega)=dig i.1:=by decide
 exact this ⟨n,h⟩
theorem pct_cells (b:UInt8):Lib.byteCells (pct b)=[Value.int .u8 37,.int .u8 ((digsS[b.toNat / 16]'(by have:=b.toNat_lt;show _<16;omega)).toNat:Int),.int .u8 ((digsS[b.toNat % 16]'(by have:=b.toNat_lt;show _<16;omega)).toNat:Int)]:=by
 rw [digs_get,digs_get];rfl
theorem convertT_any (s keep:ByteArray)(w:World)(hs:s.size<=1000000):
 Calls Tryz.prog 61 #[.string s,.string keep,.bool true] w fun e w'=>∃ t:ByteArray,e = .returned (.string t)/\t.data.toList=conv keep.data.toList true s.data.toList/\Below w.heap.size w w':=by
 obtain ⟨R,hR⟩:∃ R,conv keep.data.toList true s.data.toList=R:=⟨_,rfl⟩
 have hRl:R.length<=3 * s.size:=by rw [<-hR,<-size_len];exact conv_len _ _ _
 rw [hR]
 have HR:=Lib.hid hR
 clear hR
 go_enter Tryz.func61,Tryz.ntmps61
 go_wp2
 go_loopw [8] (fun i wr=>∃ (k:Nat) (acc:List UInt8),k<=s.size/\i = .int .i64 k/\Lib.IsBuilderF 148 5 w.heap.size w.heap.size (Lib.byteCells acc) wr/\Below w.heap.size w wr/\acc ++ conv keep.data.toList true (s.data.toList.drop k)=R) (fun i _=>s.size - (intOf i).toNat)
 case atStart=>exact ⟨0,[],Nat.zero_le _,rfl,Lib.IsBuilderF.of (Lib.fresh_isBuilder 148 5 w),(Below.refl _ w).alloc lr _,HR.out⟩
 case round=>
  obtain ⟨k,acc,hk,rfl,hI,hbw,hacc⟩:=hrel
  have hal:acc.length<=3000000:=by have:=congrArg List.length hacc;simp at this;omega
  have hwz:=hbw.size
  by_cases hlt:k<s.size
  ·have hki:(k:Int)<(s.size:Int):=by omega
   have hcd:conv keep.data.toList true (s.data.toList.drop k)=(if okC keep.data.toList s[k] || (true && codedL (s.data.toList.drop k)) then [s[k]] else pct s[k]) ++ conv keep.data.toList true (s.data.toList.drop (k+1)):=by
    rw [drop_at s k hlt,conv]
   rw [hcd] at hacc
   have cI:=Tryz.strings_IndexByte keep (s[k].toNat:Int)
   rw [byte_back] at cI
   have hc:=idx_in keep.data.toList s[k]
   have ho:okC keep.data.toList s[k]=(letterI s[k].toNat || digitI s[k].toNat || keep.data.toList.contains s[k]):=rfl
   have hge:=Lib.indexByte_ge keep.data.toList s[k]
   obtain ⟨x,hxe⟩:∃ x,Lib.indexByte keep.data.toList s[k]=x:=⟨_,rfl⟩
   rw [hxe] at cI hc hge
   obtain ⟨C,hC⟩:∃ C,keep.data.toList.contains s[k]=C:=⟨_,rfl⟩
   rw [hC] at hc ho
   have cD:=fun w=>coded_any s k w hs hlt
   obtain ⟨D,hD⟩:∃ D,codedL (s.data.toList.drop k)=D:=⟨_,rfl⟩
   rw [hD] at cD hacc
   rw [ho] at hacc
   have cL:=fun w=>letter_any (s[k].toNat:Int) w
   have cG:=fun w=>digit_any (s[k].toNat:Int) w
   obtain ⟨LE,hLE⟩:∃ D,letterI (s[k].toNat:Int)=D:=⟨_,rfl⟩
   obtain ⟨DI,hDI⟩:∃ D,digitI (s[k].toNat:Int)=D:=⟨_,rfl⟩
   rw [hLE] at cL hacc
   rw [hDI] at cG hacc
   have hx:(C=false/\x = -1)\/(C=true/\∃ n:Nat,x=n):=by
    cases C <;> simp at hc
    ·exact .inl ⟨rfl,by omega⟩
    ·exact .inr ⟨rfl,x.toNat,by omega⟩
   have I:=Lib.hid cI
   have D1:=Lib.hid cD
   have L1:=Lib.hid cL
   have G1:=Lib.hid cG
   have HA:=Lib.hid hacc
   clear cI cD cL cG hacc hC hD hLE hDI hxe hge hc ho hcd
   rcases hx with ⟨rfl,rfl⟩ | ⟨rfl,n,rfl⟩
   all_goals
    go_wp2_with (first
     | (go_at_call 106;with_reducible refine (L1.out _).mono ?_;rintro e w' ⟨rfl,rfl⟩)
     | (go_at_call 108;with_reducible refine (G1.out _).mono ?_;rintro e w' ⟨rfl,rfl⟩)
     | (go_at_call 64;with_reducible refine (I.out _).mono ?_;rintro e w' ⟨rfl,rfl⟩)
     | (go_at_call 109;with_reducible refine (D1.out _).mono ?_;rintro e w' ⟨rfl,rfl⟩)
     | (go_at_call 110;refine (Tryz.Builder_WriteByte_k w.heap.size w.heap.size _ _ _ (Or.inr h2) (by simp [Lib.byteCells_length];omega) hz2).mono ?_;rintro e W3 ⟨rfl,h3,b3,k3⟩)
     | (go_at_call 110;refine (Tryz.Builder_WriteByte_k w.heap.size w.heap.size _ _ _ (Or.inr h1) (by simp [Lib.byteCells_length];omega) hz1).mono ?_;rintro e W2 ⟨rfl,h2,b2,k2⟩;have hz2:=Nat.le_trans hz1 b2.size)
     | (go_at_call 110;refine (Tryz.Builder_WriteByte_k w.heap.size w.heap.size _ _ _ hI (by rw [Lib.byteCells_length];omega) hwz).mono ?_;rintro e W1 ⟨rfl,h1,b1,k1⟩;have hz1:=Nat.le_trans hwz b1.size))
    all_goals first
     | (go_roundw
        case rel=>
         refine ⟨k+1,acc ++ [s[k]],by omega,by go_num,?_,hbw.trans b1,?_⟩
         ·rw [Lib.byteCells_append];exact Or.inr h1
         ·rw [<-HA.out];simp [*]
        case measure=>simp [intOf];omega)
     | (have hq:=byte_bd s[k];exfalso;omega)
     | (go_roundw
        case rel=>
         refine ⟨k+1,acc ++ pct s[k],by omega,by go_num,?_,((hbw.trans b1).trans b2).trans b3,?_⟩
         ·rw [Lib.byteCells_append,pct_cells]
          simp only [List.append_assoc,List.singleton_append,List.cons_append,List.nil_append] at h3
          exact Or.inr h3
         ·rw [<-HA.out];simp [*]
        case measure=>simp [intOf];omega)
  ·rw [drop_end s k (by omega),conv,List.append_nil] at hacc
   subst hacc
   go_wp2_with (go_at_call 111;refine (Tryz.Builder_String_any_k w.heap.size w.heap.size acc _ hI hbw.size).mono ?_)
   rintro e W1 ⟨rfl,_,b1,_⟩
   go_wp2
   go_ret
   exact ⟨_,rfl,rfl,hbw.trans b1⟩
theorem convertF_any (s keep:ByteArray)(w:World)(hs:s.size<=1000000):
 Calls Tryz.prog 61 #[.string s,.string keep,.bool false] w fun e w'=>∃ t:ByteArray,e = .returned (.string t)/\t.data.toList=conv keep.data.toList false s.data.toList/\Below w.heap.size w w':=by
 obtain ⟨R,hR⟩:∃ R,conv keep.data.toList false s.data.toList=R:=⟨_,rfl⟩
 have hRl:R.length<=3 * s.size:=by rw [<-hR,<-size_len];exact conv_len _ _ _
 rw [hR]
 have HR:=Lib.hid hR
 clear hR
 go_enter Tryz.func61,Tryz.ntmps61
 go_wp2
 go_loopw [8] (fun i wr=>∃ (k:Nat) (acc:List UInt8),k<=s.size/\i = .int .i64 k/\Lib.IsBuilderF 148 5 w.heap.size w.heap.size (Lib.byteCells acc) wr/\Below w.heap.size w wr/\acc ++ conv keep.data.toList false (s.data.toList.drop k)=R) (fun i _=>s.size - (intOf i).toNat)
 case atStart=>exact ⟨0,[],Nat.zero_le _,rfl,Lib.IsBuilderF.of (Lib.fresh_isBuilder 148 5 w),(Below.refl _ w).alloc lr _,HR.out⟩
 case round=>
  obtain ⟨k,acc,hk,rfl,hI,hbw,hacc⟩:=hrel
  have hal:acc.length<=3000000:=by have:=congrArg List.length hacc;simp at this;omega
  have hwz:=hbw.size
  by_cases hlt:k<s.size
  ·have hki:(k:Int)<(s.size:Int):=by omega
   have hcd:conv keep.data.toList false (s.data.toList.drop k)=(if okC keep.data.toList s[k] || (false && codedL (s.data.toList.drop k)) then [s[k]] else pct s[k]) ++ conv keep.data.toList false (s.data.toList.drop (k+1)):=by
    rw [drop_at s k hlt,conv]
   rw [hcd] at hacc
   have cI:=Tryz.strings_IndexByte keep (s[k].toNat:Int)
   rw [byte_back] at cI
   have hc:=idx_in keep.data.toList s[k]
   have ho:okC keep.data.toList s[k]=(letterI s[k].toNat || digitI s[k].toNat || keep.data.toList.contains s[k]):=rfl
   have hge:=Lib.indexByte_ge keep.data.toList s[k]
   obtain ⟨x,hxe⟩:∃ x,Lib.indexByte keep.data.toList s[k]=x:=⟨_,rfl⟩
   rw [hxe] at cI hc hge
   obtain ⟨C,hC⟩:∃ C,keep.data.toList.contains s[k]=C:=⟨_,rfl⟩
   rw [hC] at hc ho
   have cD:=fun w=>coded_any s k w hs hlt
   obtain ⟨D,hD⟩:∃ D,codedL (s.data.toList.drop k)=D:=⟨_,rfl⟩
   rw [hD] at cD hacc
   rw [ho] at hacc
   have cL:=fun w=>letter_any (s[k].toNat:Int) w
   have cG:=fun w=>digit_any (s[k].toNat:Int) w
   obtain ⟨LE,hLE⟩:∃ D,letterI (s[k].toNat:Int)=D:=⟨_,rfl⟩
   obtain ⟨DI,hDI⟩:∃ D,digitI (s[k].toNat:Int)=D:=⟨_,rfl⟩
   rw [hLE] at cL hacc
   rw [hDI] at cG hacc
   have hx:(C=false/\x = -1)\/(C=true/\∃ n:Nat,x=n):=by
    cases C <;> simp at hc
    ·exact .inl ⟨rfl,by omega⟩
    ·exact .inr ⟨rfl,x.toNat,by omega⟩
   have I:=Lib.hid cI
   have D1:=Lib.hid cD
   have L1:=Lib.hid cL
   have G1:=Lib.hid cG
   have HA:=Lib.hid hacc
   clear cI cD cL cG hacc hC hD hLE hDI hxe hge hc ho hcd
   rcases hx with ⟨rfl,rfl⟩ | ⟨rfl,n,rfl⟩
   all_goals
    go_wp2_with (first
     | (go_at_call 106;with_reducible refine (L1.out _).mono ?_;rintro e w' ⟨rfl,rfl⟩)
     | (go_at_call 108;with_reducible refine (G1.out _).mono ?_;rintro e w' ⟨rfl,rfl⟩)
     | (go_at_call 64;with_reducible refine (I.out _).mono ?_;rintro e w' ⟨rfl,rfl⟩)
     | (go_at_call 109;with_reducible refine (D1.out _).mono ?_;rintro e w' ⟨rfl,rfl⟩)
     | (go_at_call 110;refine (Tryz.Builder_WriteByte_k w.heap.size w.heap.size _ _ _ (Or.inr h2) (by simp [Lib.byteCells_length];omega) hz2).mono ?_;rintro e W3 ⟨rfl,h3,b3,k3⟩)
     | (go_at_call 110;refine (Tryz.Builder_WriteByte_k w.heap.size w.heap.size _ _ _ (Or.inr h1) (by simp [Lib.byteCells_length];omega) hz1).mono ?_;rintro e W2 ⟨rfl,h2,b2,k2⟩;have hz2:=Nat.le_trans hz1 b2.size)
     | (go_at_call 110;refine (Tryz.Builder_WriteByte_k w.heap.size w.heap.size _ _ _ hI (by rw [Lib.byteCells_length];omega) hwz).mono ?_;rintro e W1 ⟨rfl,h1,b1,k1⟩;have hz1:=Nat.le_trans hwz b1.size))
    all_goals first
     | (go_roundw
        case rel=>
         refine ⟨k+1,acc ++ [s[k]],by omega,by go_num,?_,hbw.trans b1,?_⟩
         ·rw [Lib.byteCells_append];exact Or.inr h1
         ·rw [<-HA.out];simp [*]
        case measure=>simp [intOf];omega)
     | (have hq:=byte_bd s[k];exfalso;omega)
     | (go_roundw
        case rel=>
         refine ⟨k+1,acc ++ pct s[k],by omega,by go_num,?_,((hbw.trans b1).trans b2).trans b3,?_⟩
         ·rw [Lib.byteCells_append,pct_cells]
          simp only [List.append_assoc,List.singleton_append,List.cons_append,List.nil_append] at h3
          exact Or.inr h3
         ·rw [<-HA.out];simp [*]
        case measure=>simp [intOf];omega)
  ·rw [drop_end s k (by omega),conv,List.append_nil] at hacc
   subst hacc
   go_wp2_with (go_at_call 111;refine (Tryz.Builder_String_any_k w.heap.size w.heap.size acc _ hI hbw.size).mono ?_)
   rintro e W1 ⟨rfl,_,b1,_⟩
   go_wp2
   go_ret
   exact ⟨_,rfl,rfl,hbw.trans b1⟩
theorem convert_any (s keep:ByteArray)(codes:Bool)(w:World)(hs:s.size<=1000000):
 Calls Tryz.prog 61 #[.string s,.string keep,.bool codes] w fun e w'=>∃ t:ByteArray,e = .returned (.string t)/\t.data.toList=conv keep.data.toList codes s.data.toList/\Below w.heap.size w w':=by
 cases codes
 ·exact convertF_any s keep w hs
 ·exact convertT_any s keep w hs
abbrev innerL:List UInt8:=[45,46,95,126,33,36,38,39,40,41,42,43,44,59,61,58,64,47]
end Go.Proofs.YtjdhaacmlpegoaaGreatDoor
