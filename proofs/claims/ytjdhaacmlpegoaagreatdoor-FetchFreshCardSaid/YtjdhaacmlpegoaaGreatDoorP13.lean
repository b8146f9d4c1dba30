/- Part 13 of what the proof needs: TA TB. -/
import Derived.Test.YtjdhaacmlpegoaaGreatDoorP06
import Derived.Test.YtjdhaacmlpegoaaGreatDoorP12
import Derived.Test.YtjdhaacmlpegoaaGreatDoorP01
set_option maxRecDepth 20000
set_option maxHeartbeats 16000000
namespace Go.Proofs.YtjdhaacmlpegoaaGreatDoor
open Go.RowKit
set_option linter.unusedSimpArgs false
set_option linter.unusedVariables false
theorem format_is4 (a b c d e f t:ByteArray)(w:World)(ha:a.size<=1000000)(hb:b.size<=1000000)(hc:c.size<=1000000)(hd:d.size<=1000000)(he:e.size<=1000000)(hf:f.size<=1000000)(ht:t.data.toList=formatL (a.data.toList,b.data.toList,c.data.toList,d.data.toList,e.data.toList,f.data.toList)):
 Calls Tryz.prog 104 #[.agg #[.string a,.string b,.string c,.string d,.string e,.string f]] w fun x w'=>x = .returned (.string t)/\Below w.heap.size w w':=by
 refine (format_any a b c d e f w ha hb hc hd he hf).mono ?_
 rintro x w' ⟨u,rfl,hu,hb⟩
 exact ⟨by rw [byteArray_ext (hu.trans ht.symm)],hb⟩
def methL:List ByteArray:=[⟨#[71,69,84]⟩,⟨#[72,69,65,68]⟩,⟨#[80,79,83,84]⟩,⟨#[80,85,84]⟩,⟨#[68,69,76,69,84,69]⟩]
def knownB (m:ByteArray):Bool:=Lib.containsS methL m
theorem known_is (m:ByteArray)(w:World)(R:Bool)(hR:knownB m=R):
 Calls Tryz.prog 48 #[.string m] w fun e w'=>e = .returned (.bool R)/\Below w.heap.size w w':=by
 have hb:=(Below.refl _ w).alloc lr (.cells (methL.map Value.string).toArray 9)
 have A:=AtL.new w (methL.map Value.string) 9
 have CC:=Lib.hid (Tryz.slices_Contains_string w.heap.size 0 5 5 methL m (w.alloc (.cells (methL.map Value.string).toArray 9)) lr (by decide) (fun j hj=>by rw [Nat.zero_add];exact A.c j (by rw [List.getElem?_map,List.getElem?_eq_getElem hj,List.getD_eq_getElem?_getD,List.getElem?_eq_getElem hj];rfl)))
 have HR:Hid (((methL.take 5).any fun y=>Lib.containsS [y] m)=true\/True):=Lib.hid (Or.inr trivial)
 have HR2:=Lib.hid hR
 clear hR A
 go_enter Tryz.func48,Tryz.ntmps48
 go_wp2_with (go_at_call 103;refine CC.out.mono ?_;rintro e w4 ⟨rfl,rfl⟩)
 go_ret
 exact ⟨ret_bool (by rw [<-HR2.out];rfl),hb⟩
def webB (a:ByteArray):Bool:=(a.toList == [104,116,116,112]) || (a.toList == [104,116,116,112,115])
theorem web_is (a b c d e f:ByteArray)(w:World)(R:Bool)(hR:webB a=R):
 Calls Tryz.prog 50 #[.agg #[.string a,.string b,.string c,.string d,.string e,.string f]] w fun x w'=>x = .returned (.bool R)/\Below w.heap.size w w':=by
 have hb:=(Below.refl _ w).alloc lr (.cells [.string a,.string b,.string c,.string d,.string e,.string f].toArray 37)
 have A:=AtL.new w [.string a,.string b,.string c,.string d,.string e,.string f] 37
 unfold webB at hR
 cases h1:(a.toList == [104,116,116,112]) with
 | true=>
   rw [h1] at hR;subst hR
   go_enter Tryz.func50,Tryz.ntmps50
   go_wp2_with fail
   go_ret
   exact ⟨rfl,hb⟩
 | false=>
   obtain ⟨b5,h5⟩:∃ b5,(a.toList == [104,116,116,112,115])=b5:=⟨_,rfl⟩
   rw [h1,h5] at hR
   have hR:b5=R:=by simpa using hR
   subst hR
   go_enter Tryz.func50,Tryz.ntmps50
   go_wp2_with fail
   go_ret
   exact ⟨rfl,hb⟩
def acoL:List UInt8:=[97,99,99,101,115,115,45,99,111,110,116,114,111,108,45,97,108,108,111,119,45,111,114,105,103,105,110]
def accL:List UInt8:=[97,99,99,101,115,115,45,99,111,110,116,114,111,108,45,97,108,108,111,119,45,99,114,101,100,101,110,116,105,97,108,115]
def acoC:ByteArray:=⟨#[65,99,99,101,115,115,45,67,111,110,116,114,111,108,45,65,108,108,111,119,45,79,114,105,103,105,110]⟩
def accC:ByteArray:=⟨#[65,99,99,101,115,115,45,67,111,110,116,114,111,108,45,65,108,108,111,119,45,67,114,101,100,101,110,116,105,97,108,115]⟩
theorem hdr_cong (hs:List Hd){n1 n2:List UInt8}(h:lowL n1=lowL n2):hdrL hs n1=hdrL hs n2:=by
 unfold hdrL
 have:hitH n1=hitH n2:=by funext x;unfold hitH;rw [h]
 rw [this]
theorem aco_cong (hs:List Hd):hdrL hs acoC.data.toList=hdrL hs acoL:=hdr_cong hs (by decide +kernel)
theorem acc_cong (hs:List Hd):hdrL hs accC.data.toList=hdrL hs accL:=hdr_cong hs (by decide +kernel)
def readB (og:ByteArray)(mo:Int)(ck:Bool)(O:ByteArray)(hd:List Hd):Bool:=(decide (mo=1) || (O.toList == og.toList)) || (decide (mo=3) && ((hdrL hd acoL).isSome && ((!ck || ((valL hd accL).toList == [116,114,117,101])) && (((valL hd acoL).toList == og.toList) || (((valL hd acoL).toList == [42]) && !ck)))))
theorem readable_is (og:ByteArray)(mo:Int)(ck:Bool)(a b c d e f:ByteArray)(vh:Value)(hd:List Hd)(w:World)(hM:MaxAt w)(hv:SlK hdC 2 w vh hd)(hz:HdSz hd)(ha:a.size<=40000)(hb:b.size<=40000)(hc:c.size<=40000)(hdd:d.size<=40000)(he:e.size<=40000)(hf:f.size<=40000)(O:ByteArray)(hO:O.data.toList=orgL (a.data.toList,b.data.toList,c.data.toList,d.data.toList,e.data.toList,f.data.toList))(R:Bool)(hR:readB og mo ck O hd=R):
 Calls Tryz.prog 24 #[.string og,.int .i64 mo,.bool ck,.agg #[.string a,.string b,.string c,.string d,.string e,.string f],vh] w fun x w'=>x = .returned (.bool R)/\Below w.heap.size w w':=by
 have hb0:=(Below.refl _ w).alloc lr (.cells [.string a,.string b,.string c,.string d,.string e,.string f].toArray 37)
 have A0:=AtL.new w [.string a,.string b,.string c,.string d,.string e,.string f] 37
 have HV:=Lib.hid hv
 obtain ⟨va,vc,rfl,_⟩:=hv.shape
 obtain ⟨B,hB⟩:∃ B,(hdrL hd acoL).isSome=B:=⟨_,rfl⟩
 obtain ⟨V,hV⟩:∃ V,valL hd acoL=V:=⟨_,rfl⟩
 obtain ⟨V2,hV2⟩:∃ V2,valL hd accL=V2:=⟨_,rfl⟩
 obtain ⟨b1,h1⟩:∃ b1,(O.toList == og.toList)=b1:=⟨_,rfl⟩
 obtain ⟨b2,h2⟩:∃ b2,(V2.toList == [116,114,117,101])=b2:=⟨_,rfl⟩
 obtain ⟨b3,h3⟩:∃ b3,(V.toList == og.toList)=b3:=⟨_,rfl⟩
 obtain ⟨b4,h4⟩:∃ b4,(V.toList == [42])=b4:=⟨_,rfl⟩
 have h2n:(V2.toList != [116,114,117,101]) = !b2:=by simp only [bne];rw [h2]
 unfold readB at hR
 rw [hB,hV,hV2,h1,h2,h3,h4] at hR
 have CO:=Lib.hid (origin_is a b c d e f O _ ha hb hc hdd he hf (hM.below hb0 lr) hO)
 obtain ⟨B2,hB2'⟩:∃ B2,(hdrL hd accL).isSome=B2:=⟨_,rfl⟩
 have CH1:=Lib.hid (fun (w':World) hv=>(show Calls Tryz.prog 15 #[.slice va hd.length vc,.string ⟨#[65,99,99,101,115,115,45,67,111,110,116,114,111,108,45,65,108,108,111,119,45,79,114,105,103,105,110]⟩] w' fun x w''=>x = .returned (.tuple #[.string V,.bool B])/\Below w'.heap.size w' w'' from hdr_at hd (.slice va hd.length vc) acoC w' hv hz (by decide) V B (by rw [aco_cong];exact hV) (by rw [aco_cong];exact hB)))
 have CH2:=Lib.hid (fun (w':World) hv=>(show Calls Tryz.prog 15 #[.slice va hd.length vc,.string ⟨#[65,99,99,101,115,115,45,67,111,110,116,114,111,108,45,65,108,108,111,119,45,67,114,101,100,101,110,116,105,97,108,115]⟩] w' fun x w''=>x = .returned (.tuple #[.string V2,.bool B2])/\Below w'.heap.size w' w'' from hdr_at hd (.slice va hd.length vc) accC w' hv hz (by decide) V2 B2 (by rw [acc_cong];exact hV2) (by rw [acc_cong];exact hB2')))
 clear hB2' hO
 clear hv hM hB hV hV2
 by_cases m1:mo=1
 ·have hR:true=R:=by rw [<-hR,decide_eq_true m1];simp
  subst hR
  clear h1 h2 h3 h4 h2n
  subst m1
  go_enter Tryz.func24,Tryz.ntmps24
  go_wp2_with (first
   | (go_at_call 29;(with_reducible refine CO.out.mono ?_);rintro e w1 ⟨rfl,hb1⟩;have hB1:=hb0.trans (hb1.mono hb0.size))
   | (go_at_call 15;with_reducible refine (CH1.out _ (HV.out.below hB1 lr)).mono ?_;rintro e w2 ⟨rfl,hb2⟩;have hB2:=hB1.trans (hb2.mono hB1.size))
   | (go_at_call 15;with_reducible refine (CH2.out _ (HV.out.below hB2 lr)).mono ?_;rintro e w3 ⟨rfl,hb3⟩;have hBE:=hB2.trans (hb3.mono hB2.size);have hBF:=hBE;have hBG:=hBE;have hBD:=hBE)
   | fail)
  go_ret
  exact ⟨rfl,hb0⟩
 ·have m1':(mo == 1)=false:=beq_eq_false_iff_ne.2 m1
  cases b1 with
  | true=>
    have hR:true=R:=by rw [<-hR];simp
    subst hR
    go_enter Tryz.func24,Tryz.ntmps24
    go_wp2_with (first
     | (go_at_call 29;(with_reducible refine CO.out.mono ?_);rintro e w1 ⟨rfl,hb1⟩;have hB1:=hb0.trans (hb1.mono hb0.size))
     | (go_at_call 15;with_reducible refine (CH1.out _ (HV.out.below hB1 lr)).mono ?_;rintro e w2 ⟨rfl,hb2⟩;have hB2:=hB1.trans (hb2.mono hB1.size))
     | (go_at_call 15;with_reducible refine (CH2.out _ (HV.out.below hB2 lr)).mono ?_;rintro e w3 ⟨rfl,hb3⟩;have hBE:=hB2.trans (hb3.mono hB2.size);have hBF:=hBE;have hBG:=hBE;have hBD:=hBE)
     | fail)
    go_ret
    exact ⟨rfl,hB1⟩
  | false=>
    by_cases m3:mo=3
    ·subst m3
     cases B with
     | false=>
       have hR:false=R:=by rw [<-hR];simp
       subst hR
       go_enter Tryz.func24,Tryz.ntmps24
       go_wp2_with (first
        | (go_at_call 29;(with_reducible refine CO.out.mono ?_);rintro e w1 ⟨rfl,hb1⟩;have hB1:=hb0.trans (hb1.mono hb0.size))
        | (go_at_call 15;with_reducible refine (CH1.out _ (HV.out.below hB1 lr)).mono ?_;rintro e w2 ⟨rfl,hb2⟩;have hB2:=hB1.trans (hb2.mono hB1.size))
        | (go_at_call 15;with_reducible refine (CH2.out _ (HV.out.below hB2 lr)).mono ?_;rintro e w3 ⟨rfl,hb3⟩;have hBE:=hB2.trans (hb3.mono hB2.size);have hBF:=hBE;have hBG:=hBE;have hBD:=hBE)
        | fail)
       go_ret
       exact ⟨rfl,hBE⟩
     | true=>
       cases ck with
       | true=>
         cases b3 with
         | true=>
           cases b2 with
           | false =>
             have hR:false=R:=by rw [<-hR];simp
             subst hR
             have h2f:(V2.toList != [116,114,117,101])=true:=by rw [h2n];rfl
             clear h2n
             go_enter Tryz.func24,Tryz.ntmps24
             go_wp2_with (first
              | (go_at_call 29;(with_reducible refine CO.out.mono ?_);rintro e w1 ⟨rfl,hb1⟩;have hB1:=hb0.trans (hb1.mono hb0.size))
              | (go_at_call 15;with_reducible refine (CH1.out _ (HV.out.below hB1 lr)).mono ?_;rintro e w2 ⟨rfl,hb2⟩;have hB2:=hB1.trans (hb2.mono hB1.size))
              | (go_at_call 15;with_reducible refine (CH2.out _ (HV.out.below hB2 lr)).mono ?_;rintro e w3 ⟨rfl,hb3⟩;have hBE:=hB2.trans (hb3.mono hB2.size);have hBF:=hBE;have hBG:=hBE;have hBD:=hBE)
              | fail)
             go_ret
             exact ⟨rfl,hBF⟩
           | true =>
             have hR:true=R:=by rw [<-hR];simp
             subst hR
             have h2f:(V2.toList != [116,114,117,101])=false:=by rw [h2n];rfl
             clear h2n
             go_enter Tryz.func24,Tryz.ntmps24
             go_wp2_with (first
              | (go_at_call 29;(with_reducible refine CO.out.mono ?_);rintro e w1 ⟨rfl,hb1⟩;have hB1:=hb0.trans (hb1.mono hb0.size))
              | (go_at_call 15;with_reducible refine (CH1.out _ (HV.out.below hB1 lr)).mono ?_;rintro e w2 ⟨rfl,hb2⟩;have hB2:=hB1.trans (hb2.mono hB1.size))
              | (go_at_call 15;with_reducible refine (CH2.out _ (HV.out.below hB2 lr)).mono ?_;rintro e w3 ⟨rfl,hb3⟩;have hBE:=hB2.trans (hb3.mono hB2.size);have hBF:=hBE;have hBG:=hBE;have hBD:=hBE)
              | fail)
             go_ret
             exact ⟨rfl,hBF⟩
         | false=>
           have hR:false=R:=by rw [<-hR];cases b2 <;> cases b4 <;> simp
           subst hR
           cases b2 with
           | false =>
             have h2f:(V2.toList != [116,114,117,101])=true:=by rw [h2n];rfl
             clear h2n
             go_enter Tryz.func24,Tryz.ntmps24
             go_wp2_with (first
              | (go_at_call 29;(with_reducible refine CO.out.mono ?_);rintro e w1 ⟨rfl,hb1⟩;have hB1:=hb0.trans (hb1.mono hb0.size))
              | (go_at_call 15;with_reducible refine (CH1.out _ (HV.out.below hB1 lr)).mono ?_;rintro e w2 ⟨rfl,hb2⟩;have hB2:=hB1.trans (hb2.mono hB1.size))
              | (go_at_call 15;with_reducible refine (CH2.out _ (HV.out.below hB2 lr)).mono ?_;rintro e w3 ⟨rfl,hb3⟩;have hBE:=hB2.trans (hb3.mono hB2.size);have hBF:=hBE;have hBG:=hBE;have hBD:=hBE)
              | fail)
             go_ret
             exact ⟨rfl,hBG⟩
           | true =>
             have h2f:(V2.toList != [116,114,117,101])=false:=by rw [h2n];rfl
             clear h2n
             cases b4 with
             | true =>
               go_enter Tryz.func24,Tryz.ntmps24
               go_wp2_with (first
                | (go_at_call 29;(with_reducible refine CO.out.mono ?_);rintro e w1 ⟨rfl,hb1⟩;have hB1:=hb0.trans (hb1.mono hb0.size))
                | (go_at_call 15;with_reducible refine (CH1.out _ (HV.out.below hB1 lr)).mono ?_;rintro e w2 ⟨rfl,hb2⟩;have hB2:=hB1.trans (hb2.mono hB1.size))
                | (go_at_call 15;with_reducible refine (CH2.out _ (HV.out.below hB2 lr)).mono ?_;rintro e w3 ⟨rfl,hb3⟩;have hBE:=hB2.trans (hb3.mono hB2.size);have hBF:=hBE;have hBG:=hBE;have hBD:=hBE)
                | fail)
               go_ret
               exact ⟨rfl,hBG⟩
             | false =>
               go_enter Tryz.func24,Tryz.ntmps24
               go_wp2_with (first
                | (go_at_call 29;(with_reducible refine CO.out.mono ?_);rintro e w1 ⟨rfl,hb1⟩;have hB1:=hb0.trans (hb1.mono hb0.size))
                | (go_at_call 15;with_reducible refine (CH1.out _ (HV.out.below hB1 lr)).mono ?_;rintro e w2 ⟨rfl,hb2⟩;have hB2:=hB1.trans (hb2.mono hB1.size))
                | (go_at_call 15;with_reducible refine (CH2.out _ (HV.out.below hB2 lr)).mono ?_;rintro e w3 ⟨rfl,hb3⟩;have hBE:=hB2.trans (hb3.mono hB2.size);have hBF:=hBE;have hBG:=hBE;have hBD:=hBE)
                | fail)
               go_ret
               exact ⟨rfl,hBG⟩
       | false=>
         cases b3 with
         | true=>
           have hR:true=R:=by rw [<-hR];cases b4 <;> simp
           subst hR
           go_enter Tryz.func24,Tryz.ntmps24
           go_wp2_with (first
            | (go_at_call 29;(with_reducible refine CO.out.mono ?_);rintro e w1 ⟨rfl,hb1⟩;have hB1:=hb0.trans (hb1.mono hb0.size))
            | (go_at_call 15;with_reducible refine (CH1.out _ (HV.out.below hB1 lr)).mono ?_;rintro e w2 ⟨rfl,hb2⟩;have hB2:=hB1.trans (hb2.mono hB1.size))
            | (go_at_call 15;with_reducible refine (CH2.out _ (HV.out.below hB2 lr)).mono ?_;rintro e w3 ⟨rfl,hb3⟩;have hBE:=hB2.trans (hb3.mono hB2.size);have hBF:=hBE;have hBG:=hBE;have hBD:=hBE)
            | fail)
           go_ret
           exact ⟨rfl,hBG⟩
         | false=>
           have hR:b4=R:=by rw [<-hR];cases b4 <;> simp
           subst hR
           cases b4 with
           | true =>
             go_enter Tryz.func24,Tryz.ntmps24
             go_wp2_with (first
              | (go_at_call 29;(with_reducible refine CO.out.mono ?_);rintro e w1 ⟨rfl,hb1⟩;have hB1:=hb0.trans (hb1.mono hb0.size))
              | (go_at_call 15;with_reducible refine (CH1.out _ (HV.out.below hB1 lr)).mono ?_;rintro e w2 ⟨rfl,hb2⟩;have hB2:=hB1.trans (hb2.mono hB1.size))
              | (go_at_call 15;with_reducible refine (CH2.out _ (HV.out.below hB2 lr)).mono ?_;rintro e w3 ⟨rfl,hb3⟩;have hBE:=hB2.trans (hb3.mono hB2.size);have hBF:=hBE;have hBG:=hBE;have hBD:=hBE)
              | fail)
             go_ret
             exact ⟨rfl,hBG⟩
           | false =>
             go_enter Tryz.func24,Tryz.ntmps24
             go_wp2_with (first
              | (go_at_call 29;(with_reducible refine CO.out.mono ?_);rintro e w1 ⟨rfl,hb1⟩;have hB1:=hb0.trans (hb1.mono hb0.size))
              | (go_at_call 15;with_reducible refine (CH1.out _ (HV.out.below hB1 lr)).mono ?_;rintro e w2 ⟨rfl,hb2⟩;have hB2:=hB1.trans (hb2.mono hB1.size))
              | (go_at_call 15;with_reducible refine (CH2.out _ (HV.out.below hB2 lr)).mono ?_;rintro e w3 ⟨rfl,hb3⟩;have hBE:=hB2.trans (hb3.mono hB2.size);have hBF:=hBE;have hBG:=hBE;have hBD:=hBE)
              | fail)
             go_ret
             exact ⟨rfl,hBG⟩
    ·have hR:false=R:=by rw [<-hR,decide_eq_false m1,decide_eq_false m3];simp
     subst hR
     have m3':(mo == 3)=false:=beq_eq_false_iff_ne.2 m3
     have m3'':(mo != 3)=true:=by simp only [bne];rw [m3'];rfl
     go_enter Tryz.func24,Tryz.ntmps24
     go_wp2_with (first
      | (go_at_call 29;(with_reducible refine CO.out.mono ?_);rintro e w1 ⟨rfl,hb1⟩;have hB1:=hb0.trans (hb1.mono hb0.size))
      | (go_at_call 15;with_reducible refine (CH1.out _ (HV.out.below hB1 lr)).mono ?_;rintro e w2 ⟨rfl,hb2⟩;have hB2:=hB1.trans (hb2.mono hB1.size))
      | (go_at_call 15;with_reducible refine (CH2.out _ (HV.out.below hB2 lr)).mono ?_;rintro e w3 ⟨rfl,hb3⟩;have hBE:=hB2.trans (hb3.mono hB2.size);have hBF:=hBE;have hBG:=hBE;have hBD:=hBE)
      | fail)
     go_ret
     exact ⟨rfl,hBD⟩
end Go.Proofs.YtjdhaacmlpegoaaGreatDoor
