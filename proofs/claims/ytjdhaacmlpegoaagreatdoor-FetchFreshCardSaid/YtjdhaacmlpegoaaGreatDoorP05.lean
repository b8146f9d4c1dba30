/- Part 5 of what the proof needs: US LA LPA. -/
import Derived.Test.YtjdhaacmlpegoaaGreatDoorP04
import Derived.Test.YtjdhaacmlpegoaaGreatDoorP01
import Derived.Deep.RegionHeld3
import Derived.Test.YtjdhaacmlpegoaaGreatDoorP03
set_option maxRecDepth 20000
set_option maxHeartbeats 16000000
namespace Go.Proofs.YtjdhaacmlpegoaaGreatDoor
open Go.RowKit
set_option linter.unusedSimpArgs false
set_option linter.unusedVariables false
theorem ext_tail (s:ByteArray)(a b:Nat)(h:b=s.size):(s.extract a b).data.toList=s.data.toList.drop a:=by subst h;exact ext_to s a
theorem parseBA (s:ByteArray)(w:World)(hs:s.size<=300000)(hM:MaxAt w)(N Rst:List UInt8)(hOK:schemeOk (trimL s.data.toList)=true)(hN:lowL (pre 58 (trimL s.data.toList))=N)(hRs:post 58 (trimL s.data.toList)=Rst)(hab:N≠aboutL)(R:Option U6)(hR:restL N Rst=R)(X Y Z:Bool)(hX:decide (N=[104,116,116,112])=X)(hY:decide (N=[104,116,116,112,115])=Y)(hZ:decide ((pre 35 Rst).take 2=[47,47])=false):
 Calls Tryz.prog 28 #[.string s] w fun e w'=>e = .returned (resV R)/\Below w.heap.size w w':=by
 have hTl:=trimL_len s.data.toList
 rw [size_len] at hTl
 have hNl:N.length<=s.size:=by rw [<-hN,lowL_len];exact Nat.le_trans (pre_le _ _) hTl
 have hRl:Rst.length<=s.size:=by rw [<-hRs];exact Nat.le_trans (post_le _ _) hTl
 have cT:=fun w=>trim_any s w (by omega)
 obtain ⟨T,hT⟩:∃ T,trimL s.data.toList=T:=⟨_,rfl⟩
 rw [hT] at cT hTl hOK hN hRs
 have cS:∀ t:ByteArray,t.data.toList=T->∀ w,MaxAt w->Calls Tryz.prog 58 #[.string t] w fun e w'=>∃ a b:ByteArray,e = .returned (.tuple #[.string a,.string b,.bool true])/\a.data.toList=N/\b.data.toList=Rst/\Below w.heap.size w w':=fun t ht w hM=>by
  refine (scheme_any t w (by have:=size_of ht;omega) hM).mono ?_
  rintro e w' ⟨a,b,rfl,hab,hb⟩
  rw [ht,hOK] at hab
  obtain ⟨h1,h2⟩:=hab rfl
  exact ⟨a,b,by rw [ht,hOK],h1.trans hN,h2.trans hRs,hb⟩
 have hpl:=pre_le 35 Rst
 have hql:=post_le 35 Rst
 obtain ⟨BF,hBF⟩:∃ l,pre 35 Rst=l:=⟨_,rfl⟩
 obtain ⟨FR,hFR⟩:∃ l,post 35 Rst=l:=⟨_,rfl⟩
 obtain ⟨CF,hCF⟩:∃ l,conv (innerL ++ [63]) true FR=l:=⟨_,rfl⟩
 have hR2:R=siteL N CF BF:=by rw [<-hR,restL,if_neg hab,hBF,hFR,hCF]
 have hno:R=none:=by
  rw [hR2,siteL]
  refine if_neg ?_
  rintro ⟨h1,h2⟩
  rw [hBF] at hZ
  simp_all
 rw [hBF] at hZ
 rw [hBF] at hpl
 rw [hFR] at hql
 have CT:=Lib.hid cT
 have CS:=Lib.hid cS
 have HBF:=Lib.hid hBF
 have HFR:=Lib.hid hFR
 have HCF:=Lib.hid hCF
 have HAB:=Lib.hid hab
 have HX:=Lib.hid hX
 have HY:=Lib.hid hY
 have HZ:=Lib.hid hZ
 clear cT cS hT hOK hR hN hRs hBF hFR hCF hR2 hab hX hY hZ
 subst hno
 have hB0:Below w.heap.size w (w.alloc (.cells #[.string ⟨#[]⟩,.string ⟨#[]⟩,.string ⟨#[]⟩,.string ⟨#[]⟩,.string ⟨#[]⟩,.string ⟨#[]⟩] 37)):=(Below.refl _ w).alloc lr _
 go_enter Tryz.func28,Tryz.ntmps28
 go_wp2_with (first
  | (go_at_call 59;with_reducible refine (CT.out _).mono ?_;rintro e w' ⟨t,rfl,ht,rfl⟩;have Ht:=Lib.hid ht;clear ht)
  | (go_at_call 58;with_reducible refine (CS.out _ Ht.out _ (hM.below hB0 lr)).mono ?_;rintro e w1 ⟨a,b,rfl,ha,hb,hb1⟩;obtain ⟨hc1,hf1⟩:=bcell hb1;have hz1:w.heap.size<w1.heap.size:=(by have:=hb1.size;simp at this;omega);have hB1:=hB0.trans (hb1.mono hB0.size);have S1:=(Blank.new w (.string ⟨#[]⟩) (.string ⟨#[]⟩) (.string ⟨#[]⟩) (.string ⟨#[]⟩) (.string ⟨#[]⟩) (.string ⟨#[]⟩) 37).below hb1 (by simp);have hbs:=size_of hb;have Ha:=Lib.hid ha;have Hb:=Lib.hid hb;have n1:(a.toList == [97,98,111,117,116])=false:=(by rw [str_beq,ha];exact decide_eq_false HAB.out);have n2:(a.toList == [104,116,116,112])=X:=(by rw [str_beq,ha];exact HX.out);have n3:(a.toList == [104,116,116,112,115])=Y:=(by rw [str_beq,ha];exact HY.out);clear ha hb)
  | (go_at_call 60;with_reducible refine (cut_any b 35 _ (by omega) (hM.below hB1 lr)).mono ?_;rw [Hb.out,HBF.out,HFR.out];rintro e w2 ⟨c,d,rfl,hc,hd,hb2⟩;obtain ⟨hc2,hf2⟩:=bcell hb2;have hz2:w.heap.size<w2.heap.size:=(by have:=hb2.size;omega);have hB2:=hB1.trans (hb2.mono hB1.size);have S2:=S1.below hb2 hz1;have hcs:=size_of hc;have hds:=size_of hd;have Hc:=Lib.hid hc;have Hd:=Lib.hid hd;clear hc hd)
  | (go_at_call 61;with_reducible refine (convert_any d innerQ true _ (by omega)).mono ?_;rw [Hd.out];rintro e w3 ⟨f,rfl,hf,hb3⟩;obtain ⟨hc3,hf3⟩:=bcell hb3;have hz3:w.heap.size<w3.heap.size:=(by have:=hb3.size;omega);have hB3:=hB2.trans (hb3.mono hB2.size);have S3:=S2.below hb3 hz2;have Hf:=Lib.hid hf;clear hf)
  | (go_at_call 63;with_reducible refine (cutp_any c 47 47 _).mono ?_;rw [Hc.out,HZ.out];rintro e w' ⟨g,rfl,hg,rfl⟩;clear hg))
 all_goals
  refine bodyPost_ret (v:=resV none) (by simp [results,Tryz.results28,go_sem,hc1,hf1,hz1,hc2,hf2,hz2,hc3,hf3,hz3];rfl) rfl ⟨rfl,?_⟩
  exact (hB3.set6 _ _ _ _ _ _).alloc (by simp;omega) _
theorem parseBB (s:ByteArray)(w:World)(hs:s.size<=300000)(hM:MaxAt w)(N Rst:List UInt8)(hOK:schemeOk (trimL s.data.toList)=true)(hN:lowL (pre 58 (trimL s.data.toList))=N)(hRs:post 58 (trimL s.data.toList)=Rst)(hab:N≠aboutL)(R:Option U6)(hR:restL N Rst=R)(X Y Z:Bool)(hX:decide (N=[104,116,116,112])=false)(hY:decide (N=[104,116,116,112,115])=false)(hZ:decide ((pre 35 Rst).take 2=[47,47])=Z):
 Calls Tryz.prog 28 #[.string s] w fun e w'=>e = .returned (resV R)/\Below w.heap.size w w':=by
 have hTl:=trimL_len s.data.toList
 rw [size_len] at hTl
 have hNl:N.length<=s.size:=by rw [<-hN,lowL_len];exact Nat.le_trans (pre_le _ _) hTl
 have hRl:Rst.length<=s.size:=by rw [<-hRs];exact Nat.le_trans (post_le _ _) hTl
 have cT:=fun w=>trim_any s w (by omega)
 obtain ⟨T,hT⟩:∃ T,trimL s.data.toList=T:=⟨_,rfl⟩
 rw [hT] at cT hTl hOK hN hRs
 have cS:∀ t:ByteArray,t.data.toList=T->∀ w,MaxAt w->Calls Tryz.prog 58 #[.string t] w fun e w'=>∃ a b:ByteArray,e = .returned (.tuple #[.string a,.string b,.bool true])/\a.data.toList=N/\b.data.toList=Rst/\Below w.heap.size w w':=fun t ht w hM=>by
  refine (scheme_any t w (by have:=size_of ht;omega) hM).mono ?_
  rintro e w' ⟨a,b,rfl,hab,hb⟩
  rw [ht,hOK] at hab
  obtain ⟨h1,h2⟩:=hab rfl
  exact ⟨a,b,by rw [ht,hOK],h1.trans hN,h2.trans hRs,hb⟩
 have hpl:=pre_le 35 Rst
 have hql:=post_le 35 Rst
 obtain ⟨BF,hBF⟩:∃ l,pre 35 Rst=l:=⟨_,rfl⟩
 obtain ⟨FR,hFR⟩:∃ l,post 35 Rst=l:=⟨_,rfl⟩
 obtain ⟨CF,hCF⟩:∃ l,conv (innerL ++ [63]) true FR=l:=⟨_,rfl⟩
 have hR2:R=siteL N CF BF:=by rw [<-hR,restL,if_neg hab,hBF,hFR,hCF]
 have hno:R=none:=by
  rw [hR2,siteL]
  refine if_neg ?_
  rintro ⟨h1,h2⟩
  rw [hBF] at hZ
  simp_all
 rw [hBF] at hZ
 rw [hBF] at hpl
 rw [hFR] at hql
 have CT:=Lib.hid cT
 have CS:=Lib.hid cS
 have HBF:=Lib.hid hBF
 have HFR:=Lib.hid hFR
 have HCF:=Lib.hid hCF
 have HAB:=Lib.hid hab
 have HX:=Lib.hid hX
 have HY:=Lib.hid hY
 have HZ:=Lib.hid hZ
 clear cT cS hT hOK hR hN hRs hBF hFR hCF hR2 hab hX hY hZ
 subst hno
 have hB0:Below w.heap.size w (w.alloc (.cells #[.string ⟨#[]⟩,.string ⟨#[]⟩,.string ⟨#[]⟩,.string ⟨#[]⟩,.string ⟨#[]⟩,.string ⟨#[]⟩] 37)):=(Below.refl _ w).alloc lr _
 go_enter Tryz.func28,Tryz.ntmps28
 go_wp2_with (first
  | (go_at_call 59;with_reducible refine (CT.out _).mono ?_;rintro e w' ⟨t,rfl,ht,rfl⟩;have Ht:=Lib.hid ht;clear ht)
  | (go_at_call 58;with_reducible refine (CS.out _ Ht.out _ (hM.below hB0 lr)).mono ?_;rintro e w1 ⟨a,b,rfl,ha,hb,hb1⟩;obtain ⟨hc1,hf1⟩:=bcell hb1;have hz1:w.heap.size<w1.heap.size:=(by have:=hb1.size;simp at this;omega);have hB1:=hB0.trans (hb1.mono hB0.size);have S1:=(Blank.new w (.string ⟨#[]⟩) (.string ⟨#[]⟩) (.string ⟨#[]⟩) (.string ⟨#[]⟩) (.string ⟨#[]⟩) (.string ⟨#[]⟩) 37).below hb1 (by simp);have hbs:=size_of hb;have Ha:=Lib.hid ha;have Hb:=Lib.hid hb;have n1:(a.toList == [97,98,111,117,116])=false:=(by rw [str_beq,ha];exact decide_eq_false HAB.out);have n2:(a.toList == [104,116,116,112])=false:=(by rw [str_beq,ha];exact HX.out);have n3:(a.toList == [104,116,116,112,115])=false:=(by rw [str_beq,ha];exact HY.out);clear ha hb)
  | (go_at_call 60;with_reducible refine (cut_any b 35 _ (by omega) (hM.below hB1 lr)).mono ?_;rw [Hb.out,HBF.out,HFR.out];rintro e w2 ⟨c,d,rfl,hc,hd,hb2⟩;obtain ⟨hc2,hf2⟩:=bcell hb2;have hz2:w.heap.size<w2.heap.size:=(by have:=hb2.size;omega);have hB2:=hB1.trans (hb2.mono hB1.size);have S2:=S1.below hb2 hz1;have hcs:=size_of hc;have hds:=size_of hd;have Hc:=Lib.hid hc;have Hd:=Lib.hid hd;clear hc hd)
  | (go_at_call 61;with_reducible refine (convert_any d innerQ true _ (by omega)).mono ?_;rw [Hd.out];rintro e w3 ⟨f,rfl,hf,hb3⟩;obtain ⟨hc3,hf3⟩:=bcell hb3;have hz3:w.heap.size<w3.heap.size:=(by have:=hb3.size;omega);have hB3:=hB2.trans (hb3.mono hB2.size);have S3:=S2.below hb3 hz2;have Hf:=Lib.hid hf;clear hf)
  | (go_at_call 63;with_reducible refine (cutp_any c 47 47 _).mono ?_;rw [Hc.out,HZ.out];rintro e w' ⟨g,rfl,hg,rfl⟩;clear hg))
 all_goals
  refine bodyPost_ret (v:=resV none) (by simp [results,Tryz.results28,go_sem,hc1,hf1,hz1,hc2,hf2,hz2,hc3,hf3,hz3];rfl) rfl ⟨rfl,?_⟩
  exact (hB3.set6 _ _ _ _ _ _).alloc (by simp;omega) _
theorem parseCA (s:ByteArray)(w:World)(hs:s.size<=300000)(hM:MaxAt w)(N Rst:List UInt8)(hOK:schemeOk (trimL s.data.toList)=true)(hN:lowL (pre 58 (trimL s.data.toList))=N)(hRs:post 58 (trimL s.data.toList)=Rst)(hab:N≠aboutL)(R:Option U6)(hR:restL N Rst=R)(Y:Bool)(hX:decide (N=[104,116,116,112])=true)(hY:decide (N=[104,116,116,112,115])=Y)(hZ:(pre 35 Rst).take 2=[47,47]):
 Calls Tryz.prog 28 #[.string s] w fun e w'=>e = .returned (resV R)/\Below w.heap.size w w':=by
 have hTl:=trimL_len s.data.toList
 rw [size_len] at hTl
 have hNl:N.length<=s.size:=by rw [<-hN,lowL_len];exact Nat.le_trans (pre_le _ _) hTl
 have hRl:Rst.length<=s.size:=by rw [<-hRs];exact Nat.le_trans (post_le _ _) hTl
 have cT:=fun w=>trim_any s w (by omega)
 obtain ⟨T,hT⟩:∃ T,trimL s.data.toList=T:=⟨_,rfl⟩
 rw [hT] at cT hTl hOK hN hRs
 have cS:∀ t:ByteArray,t.data.toList=T->∀ w,MaxAt w->Calls Tryz.prog 58 #[.string t] w fun e w'=>∃ a b:ByteArray,e = .returned (.tuple #[.string a,.string b,.bool true])/\a.data.toList=N/\b.data.toList=Rst/\Below w.heap.size w w':=fun t ht w hM=>by
  refine (scheme_any t w (by have:=size_of ht;omega) hM).mono ?_
  rintro e w' ⟨a,b,rfl,hab,hb⟩
  rw [ht,hOK] at hab
  obtain ⟨h1,h2⟩:=hab rfl
  exact ⟨a,b,by rw [ht,hOK],h1.trans hN,h2.trans hRs,hb⟩
 have hpl:=pre_le 35 Rst
 have hql:=post_le 35 Rst
 obtain ⟨BF,hBF⟩:∃ l,pre 35 Rst=l:=⟨_,rfl⟩
 obtain ⟨FR,hFR⟩:∃ l,post 35 Rst=l:=⟨_,rfl⟩
 obtain ⟨CF,hCF⟩:∃ l,conv (innerL ++ [63]) true FR=l:=⟨_,rfl⟩
 have hR2:R=siteL N CF BF:=by rw [<-hR,restL,if_neg hab,hBF,hFR,hCF]
 rw [hBF] at hZ
 have hsch:N=httpL\/N=httpsL:=by simp_all
 obtain ⟨AF,hAF⟩:∃ l,BF.drop 2=l:=⟨_,rfl⟩
 have hafl:AF.length<=BF.length:=by rw [<-hAF];simp
 obtain ⟨PL,hPL⟩:∃ l,pre 63 AF=l:=⟨_,rfl⟩
 have hpll:=pre_le 63 AF
 obtain ⟨QL,hQL⟩:∃ l,post 63 AF=l:=⟨_,rfl⟩
 have hqll:=post_le 63 AF
 obtain ⟨PC,hPC⟩:∃ l,pre 47 PL=l:=⟨_,rfl⟩
 have hpcl:=pre_le 47 PL
 have hpct:=pre_take 47 PL
 obtain ⟨HL,hHL⟩:∃ l,pre 58 PC=l:=⟨_,rfl⟩
 have hhll:=pre_le 58 PC
 obtain ⟨NL,hNL⟩:∃ l,post 58 PC=l:=⟨_,rfl⟩
 have hnll:=post_le 58 PC
 have hR3:R=if portOk NL/\1<=HL.length/\HL.length<=253/\HL.all (okC [45,46])=true then some (N,lowL HL,portOf N NL,cleanL (conv innerL true (PL.drop PC.length)),conv (innerL ++ [63]) true QL,CF) else none:=by
  rw [hR2,siteL,if_pos ⟨hsch,hZ⟩]
  simp only [hAF,hPL,hPC,hHL,hNL,hQL]
 have hIX:Lib.indexByte PL 47=if 47∈PL then (PC.length:Int) else -1:=by rw [indexByte_pre,hPC]
 have hIN:47 ∉ PL->PC=PL:=fun h=>by rw [<-hPC,pre_all 47 PL h]
 rw [hPL] at hpll
 rw [hQL] at hqll
 rw [hPC] at hpcl hpct
 rw [hHL] at hhll
 rw [hNL] at hnll
 rw [hBF] at hpl
 rw [hFR] at hql
 have CT:=Lib.hid cT
 have CS:=Lib.hid cS
 have HBF:=Lib.hid hBF
 have HFR:=Lib.hid hFR
 have HCF:=Lib.hid hCF
 have HAB:=Lib.hid hab
 have HX:=Lib.hid hX
 have HY:=Lib.hid hY
 have HZ:=Lib.hid hZ
 have HR:=Lib.hid hR3
 have HAF:=Lib.hid hAF
 have HPL:=Lib.hid hPL
 have HQL:=Lib.hid hQL
 have HPC:=Lib.hid hPC
 have HHL:=Lib.hid hHL
 have HNL:=Lib.hid hNL
 have HIX:=Lib.hid hIX
 have HIN:=Lib.hid hIN
 have HPT:=Lib.hid hpct
 clear cT cS hT hOK hR hN hRs hBF hFR hCF hR2 hab hX hY hZ hR3 hAF hPL hQL hPC hHL hNL hsch hIX hIN hpct
 obtain ⟨OB,hOB⟩:∃ OB,HL.all (okC [45,46])=OB:=⟨_,rfl⟩
 have HOB:=Lib.hid hOB
 rw [hOB] at HR
 clear hOB
 have hB0:Below w.heap.size w (w.alloc (.cells #[.string ⟨#[]⟩,.string ⟨#[]⟩,.string ⟨#[]⟩,.string ⟨#[]⟩,.string ⟨#[]⟩,.string ⟨#[]⟩] 37)):=(Below.refl _ w).alloc lr _
 go_enter Tryz.func28,Tryz.ntmps28
 go_wp2_with (first
  | (go_at_call 59;with_reducible refine (CT.out _).mono ?_;rintro e w' ⟨t,rfl,ht,rfl⟩;have Ht:=Lib.hid ht;clear ht)
  | (go_at_call 58;with_reducible refine (CS.out _ Ht.out _ (hM.below hB0 lr)).mono ?_;rintro e w1 ⟨a,b,rfl,ha,hb,hb1⟩;obtain ⟨hc1,hf1⟩:=bcell hb1;have hz1:w.heap.size<w1.heap.size:=(by have:=hb1.size;simp at this;omega);have hB1:=hB0.trans (hb1.mono hB0.size);have S1:=(Blank.new w (.string ⟨#[]⟩) (.string ⟨#[]⟩) (.string ⟨#[]⟩) (.string ⟨#[]⟩) (.string ⟨#[]⟩) (.string ⟨#[]⟩) 37).below hb1 (by simp);have hbs:=size_of hb;have Ha:=Lib.hid ha;have Hb:=Lib.hid hb;have n1:(a.toList == [97,98,111,117,116])=false:=(by rw [str_beq,ha];exact decide_eq_false HAB.out);have n2:(a.toList == [104,116,116,112])=true:=(by rw [str_beq,ha];exact HX.out);have n3:(a.toList == [104,116,116,112,115])=Y:=(by rw [str_beq,ha];exact HY.out);clear ha hb)
  | (go_at_call 60;with_reducible refine (cut_any b 35 _ (by omega) (hM.below hB1 lr)).mono ?_;rw [Hb.out,HBF.out,HFR.out];rintro e w2 ⟨c,d,rfl,hc,hd,hb2⟩;obtain ⟨hc2,hf2⟩:=bcell hb2;have hz2:w.heap.size<w2.heap.size:=(by have:=hb2.size;omega);have hB2:=hB1.trans (hb2.mono hB1.size);have S2:=S1.below hb2 hz1;have hcs:=size_of hc;have hds:=size_of hd;have Hc:=Lib.hid hc;have Hd:=Lib.hid hd;clear hc hd)
  | (go_at_call 61;with_reducible refine (convert_any d innerQ true _ (by omega)).mono ?_;rw [Hd.out];rintro e w3 ⟨f,rfl,hf,hb3⟩;obtain ⟨hc3,hf3⟩:=bcell hb3;have hz3:w.heap.size<w3.heap.size:=(by have:=hb3.size;omega);have hB3:=hB2.trans (hb3.mono hB2.size);have S3:=S2.below hb3 hz2;have Hf:=Lib.hid hf;clear hf)
  | (go_at_call 63;with_reducible refine (cutp_any c 47 47 _).mono ?_;rw [Hc.out,decide_eq_true HZ.out];rintro e w' ⟨g,rfl,hg,rfl⟩;have hg:=hg HZ.out;rw [HAF.out] at hg;have hgs:=size_of hg;have Hg:=Lib.hid hg;clear hg;have hB3a:=hB3.alloc (o:=.cells #[.string a,.string ⟨#[]⟩,.string ⟨#[]⟩,.string ⟨#[]⟩,.string ⟨#[]⟩,.string f] 37) hB3.size;have hb3a:=(Below.refl w3.heap.size w3).alloc lr (.cells #[.string a,.string ⟨#[]⟩,.string ⟨#[]⟩,.string ⟨#[]⟩,.string ⟨#[]⟩,.string f] 37);have S3a:=S3.below hb3a hz3)
  | (go_at_call 60;with_reducible refine (cut_any g 63 _ (by omega) (hM.below hB3a lr)).mono ?_;rw [Hg.out,HPL.out,HQL.out];rintro e w4 ⟨p,q,rfl,hp,hq,hb4⟩;obtain ⟨hc4,hf4⟩:=bcell hb4;have hz4:w3.heap.size<w4.heap.size:=(by have:=hb4.size;simp at this;omega);have hy4:w.heap.size<w4.heap.size:=(by omega);have hB4:=hB3a.trans (hb4.mono hB3a.size);have S4:=S3a.below hb4 (by simp;omega);have hps:=size_of hp;have hqs:=size_of hq;have Hp:=Lib.hid hp;have Hq:=Lib.hid hq;clear hp hq)
  | (go_at_call 64;with_reducible refine (Tryz.strings_IndexByte p 47 _).mono ?_;rw [show ((47:Int).toNat.toUInt8)=47 from rfl,Hp.out,HIX.out];rintro e w' ⟨rfl,rfl⟩;rcases Decidable.em (47∈PL) with hin | hin <;> (first | rw [if_pos hin] | (rw [if_neg hin];have hpe:=HIN.out hin;subst hpe)) <;> clear hin)
  | (go_at_call 60;with_reducible refine (cut_any _ 58 _ (by simp;omega) (hM.below hB4 lr)).mono ?_;rw [ext_from,Hp.out,HPT.out,HHL.out,HNL.out];rintro e w5 ⟨h,m,rfl,hh,hm,hb5⟩;obtain ⟨hc5,hf5⟩:=bcell hb5;have hz5:w3.heap.size<w5.heap.size:=(by have:=hb5.size;omega);have hy5:w.heap.size<w5.heap.size:=(by omega);have hB5:=hB4.trans (hb5.mono hB4.size);have S5:=S4.below hb5 hy4;have hhs:=size_of hh;have hms:=size_of hm;have Hh:=Lib.hid hh;have Hm:=Lib.hid hm;clear hh hm)
  | (go_at_call 65;with_reducible refine (port_any a m _ (by omega)).mono ?_;rw [Ha.out,Hm.out];rintro e w' ⟨pt,rfl,hpt,rfl⟩;rcases Decidable.em (portOk NL) with hpo | hpo <;> (first | rw [decide_eq_true hpo] | rw [decide_eq_false hpo]) <;> (have Hpo:=Lib.hid hpo;have Hpt:=Lib.hid hpt;clear hpo hpt))
  | (go_at_call 62;refine (only_any _ _ _ (by omega)).mono ?_;rw [Hh.out,show (⟨#[45,46]⟩:ByteArray).data.toList=[45,46] from rfl,HOB.out];rintro e w' ⟨rfl,rfl⟩;rcases Bool.eq_false_or_eq_true OB with rfl | rfl)
  | (go_at_call 66;with_reducible refine (lower_any h _ (by omega)).mono ?_;rw [Hh.out];rintro e w6 ⟨lo,rfl,hlo,hb6⟩;obtain ⟨hc6,hf6⟩:=bcell hb6;have hz6:w3.heap.size<w6.heap.size:=(by have:=hb6.size;omega);have hy6:w.heap.size<w6.heap.size:=(by omega);have hB6:=hB5.trans (hb6.mono hB5.size);have S6:=S5.below hb6 hy5;have Hlo:=Lib.hid hlo;clear hlo)
  | (go_at_call 61;with_reducible refine (convert_any (p.extract _ _) innerS true _ (by simp;omega)).mono ?_;rw [ext_tail p _ _ (by omega),Hp.out];rintro e w7 ⟨pc,rfl,hpc,hb7⟩;obtain ⟨hc7,hf7⟩:=bcell hb7;have hz7:w3.heap.size<w7.heap.size:=(by have:=hb7.size;simp at this;omega);have hy7:w.heap.size<w7.heap.size:=(by omega);have hB7:=((hB6.setCell (p:=⟨w3.heap.size,1,none⟩) (Nat.le_of_lt hz3) (.string lo)).setCell (p:=⟨w3.heap.size,2,none⟩) (Nat.le_of_lt hz3) (.string pt)).trans (hb7.mono (by simp;omega));have S7:=((S6.set ⟨w3.heap.size,1,none⟩ (.string lo)).set ⟨w3.heap.size,2,none⟩ (.string pt)).below hb7 (by simp;omega);have hpcs:pc.size<=900000:=(by rw [size_of hpc];refine Nat.le_trans (conv_len _ _ _) ?_;rw [List.length_drop];omega);have Hpc:=Lib.hid hpc;clear hpc)
  | (go_at_call 61;with_reducible refine (convert_any ByteArray.empty innerS true _ (by simp)).mono ?_;rw [show ByteArray.empty.data.toList=PC.drop PC.length from (by simp)];rintro e w7 ⟨pc,rfl,hpc,hb7⟩;obtain ⟨hc7,hf7⟩:=bcell hb7;have hz7:w3.heap.size<w7.heap.size:=(by have:=hb7.size;simp at this;omega);have hy7:w.heap.size<w7.heap.size:=(by omega);have hB7:=((hB6.setCell (p:=⟨w3.heap.size,1,none⟩) (Nat.le_of_lt hz3) (.string lo)).setCell (p:=⟨w3.heap.size,2,none⟩) (Nat.le_of_lt hz3) (.string pt)).trans (hb7.mono (by simp;omega));have S7:=((S6.set ⟨w3.heap.size,1,none⟩ (.string lo)).set ⟨w3.heap.size,2,none⟩ (.string pt)).below hb7 (by simp;omega);have hpcs:pc.size<=900000:=(by rw [size_of hpc];refine Nat.le_trans (conv_len _ _ _) ?_;rw [List.length_drop];omega);have Hpc:=Lib.hid hpc;clear hpc)
  | (go_at_call 67;with_reducible refine (clean_any pc _ (by omega) (hM.below hB7 lr)).mono ?_;rw [Hpc.out];rintro e w8 ⟨cl,rfl,hcl,hb8⟩;obtain ⟨hc8,hf8⟩:=bcell hb8;have hz8:w3.heap.size<w8.heap.size:=(by have:=hb8.size;omega);have hy8:w.heap.size<w8.heap.size:=(by omega);have hB8:=hB7.trans (hb8.mono hB7.size);have S8:=S7.below hb8 hy7;have Hcl:=Lib.hid hcl;clear hcl)
  | (go_at_call 61;with_reducible refine (convert_any q innerQ true _ (by omega)).mono ?_;rw [Hq.out];rintro e w9 ⟨q2,rfl,hq2,hb9⟩;obtain ⟨hc9,hf9⟩:=bcell hb9;have hz9:w3.heap.size<w9.heap.size:=(by have:=hb9.size;simp at this;omega);have hy9:w.heap.size<w9.heap.size:=(by omega);have hB9:=(hB8.setCell (p:=⟨w3.heap.size,3,none⟩) (Nat.le_of_lt hz3) (.string cl)).trans (hb9.mono (by simp;omega));have S9:=(S8.set ⟨w3.heap.size,3,none⟩ (.string cl)).below hb9 (by simp;omega);have Hq2:=Lib.hid hq2;clear hq2))
 all_goals first
  | (refine bodyPost_ret (url_ret Tryz.results28 _ _ _ (S9.set ⟨w3.heap.size,4,none⟩ (.string q2)) (.string a) (.string lo) (.string pt) (.string cl) (.string q2) (.string f) (.int .i64 0) rfl rfl) rfl ⟨res_some (u:=(N,lowL HL,portOf N NL,cleanL (conv innerL true (PL.drop PC.length)),conv (innerL ++ [63]) true QL,CF)) (by rw [HR.out,if_pos ⟨Hpo.out,by omega,by omega,by simp⟩]) Ha.out Hlo.out (Hpt.out Hpo.out) Hcl.out Hq2.out (Hf.out.trans HCF.out),(hB9.setCell (p:=⟨w3.heap.size,4,none⟩) (Nat.le_of_lt hz3) _).set6 _ _ _ _ _ _⟩)
  | (refine bodyPost_ret (url_ret Tryz.results28 _ _ _ (S9.set ⟨w3.heap.size,4,none⟩ (.string q2)) (.string a) (.string lo) (.string pt) (.string cl) (.string q2) (.string f) (.int .i64 0) rfl rfl) rfl ⟨res_some (u:=(N,lowL HL,portOf N NL,cleanL (conv innerL true (PC.drop PC.length)),conv (innerL ++ [63]) true QL,CF)) (by rw [HR.out,if_pos ⟨Hpo.out,by omega,by omega,by simp⟩]) Ha.out Hlo.out (Hpt.out Hpo.out) Hcl.out Hq2.out (Hf.out.trans HCF.out),(hB9.setCell (p:=⟨w3.heap.size,4,none⟩) (Nat.le_of_lt hz3) _).set6 _ _ _ _ _ _⟩)
  | (refine bodyPost_ret (url_ret Tryz.results28 _ _ _ S5 (.string ⟨#[]⟩) (.string ⟨#[]⟩) (.string ⟨#[]⟩) (.string ⟨#[]⟩) (.string ⟨#[]⟩) (.string ⟨#[]⟩) (.int .i64 4) rfl rfl) rfl ⟨res_none (by rw [HR.out,if_neg (by rintro ⟨h1,h2,h3,h4⟩;first | exact Hpo.out h1 | omega | cases h4)]),hB5.set6 _ _ _ _ _ _⟩)
theorem parseCB (s:ByteArray)(w:World)(hs:s.size<=300000)(hM:MaxAt w)(N Rst:List UInt8)(hOK:schemeOk (trimL s.data.toList)=true)(hN:lowL (pre 58 (trimL s.data.toList))=N)(hRs:post 58 (trimL s.data.toList)=Rst)(hab:N≠aboutL)(R:Option U6)(hR:restL N Rst=R)(Y:Bool)(hX:decide (N=[104,116,116,112])=false)(hY:decide (N=[104,116,116,112,115])=true)(hZ:(pre 35 Rst).take 2=[47,47]):
 Calls Tryz.prog 28 #[.string s] w fun e w'=>e = .returned (resV R)/\Below w.heap.size w w':=by
 have hTl:=trimL_len s.data.toList
 rw [size_len] at hTl
 have hNl:N.length<=s.size:=by rw [<-hN,lowL_len];exact Nat.le_trans (pre_le _ _) hTl
 have hRl:Rst.length<=s.size:=by rw [<-hRs];exact Nat.le_trans (post_le _ _) hTl
 have cT:=fun w=>trim_any s w (by omega)
 obtain ⟨T,hT⟩:∃ T,trimL s.data.toList=T:=⟨_,rfl⟩
 rw [hT] at cT hTl hOK hN hRs
 have cS:∀ t:ByteArray,t.data.toList=T->∀ w,MaxAt w->Calls Tryz.prog 58 #[.string t] w fun e w'=>∃ a b:ByteArray,e = .returned (.tuple #[.string a,.string b,.bool true])/\a.data.toList=N/\b.data.toList=Rst/\Below w.heap.size w w':=fun t ht w hM=>by
  refine (scheme_any t w (by have:=size_of ht;omega) hM).mono ?_
  rintro e w' ⟨a,b,rfl,hab,hb⟩
  rw [ht,hOK] at hab
  obtain ⟨h1,h2⟩:=hab rfl
  exact ⟨a,b,by rw [ht,hOK],h1.trans hN,h2.trans hRs,hb⟩
 have hpl:=pre_le 35 Rst
 have hql:=post_le 35 Rst
 obtain ⟨BF,hBF⟩:∃ l,pre 35 Rst=l:=⟨_,rfl⟩
 obtain ⟨FR,hFR⟩:∃ l,post 35 Rst=l:=⟨_,rfl⟩
 obtain ⟨CF,hCF⟩:∃ l,conv (innerL ++ [63]) true FR=l:=⟨_,rfl⟩
 have hR2:R=siteL N CF BF:=by rw [<-hR,restL,if_neg hab,hBF,hFR,hCF]
 rw [hBF] at hZ
 have hsch:N=httpL\/N=httpsL:=by simp_all
 obtain ⟨AF,hAF⟩:∃ l,BF.drop 2=l:=⟨_,rfl⟩
 have hafl:AF.length<=BF.length:=by rw [<-hAF];simp
 obtain ⟨PL,hPL⟩:∃ l,pre 63 AF=l:=⟨_,rfl⟩
 have hpll:=pre_le 63 AF
 obtain ⟨QL,hQL⟩:∃ l,post 63 AF=l:=⟨_,rfl⟩
 have hqll:=post_le 63 AF
 obtain ⟨PC,hPC⟩:∃ l,pre 47 PL=l:=⟨_,rfl⟩
 have hpcl:=pre_le 47 PL
 have hpct:=pre_take 47 PL
 obtain ⟨HL,hHL⟩:∃ l,pre 58 PC=l:=⟨_,rfl⟩
 have hhll:=pre_le 58 PC
 obtain ⟨NL,hNL⟩:∃ l,post 58 PC=l:=⟨_,rfl⟩
 have hnll:=post_le 58 PC
 have hR3:R=if portOk NL/\1<=HL.length/\HL.length<=253/\HL.all (okC [45,46])=true then some (N,lowL HL,portOf N NL,cleanL (conv innerL true (PL.drop PC.length)),conv (innerL ++ [63]) true QL,CF) else none:=by
  rw [hR2,siteL,if_pos ⟨hsch,hZ⟩]
  simp only [hAF,hPL,hPC,hHL,hNL,hQL]
 have hIX:Lib.indexByte PL 47=if 47∈PL then (PC.length:Int) else -1:=by rw [indexByte_pre,hPC]
 have hIN:47 ∉ PL->PC=PL:=fun h=>by rw [<-hPC,pre_all 47 PL h]
 rw [hPL] at hpll
 rw [hQL] at hqll
 rw [hPC] at hpcl hpct
 rw [hHL] at hhll
 rw [hNL] at hnll
 rw [hBF] at hpl
 rw [hFR] at hql
 have CT:=Lib.hid cT
 have CS:=Lib.hid cS
 have HBF:=Lib.hid hBF
 have HFR:=Lib.hid hFR
 have HCF:=Lib.hid hCF
 have HAB:=Lib.hid hab
 have HX:=Lib.hid hX
 have HY:=Lib.hid hY
 have HZ:=Lib.hid hZ
 have HR:=Lib.hid hR3
 have HAF:=Lib.hid hAF
 have HPL:=Lib.hid hPL
 have HQL:=Lib.hid hQL
 have HPC:=Lib.hid hPC
 have HHL:=Lib.hid hHL
 have HNL:=Lib.hid hNL
 have HIX:=Lib.hid hIX
 have HIN:=Lib.hid hIN
 have HPT:=Lib.hid hpct
 clear cT cS hT hOK hR hN hRs hBF hFR hCF hR2 hab hX hY hZ hR3 hAF hPL hQL hPC hHL hNL hsch hIX hIN hpct
 obtain ⟨OB,hOB⟩:∃ OB,HL.all (okC [45,46])=OB:=⟨_,rfl⟩
 have HOB:=Lib.hid hOB
 rw [hOB] at HR
 clear hOB
 have hB0:Below w.heap.size w (w.alloc (.cells #[.string ⟨#[]⟩,.string ⟨#[]⟩,.string ⟨#[]⟩,.string ⟨#[]⟩,.string ⟨#[]⟩,.string ⟨#[]⟩] 37)):=(Below.refl _ w).alloc lr _
 go_enter Tryz.func28,Tryz.ntmps28
 go_wp2_with (first
  | (go_at_call 59;with_reducible refine (CT.out _).mono ?_;rintro e w' ⟨t,rfl,ht,rfl⟩;have Ht:=Lib.hid ht;clear ht)
  | (go_at_call 58;with_reducible refine (CS.out _ Ht.out _ (hM.below hB0 lr)).mono ?_;rintro e w1 ⟨a,b,rfl,ha,hb,hb1⟩;obtain ⟨hc1,hf1⟩:=bcell hb1;have hz1:w.heap.size<w1.heap.size:=(by have:=hb1.size;simp at this;omega);have hB1:=hB0.trans (hb1.mono hB0.size);have S1:=(Blank.new w (.string ⟨#[]⟩) (.string ⟨#[]⟩) (.string ⟨#[]⟩) (.string ⟨#[]⟩) (.string ⟨#[]⟩) (.string ⟨#[]⟩) 37).below hb1 (by simp);have hbs:=size_of hb;have Ha:=Lib.hid ha;have Hb:=Lib.hid hb;have n1:(a.toList == [97,98,111,117,116])=false:=(by rw [str_beq,ha];exact decide_eq_false HAB.out);have n2:(a.toList == [104,116,116,112])=false:=(by rw [str_beq,ha];exact HX.out);have n3:(a.toList == [104,116,116,112,115])=true:=(by rw [str_beq,ha];exact HY.out);clear ha hb)
  | (go_at_call 60;with_reducible refine (cut_any b 35 _ (by omega) (hM.below hB1 lr)).mono ?_;rw [Hb.out,HBF.out,HFR.out];rintro e w2 ⟨c,d,rfl,hc,hd,hb2⟩;obtain ⟨hc2,hf2⟩:=bcell hb2;have hz2:w.heap.size<w2.heap.size:=(by have:=hb2.size;omega);have hB2:=hB1.trans (hb2.mono hB1.size);have S2:=S1.below hb2 hz1;have hcs:=size_of hc;have hds:=size_of hd;have Hc:=Lib.hid hc;have Hd:=Lib.hid hd;clear hc hd)
  | (go_at_call 61;with_reducible refine (convert_any d innerQ true _ (by omega)).mono ?_;rw [Hd.out];rintro e w3 ⟨f,rfl,hf,hb3⟩;obtain ⟨hc3,hf3⟩:=bcell hb3;have hz3:w.heap.size<w3.heap.size:=(by have:=hb3.size;omega);have hB3:=hB2.trans (hb3.mono hB2.size);have S3:=S2.below hb3 hz2;have Hf:=Lib.hid hf;clear hf)
  | (go_at_call 63;with_reducible refine (cutp_any c 47 47 _).mono ?_;rw [Hc.out,decide_eq_true HZ.out];rintro e w' ⟨g,rfl,hg,rfl⟩;have hg:=hg HZ.out;rw [HAF.out] at hg;have hgs:=size_of hg;have Hg:=Lib.hid hg;clear hg;have hB3a:=hB3.alloc (o:=.cells #[.string a,.string ⟨#[]⟩,.string ⟨#[]⟩,.string ⟨#[]⟩,.string ⟨#[]⟩,.string f] 37) hB3.size;have hb3a:=(Below.refl w3.heap.size w3).alloc lr (.cells #[.string a,.string ⟨#[]⟩,.string ⟨#[]⟩,.string ⟨#[]⟩,.string ⟨#[]⟩,.string f] 37);have S3a:=S3.below hb3a hz3)
  | (go_at_call 60;with_reducible refine (cut_any g 63 _ (by omega) (hM.below hB3a lr)).mono ?_;rw [Hg.out,HPL.out,HQL.out];rintro e w4 ⟨p,q,rfl,hp,hq,hb4⟩;obtain ⟨hc4,hf4⟩:=bcell hb4;have hz4:w3.heap.size<w4.heap.size:=(by have:=hb4.size;simp at this;omega);have hy4:w.heap.size<w4.heap.size:=(by omega);have hB4:=hB3a.trans (hb4.mono hB3a.size);have S4:=S3a.below hb4 (by simp;omega);have hps:=size_of hp;have hqs:=size_of hq;have Hp:=Lib.hid hp;have Hq:=Lib.hid hq;clear hp hq)
  | (go_at_call 64;with_reducible refine (Tryz.strings_IndexByte p 47 _).mono ?_;rw [show ((47:Int).toNat.toUInt8)=47 from rfl,Hp.out,HIX.out];rintro e w' ⟨rfl,rfl⟩;rcases Decidable.em (47∈PL) with hin | hin <;> (first | rw [if_pos hin] | (rw [if_neg hin];have hpe:=HIN.out hin;subst hpe)) <;> clear hin)
  | (go_at_call 60;with_reducible refine (cut_any _ 58 _ (by simp;omega) (hM.below hB4 lr)).mono ?_;rw [ext_from,Hp.out,HPT.out,HHL.out,HNL.out];rintro e w5 ⟨h,m,rfl,hh,hm,hb5⟩;obtain ⟨hc5,hf5⟩:=bcell hb5;have hz5:w3.heap.size<w5.heap.size:=(by have:=hb5.size;omega);have hy5:w.heap.size<w5.heap.size:=(by omega);have hB5:=hB4.trans (hb5.mono hB4.size);have S5:=S4.below hb5 hy4;have hhs:=size_of hh;have hms:=size_of hm;have Hh:=Lib.hid hh;have Hm:=Lib.hid hm;clear hh hm)
  | (go_at_call 65;with_reducible refine (port_any a m _ (by omega)).mono ?_;rw [Ha.out,Hm.out];rintro e w' ⟨pt,rfl,hpt,rfl⟩;rcases Decidable.em (portOk NL) with hpo | hpo <;> (first | rw [decide_eq_true hpo] | rw [decide_eq_false hpo]) <;> (have Hpo:=Lib.hid hpo;have Hpt:=Lib.hid hpt;clear hpo hpt))
  | (go_at_call 62;refine (only_any _ _ _ (by omega)).mono ?_;rw [Hh.out,show (⟨#[45,46]⟩:ByteArray).data.toList=[45,46] from rfl,HOB.out];rintro e w' ⟨rfl,rfl⟩;rcases Bool.eq_false_or_eq_true OB with rfl | rfl)
  | (go_at_call 66;with_reducible refine (lower_any h _ (by omega)).mono ?_;rw [Hh.out];rintro e w6 ⟨lo,rfl,hlo,hb6⟩;obtain ⟨hc6,hf6⟩:=bcell hb6;have hz6:w3.heap.size<w6.heap.size:=(by have:=hb6.size;omega);have hy6:w.heap.size<w6.heap.size:=(by omega);have hB6:=hB5.trans (hb6.mono hB5.size);have S6:=S5.below hb6 hy5;have Hlo:=Lib.hid hlo;clear hlo)
  | (go_at_call 61;with_reducible refine (convert_any (p.extract _ _) innerS true _ (by simp;omega)).mono ?_;rw [ext_tail p _ _ (by omega),Hp.out];rintro e w7 ⟨pc,rfl,hpc,hb7⟩;obtain ⟨hc7,hf7⟩:=bcell hb7;have hz7:w3.heap.size<w7.heap.size:=(by have:=hb7.size;simp at this;omega);have hy7:w.heap.size<w7.heap.size:=(by omega);have hB7:=((hB6.setCell (p:=⟨w3.heap.size,1,none⟩) (Nat.le_of_lt hz3) (.string lo)).setCell (p:=⟨w3.heap.size,2,none⟩) (Nat.le_of_lt hz3) (.string pt)).trans (hb7.mono (by simp;omega));have S7:=((S6.set ⟨w3.heap.size,1,none⟩ (.string lo)).set ⟨w3.heap.size,2,none⟩ (.string pt)).below hb7 (by simp;omega);have hpcs:pc.size<=900000:=(by rw [size_of hpc];refine Nat.le_trans (conv_len _ _ _) ?_;rw [List.length_drop];omega);have Hpc:=Lib.hid hpc;clear hpc)
  | (go_at_call 61;with_reducible refine (convert_any ByteArray.empty innerS true _ (by simp)).mono ?_;rw [show ByteArray.empty.data.toList=PC.drop PC.length from (by simp)];rintro e w7 ⟨pc,rfl,hpc,hb7⟩;obtain ⟨hc7,hf7⟩:=bcell hb7;have hz7:w3.heap.size<w7.heap.size:=(by have:=hb7.size;simp at this;omega);have hy7:w.heap.size<w7.heap.size:=(by omega);have hB7:=((hB6.setCell (p:=⟨w3.heap.size,1,none⟩) (Nat.le_of_lt hz3) (.string lo)).setCell (p:=⟨w3.heap.size,2,none⟩) (Nat.le_of_lt hz3) (.string pt)).trans (hb7.mono (by simp;omega));have S7:=((S6.set ⟨w3.heap.size,1,none⟩ (.string lo)).set ⟨w3.heap.size,2,none⟩ (.string pt)).below hb7 (by simp;omega);have hpcs:pc.size<=900000:=(by rw [size_of hpc];refine Nat.le_trans (conv_len _ _ _) ?_;rw [List.length_drop];omega);have Hpc:=Lib.hid hpc;clear hpc)
  | (go_at_call 67;with_reducible refine (clean_any pc _ (by omega) (hM.below hB7 lr)).mono ?_;rw [Hpc.out];rintro e w8 ⟨cl,rfl,hcl,hb8⟩;obtain ⟨hc8,hf8⟩:=bcell hb8;have hz8:w3.heap.size<w8.heap.size:=(by have:=hb8.size;omega);have hy8:w.heap.size<w8.heap.size:=(by omega);have hB8:=hB7.trans (hb8.mono hB7.size);have S8:=S7.below hb8 hy7;have Hcl:=Lib.hid hcl;clear hcl)
  | (go_at_call 61;with_reducible refine (convert_any q innerQ true _ (by omega)).mono ?_;rw [Hq.out];rintro e w9 ⟨q2,rfl,hq2,hb9⟩;obtain ⟨hc9,hf9⟩:=bcell hb9;have hz9:w3.heap.size<w9.heap.size:=(by have:=hb9.size;simp at this;omega);have hy9:w.heap.size<w9.heap.size:=(by omega);have hB9:=(hB8.setCell (p:=⟨w3.heap.size,3,none⟩) (Nat.le_of_lt hz3) (.string cl)).trans (hb9.mono (by simp;omega));have S9:=(S8.set ⟨w3.heap.size,3,none⟩ (.string cl)).below hb9 (by simp;omega);have Hq2:=Lib.hid hq2;clear hq2))
 all_goals first
  | (refine bodyPost_ret (url_ret Tryz.results28 _ _ _ (S9.set ⟨w3.heap.size,4,none⟩ (.string q2)) (.string a) (.string lo) (.string pt) (.string cl) (.string q2) (.string f) (.int .i64 0) rfl rfl) rfl ⟨res_some (u:=(N,lowL HL,portOf N NL,cleanL (conv innerL true (PL.drop PC.length)),conv (innerL ++ [63]) true QL,CF)) (by rw [HR.out,if_pos ⟨Hpo.out,by omega,by omega,by simp⟩]) Ha.out Hlo.out (Hpt.out Hpo.out) Hcl.out Hq2.out (Hf.out.trans HCF.out),(hB9.setCell (p:=⟨w3.heap.size,4,none⟩) (Nat.le_of_lt hz3) _).set6 _ _ _ _ _ _⟩)
  | (refine bodyPost_ret (url_ret Tryz.results28 _ _ _ (S9.set ⟨w3.heap.size,4,none⟩ (.string q2)) (.string a) (.string lo) (.string pt) (.string cl) (.string q2) (.string f) (.int .i64 0) rfl rfl) rfl ⟨res_some (u:=(N,lowL HL,portOf N NL,cleanL (conv innerL true (PC.drop PC.length)),conv (innerL ++ [63]) true QL,CF)) (by rw [HR.out,if_pos ⟨Hpo.out,by omega,by omega,by simp⟩]) Ha.out Hlo.out (Hpt.out Hpo.out) Hcl.out Hq2.out (Hf.out.trans HCF.out),(hB9.setCell (p:=⟨w3.heap.size,4,none⟩) (Nat.le_of_lt hz3) _).set6 _ _ _ _ _ _⟩)
  | (refine bodyPost_ret (url_ret Tryz.results28 _ _ _ S5 (.string ⟨#[]⟩) (.string ⟨#[]⟩) (.string ⟨#[]⟩) (.string ⟨#[]⟩) (.string ⟨#[]⟩) (.string ⟨#[]⟩) (.int .i64 4) rfl rfl) rfl ⟨res_none (by rw [HR.out,if_neg (by rintro ⟨h1,h2,h3,h4⟩;first | exact Hpo.out h1 | omega | cases h4)]),hB5.set6 _ _ _ _ _ _⟩)
theorem parse_any (s:ByteArray)(w:World)(hs:s.size<=300000)(hM:MaxAt w):
 Calls Tryz.prog 28 #[.string s] w fun e w'=>e = .returned (resV (parseL s.data.toList))/\Below w.heap.size w w':=by
 rcases Bool.eq_false_or_eq_true (schemeOk (trimL s.data.toList)) with hOK | hOK
 ·rw [parseL,if_pos hOK]
  by_cases hab:lowL (pre 58 (trimL s.data.toList))=aboutL
  ·exact parseA s w hs hM _ _ hOK rfl rfl hab _ rfl
  ·by_cases hZ:(pre 35 (post 58 (trimL s.data.toList))).take 2=[47,47]
   ·by_cases hX:lowL (pre 58 (trimL s.data.toList))=httpL
    ·exact parseCA s w hs hM _ _ hOK rfl rfl hab _ rfl _ (decide_eq_true hX) rfl hZ
    ·by_cases hY:lowL (pre 58 (trimL s.data.toList))=httpsL
     ·exact parseCB s w hs hM _ _ hOK rfl rfl hab _ rfl true (decide_eq_false hX) (decide_eq_true hY) hZ
     ·exact parseBB s w hs hM _ _ hOK rfl rfl hab _ rfl true true _ (decide_eq_false hX) (decide_eq_false hY) rfl
   ·exact parseBA s w hs hM _ _ hOK rfl rfl hab _ rfl _ _ true rfl rfl (decide_eq_false hZ)
 ·exact parseN s w hs hM hOK
def placeL (u:U6):List UInt8:=u.1 ++ 58 :: 47 :: 47 :: u.2.1 ++ (if u.2.2.1=[] then [] else 58 :: u.2.2.1)
def tailL (c:UInt8)(l:List UInt8):List UInt8:=if l=[] then [] else c :: l
def formatL (u:U6):List UInt8:=(if u.1=aboutL then aboutL ++ 58 :: u.2.2.2.1 else placeL u ++ u.2.2.2.1 ++ tailL 63 u.2.2.2.2.1) ++ tailL 35 u.2.2.2.2.2
theorem list_empty {s:ByteArray}(h:s.size=0):s.data.toList=[]:=List.eq_nil_of_length_eq_zero (by rw [size_len];exact h)
theorem list_ne {s:ByteArray}(h:¬ s.size=0):s.data.toList≠[]:=fun e=>h (by rw [<-size_len,e];rfl)
theorem snext6 {w1 wX w3:World}{b:Nat}{v0 v1 v2 v3 v4 v5:Value}(hb:b<w1.heap.size)(h:wX.cell? ⟨b,0,none⟩=some v0/\wX.cell? ⟨b,1,none⟩=some v1/\wX.cell? ⟨b,2,none⟩=some v2/\wX.cell? ⟨b,3,none⟩=some v3/\wX.cell? ⟨b,4,none⟩=some v4/\wX.cell? ⟨b,5,none⟩=some v5/\Below w1.heap.size w1 wX)(h3:Below wX.heap.size wX w3):
 w3.cell? ⟨b,0,none⟩=some v0/\w3.cell? ⟨b,1,none⟩=some v1/\w3.cell? ⟨b,2,none⟩=some v2/\w3.cell? ⟨b,3,none⟩=some v3/\w3.cell? ⟨b,4,none⟩=some v4/\w3.cell? ⟨b,5,none⟩=some v5/\Below w1.heap.size w1 w3:=by
 obtain ⟨h0,h1,h2,h4,h5,h6,hw⟩:=h
 have hb':=Nat.lt_of_lt_of_le hb hw.size
 exact ⟨(h3.cell (p:=⟨b,0,none⟩) hb').trans h0,(h3.cell (p:=⟨b,1,none⟩) hb').trans h1,(h3.cell (p:=⟨b,2,none⟩) hb').trans h2,(h3.cell (p:=⟨b,3,none⟩) hb').trans h4,(h3.cell (p:=⟨b,4,none⟩) hb').trans h5,(h3.cell (p:=⟨b,5,none⟩) hb').trans h6,hw.trans (h3.mono hw.size)⟩
theorem new6 (w:World)(a b c d e f:Value)(T:TypeId):let W:=w.alloc (.cells #[a,b,c,d,e,f] T);W.cell? ⟨w.heap.size,0,none⟩=some a/\W.cell? ⟨w.heap.size,1,none⟩=some b/\W.cell? ⟨w.heap.size,2,none⟩=some c/\W.cell? ⟨w.heap.size,3,none⟩=some d/\W.cell? ⟨w.heap.size,4,none⟩=some e/\W.cell? ⟨w.heap.size,5,none⟩=some f:=by simp
theorem site_any (a b c d e f:ByteArray)(w:World)(ha:a.size<=1000000)(hb:b.size<=1000000)(hc:c.size<=1000000):
 Calls Tryz.prog 68 #[.agg #[.string a,.string b,.string c,.string d,.string e,.string f]] w fun e' w'=>∃ t:ByteArray,e' = .returned (.string t)/\t.data.toList=placeL (a.data.toList,b.data.toList,c.data.toList,d.data.toList,e.data.toList,f.data.toList)/\Below w.heap.size w w':=by
 by_cases h0:c.size=0
 ·have hE:=empty_of c h0
  have hl:=Lib.hid (list_empty h0)
  have hz:(c.size:Int)=0:=by omega
  clear h0
  go_enter Tryz.func68,Tryz.ntmps68
  go_wp2_with fail
  go_ret
  exact ⟨_,rfl,by rw [placeL,if_pos hl.out];simp,(Below.refl _ w).alloc lr _⟩
 ·have hE:=nonempty_of c (by omega)
  have hl:=Lib.hid (list_ne h0)
  clear h0
  go_enter Tryz.func68,Tryz.ntmps68
  go_wp2_with fail
  go_ret
  exact ⟨_,rfl,by rw [placeL,if_neg hl.out];simp,(Below.refl _ w).alloc lr _⟩
theorem site_len (a b c d e f:ByteArray):(placeL (a.data.toList,b.data.toList,c.data.toList,d.data.toList,e.data.toList,f.data.toList)).length<=a.size+b.size+c.size+4:=by
 unfold placeL
 simp only [List.length_append,List.length_cons,size_len]
 split <;> simp <;> omega
theorem format_any (a b c d e f:ByteArray)(w:World)(ha:a.size<=1000000)(hb:b.size<=1000000)(hc:c.size<=1000000)(hd:d.size<=1000000)(he:e.size<=1000000)(hf:f.size<=1000000):
 Calls Tryz.prog 104 #[.agg #[.string a,.string b,.string c,.string d,.string e,.string f]] w fun e' w'=>∃ t:ByteArray,e' = .returned (.string t)/\t.data.toList=formatL (a.data.toList,b.data.toList,c.data.toList,d.data.toList,e.data.toList,f.data.toList)/\Below w.heap.size w w':=by
 obtain ⟨R,hR⟩:∃ R,formatL (a.data.toList,b.data.toList,c.data.toList,d.data.toList,e.data.toList,f.data.toList)=R:=⟨_,rfl⟩
 rw [hR]
 unfold formatL tailL at hR
 have hB0:Below w.heap.size w (w.alloc (.cells #[.string a,.string b,.string c,.string d,.string e,.string f] 37)):=(Below.refl _ w).alloc lr _
 have hpl:=site_len a b c d e f
 by_cases h1:a.data.toList=aboutL
 ·have n1:(a.toList == [97,98,111,117,116])=true:=by rw [str_beq];exact decide_eq_true h1
  simp only [h1,if_true] at hR
  by_cases h0:f.size=0
  ·have hE:=empty_of f h0
   rw [if_pos (list_empty h0)] at hR
   have HR:=Lib.hid hR
   have hz:(f.size:Int)=0:=by omega
   clear hR h1 h0
   go_enter Tryz.func104,Tryz.ntmps104
   go_wp2_with fail
   go_ret
   exact ⟨_,rfl,by rw [<-HR.out];simp,hB0⟩
  ·have hE:=nonempty_of f (by omega)
   rw [if_neg (list_ne h0)] at hR
   have HR:=Lib.hid hR
   clear hR h1 h0
   go_enter Tryz.func104,Tryz.ntmps104
   go_wp2_with fail
   go_ret
   exact ⟨_,rfl,by rw [<-HR.out];simp,hB0⟩
 ·have n1:(a.toList == [97,98,111,117,116])=false:=by rw [str_beq];exact decide_eq_false h1
  simp only [h1,if_false] at hR
  have cS:=fun w=>site_any a b c d e f w ha hb hc
  obtain ⟨PP,hPP⟩:∃ PP,placeL (a.data.toList,b.data.toList,c.data.toList,d.data.toList,e.data.toList,f.data.toList)=PP:=⟨_,rfl⟩
  rw [hPP] at cS hpl hR
  obtain ⟨T,hT⟩:∃ T:ByteArray,⟨PP.toArray⟩=T:=⟨_,rfl⟩
  have hTl:T.data.toList=PP:=by rw [<-hT]
  have hTs:=size_of hTl
  have cS2:∀ w,Calls Tryz.prog 68 #[.agg #[.string a,.string b,.string c,.string d,.string e,.string f]] w fun e' w'=>e' = .returned (.string T)/\Below w.heap.size w w':=fun w=>by
   refine (cS w).mono ?_
   rintro e' w' ⟨t,rfl,ht,hb⟩
   refine ⟨?_,hb⟩
   rw [strV_of ht,<-hT];rfl
  rw [<-hTs] at hpl
  have CS:=Lib.hid cS2
  have HT:=Lib.hid hTl
  clear cS cS2 hPP h1 hT hTl hTs
  by_cases h0:f.size=0
  ·have hE:=empty_of f h0
   rw [if_pos (list_empty h0)] at hR
   by_cases h2:e.size=0
   ·have hE2:=empty_of e h2
    rw [if_pos (list_empty h2)] at hR
    have HR:=Lib.hid hR
    clear hR h0 h2
    go_enter Tryz.func104,Tryz.ntmps104
    go_wp2_with fail
    obtain ⟨K,hK⟩:∃ K,w.heap.size=K:=⟨_,rfl⟩
    obtain ⟨wa,hwa⟩:∃ wa:World,w.alloc (.cells #[.string a,.string b,.string c,.string d,.string e,.string f] 37)=wa:=⟨_,rfl⟩
    obtain ⟨d0,d1,d2,d3,d4,d5⟩:=new6 w (.string a) (.string b) (.string c) (.string d) (.string e) (.string f) 37
    rw [hwa,hK] at d0 d1 d2 d3 d4 d5
    have hkl:K<wa.heap.size:=by rw [<-hwa,<-hK];simp
    rw [hwa] at hB0
    rw [hwa,hK]
    clear hwa
    have hTd:¬ 9223372036854775807<T.size+d.size:=by omega
    go_region_held3 (fun w'=>w'.cell? ⟨K,0,none⟩=some (.string a)/\w'.cell? ⟨K,1,none⟩=some (.string b)/\w'.cell? ⟨K,2,none⟩=some (.string c)/\w'.cell? ⟨K,3,none⟩=some (.string d)/\w'.cell? ⟨K,4,none⟩=some (.string e)/\w'.cell? ⟨K,5,none⟩=some (.string f)/\Below wa.heap.size wa w') (first | exact ⟨d0,d1,d2,d3,d4,d5,(Below.refl _ wa).drew⟩ | (apply snext6 hkl;rotate_left;assumption;assumption) | go_keep) (first | (go_at_call 68;with_reducible refine (CS.out _).mono ?_;rintro e' w4 ⟨rfl,hb4⟩))
    obtain ⟨c0,c1,c2,c3,c4,c5,hb5⟩:w4.cell? ⟨K,0,none⟩=some (.string a)/\w4.cell? ⟨K,1,none⟩=some (.string b)/\w4.cell? ⟨K,2,none⟩=some (.string c)/\w4.cell? ⟨K,3,none⟩=some (.string d)/\w4.cell? ⟨K,4,none⟩=some (.string e)/\w4.cell? ⟨K,5,none⟩=some (.string f)/\Below wa.heap.size wa w4:=by assumption
    clear d0 d1 d2 d3 d4 d5
    have hb6:=hB0.trans (hb5.mono hB0.size)
    go_wp2_with fail
    go_ret
    exact ⟨_,rfl,by rw [<-HR.out,<-HT.out];simp,hb6⟩
   ·have hE2:=nonempty_of e (by omega)
    rw [if_neg (list_ne h2)] at hR
    have HR:=Lib.hid hR
    clear hR h0 h2
    go_enter Tryz.func104,Tryz.ntmps104
    go_wp2_with fail
    obtain ⟨K,hK⟩:∃ K,w.heap.size=K:=⟨_,rfl⟩
    obtain ⟨wa,hwa⟩:∃ wa:World,w.alloc (.cells #[.string a,.string b,.string c,.string d,.string e,.string f] 37)=wa:=⟨_,rfl⟩
    obtain ⟨d0,d1,d2,d3,d4,d5⟩:=new6 w (.string a) (.string b) (.string c) (.string d) (.string e) (.string f) 37
    rw [hwa,hK] at d0 d1 d2 d3 d4 d5
    have hkl:K<wa.heap.size:=by rw [<-hwa,<-hK];simp
    rw [hwa] at hB0
    rw [hwa,hK]
    clear hwa
    have hTd:¬ 9223372036854775807<T.size+d.size:=by omega
    go_region_held3 (fun w'=>w'.cell? ⟨K,0,none⟩=some (.string a)/\w'.cell? ⟨K,1,none⟩=some (.string b)/\w'.cell? ⟨K,2,none⟩=some (.string c)/\w'.cell? ⟨K,3,none⟩=some (.string d)/\w'.cell? ⟨K,4,none⟩=some (.string e)/\w'.cell? ⟨K,5,none⟩=some (.string f)/\Below wa.heap.size wa w') (first | exact ⟨d0,d1,d2,d3,d4,d5,(Below.refl _ wa).drew⟩ | (apply snext6 hkl;rotate_left;assumption;assumption) | go_keep) (first | (go_at_call 68;with_reducible refine (CS.out _).mono ?_;rintro e' w4 ⟨rfl,hb4⟩))
    obtain ⟨c0,c1,c2,c3,c4,c5,hb5⟩:w4.cell? ⟨K,0,none⟩=some (.string a)/\w4.cell? ⟨K,1,none⟩=some (.string b)/\w4.cell? ⟨K,2,none⟩=some (.string c)/\w4.cell? ⟨K,3,none⟩=some (.string d)/\w4.cell? ⟨K,4,none⟩=some (.string e)/\w4.cell? ⟨K,5,none⟩=some (.string f)/\Below wa.heap.size wa w4:=by assumption
    clear d0 d1 d2 d3 d4 d5
    have hb6:=hB0.trans (hb5.mono hB0.size)
    go_wp2_with fail
    go_ret
    exact ⟨_,rfl,by rw [<-HR.out,<-HT.out];simp,hb6⟩
  ·have hE:=nonempty_of f (by omega)
   rw [if_neg (list_ne h0)] at hR
   by_cases h2:e.size=0
   ·have hE2:=empty_of e h2
    rw [if_pos (list_empty h2)] at hR
    have HR:=Lib.hid hR
    clear hR h0 h2
    go_enter Tryz.func104,Tryz.ntmps104
    go_wp2_with fail
    obtain ⟨K,hK⟩:∃ K,w.heap.size=K:=⟨_,rfl⟩
    obtain ⟨wa,hwa⟩:∃ wa:World,w.alloc (.cells #[.string a,.string b,.string c,.string d,.string e,.string f] 37)=wa:=⟨_,rfl⟩
    obtain ⟨d0,d1,d2,d3,d4,d5⟩:=new6 w (.string a) (.string b) (.string c) (.string d) (.string e) (.string f) 37
    rw [hwa,hK] at d0 d1 d2 d3 d4 d5
    have hkl:K<wa.heap.size:=by rw [<-hwa,<-hK];simp
    rw [hwa] at hB0
    rw [hwa,hK]
    clear hwa
    have hTd:¬ 9223372036854775807<T.size+d.size:=by omega
    go_region_held3 (fun w'=>w'.cell? ⟨K,0,none⟩=some (.string a)/\w'.cell? ⟨K,1,none⟩=some (.string b)/\w'.cell? ⟨K,2,none⟩=some (.string c)/\w'.cell? ⟨K,3,none⟩=some (.string d)/\w'.cell? ⟨K,4,none⟩=some (.string e)/\w'.cell? ⟨K,5,none⟩=some (.string f)/\Below wa.heap.size wa w') (first | exact ⟨d0,d1,d2,d3,d4,d5,(Below.refl _ wa).drew⟩ | (apply snext6 hkl;rotate_left;assumption;assumption) | go_keep) (first | (go_at_call 68;with_reducible refine (CS.out _).mono ?_;rintro e' w4 ⟨rfl,hb4⟩))
    obtain ⟨c0,c1,c2,c3,c4,c5,hb5⟩:w4.cell? ⟨K,0,none⟩=some (.string a)/\w4.cell? ⟨K,1,none⟩=some (.string b)/\w4.cell? ⟨K,2,none⟩=some (.string c)/\w4.cell? ⟨K,3,none⟩=some (.string d)/\w4.cell? ⟨K,4,none⟩=some (.string e)/\w4.cell? ⟨K,5,none⟩=some (.string f)/\Below wa.heap.size wa w4:=by assumption
    clear d0 d1 d2 d3 d4 d5
    have hb6:=hB0.trans (hb5.mono hB0.size)
    go_wp2_with fail
    go_ret
    exact ⟨_,rfl,by rw [<-HR.out,<-HT.out];simp,hb6⟩
   ·have hE2:=nonempty_of e (by omega)
    rw [if_neg (list_ne h2)] at hR
    have HR:=Lib.hid hR
    clear hR h0 h2
    go_enter Tryz.func104,Tryz.ntmps104
    go_wp2_with fail
    obtain ⟨K,hK⟩:∃ K,w.heap.size=K:=⟨_,rfl⟩
    obtain ⟨wa,hwa⟩:∃ wa:World,w.alloc (.cells #[.string a,.string b,.string c,.string d,.string e,.string f] 37)=wa:=⟨_,rfl⟩
    obtain ⟨d0,d1,d2,d3,d4,d5⟩:=new6 w (.string a) (.string b) (.string c) (.string d) (.string e) (.string f) 37
    rw [hwa,hK] at d0 d1 d2 d3 d4 d5
    have hkl:K<wa.heap.size:=by rw [<-hwa,<-hK];simp
    rw [hwa] at hB0
    rw [hwa,hK]
    clear hwa
    have hTd:¬ 9223372036854775807<T.size+d.size:=by omega
    go_region_held3 (fun w'=>w'.cell? ⟨K,0,none⟩=some (.string a)/\w'.cell? ⟨K,1,none⟩=some (.string b)/\w'.cell? ⟨K,2,none⟩=some (.string c)/\w'.cell? ⟨K,3,none⟩=some (.string d)/\w'.cell? ⟨K,4,none⟩=some (.string e)/\w'.cell? ⟨K,5,none⟩=some (.string f)/\Below wa.heap.size wa w') (first | exact ⟨d0,d1,d2,d3,d4,d5,(Below.refl _ wa).drew⟩ | (apply snext6 hkl;rotate_left;assumption;assumption) | go_keep) (first | (go_at_call 68;with_reducible refine (CS.out _).mono ?_;rintro e' w4 ⟨rfl,hb4⟩))
    obtain ⟨c0,c1,c2,c3,c4,c5,hb5⟩:w4.cell? ⟨K,0,none⟩=some (.string a)/\w4.cell? ⟨K,1,none⟩=some (.string b)/\w4.cell? ⟨K,2,none⟩=some (.string c)/\w4.cell? ⟨K,3,none⟩=some (.string d)/\w4.cell? ⟨K,4,none⟩=some (.string e)/\w4.cell? ⟨K,5,none⟩=some (.string f)/\Below wa.heap.size wa w4:=by assumption
    clear d0 d1 d2 d3 d4 d5
    have hb6:=hB0.trans (hb5.mono hB0.size)
    go_wp2_with fail
    go_ret
    exact ⟨_,rfl,by rw [<-HR.out,<-HT.out];simp,hb6⟩
theorem okC_hex (keep:List UInt8)(b:UInt8)(h:0<=hexB b):okC keep b=true:=by
 have:letterB b=true\/digitB b=true:=by
  unfold hexB hexI at h
  unfold letterB letterI digitB digitI
  simp only [Bool.or_eq_true,decide_eq_true_eq]
  split at h
  ·exact .inr (by assumption)
  ·split at h
   ·exact .inl (.inl (by omega))
   ·split at h
    ·exact .inl (.inr (by omega))
    ·omega
 unfold okC
 rcases this with h | h <;> simp [h]
theorem hex_dig:∀ n:Fin 16,0<=hexB (dig n.1):=by decide
theorem pct_coded (b:UInt8)(r:List UInt8):codedL (pct b ++ r)=true:=by
 have h1:=hex_dig ⟨b.toNat / 16,by have:=b.toNat_lt;omega⟩
 have h2:=hex_dig ⟨b.toNat % 16,by omega⟩
 simp only [pct,List.cons_append,List.nil_append,codedL,Bool.and_eq_true,beq_self_eq_true,decide_eq_true_eq,true_and]
 exact ⟨h1,h2⟩
theorem conv_ok (keep:List UInt8)(codes:Bool)(c:UInt8)(r:List UInt8)(h:okC keep c=true):conv keep codes (c :: r)=c :: conv keep codes r:=by
 rw [conv,if_pos (by simp [h])];rfl
theorem conv_coded (keep:List UInt8)(a b:UInt8)(r:List UInt8)(h:codedL (37 :: a :: b :: r)=true):conv keep true (37 :: a :: b :: r)=37 :: a :: b :: conv keep true r:=by
 have h2:=h
 simp only [codedL,Bool.and_eq_true,decide_eq_true_eq] at h2
 rw [conv,if_pos (by simp [h]),conv_ok keep true a _ (okC_hex keep a h2.1.2),conv_ok keep true b _ (okC_hex keep b h2.2)];rfl
theorem coded_shape (c:UInt8)(r:List UInt8)(h:codedL (c :: r)=true):∃ a b t,c=37/\r=a :: b :: t:=by
 match r,h with
 | a :: b :: t, h =>
   simp only [codedL,Bool.and_eq_true,beq_iff_eq] at h
   exact ⟨a,b,t,h.1.1,rfl⟩
theorem codedL_more (a b:UInt8)(r t:List UInt8):codedL (37 :: a :: b :: r)=codedL (37 :: a :: b :: t):=rfl
theorem conv_idem (keep:List UInt8)(l:List UInt8):conv keep true (conv keep true l)=conv keep true l:=by
 suffices h:∀ n (l:List UInt8),l.length<=n->conv keep true (conv keep true l)=conv keep true l from h _ l lr
 intro n
 induction n with
 | zero=>intro l hl;obtain rfl:=List.eq_nil_of_length_eq_zero (Nat.le_zero.1 hl);rfl
 | succ n ih=>
   intro l hl
   match l with
   | []=>rfl
   | c :: r=>
     simp only [List.length_cons] at hl
     by_cases h1:okC keep c=true
     ·rw [conv_ok keep true c r h1,conv_ok keep true c _ h1,ih r (by omega)]
     ·by_cases h2:codedL (c :: r)=true
      ·obtain ⟨a,b,t,rfl,rfl⟩:=coded_shape c r h2
       rw [conv_coded keep a b t h2,conv_coded keep a b _ ((codedL_more a b _ t).trans h2),ih t (by simp at hl;omega)]
      ·have e:conv keep true (c :: r)=pct c ++ conv keep true r:=by rw [conv,if_neg (by simp [h1,h2])]
       rw [e]
       have h3:=pct_coded c (conv keep true r)
       simp only [pct,List.cons_append,List.nil_append] at h3 ⊢
       rw [conv_coded keep _ _ _ h3,ih r (by omega)]
theorem conv_mem (keep:List UInt8)(codes:Bool)(l:List UInt8):∀ x∈conv keep codes l,okC keep x=true\/x=37:=by
 induction l with
 | nil=>intro x h;simp [conv] at h
 | cons c r ih=>
   intro x h
   rw [conv] at h
   rcases List.mem_append.1 h with h | h
   ·split at h
    ·next hc=>
     obtain rfl:x=c:=by simpa using h
     rcases (Bool.or_eq_true _ _).mp hc with h1 | h1
     ·exact .inl h1
     ·obtain ⟨_,_,_,h2,_⟩:=coded_shape x r ((Bool.and_eq_true _ _).mp h1).2
      exact .inr h2
    ·have hd:∀ n:Fin 16,okC keep (dig n.1)=true:=fun n=>okC_hex keep _ (hex_dig n)
     simp only [pct,List.mem_cons,List.not_mem_nil,or_false] at h
     rcases h with rfl | rfl | rfl
     ·exact .inr rfl
     ·exact .inl (hd ⟨c.toNat / 16,by have:=c.toNat_lt;omega⟩)
     ·exact .inl (hd ⟨c.toNat % 16,by omega⟩)
   ·exact ih x h
end Go.Proofs.YtjdhaacmlpegoaaGreatDoor
