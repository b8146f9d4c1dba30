/- Part 4 of what the proof needs: US LA LPA LP LV UT. -/
import Derived.Test.YtjdhaacmlpegoaaGreatDoorU03
import Derived.Deep.DeepCutAuto
set_option maxRecDepth 20000
set_option maxHeartbeats 16000000
set_option linter.unusedSimpArgs false
set_option linter.unusedVariables false
namespace Go.Proofs.YtjdhaacmlpegoaaGreatDoor
open Go.RowKit
theorem ext_tail (s:ByteArray)(a b:Nat)(h:b=s.size):(s.extract a b).data.toList=s.data.toList.drop a:=by subst h;exact ext_to s a
theorem parseBA (s:ByteArray)(w:World)(hs:s.size<=300000)(hM:MaxAt w)(N Rst:List UInt8)(hOK:schemeOk (trimL s.data.toList)=true)(hN:lowL (pre 58 (trimL s.data.toList))=N)(hRs:post 58 (trimL s.data.toList)=Rst)(hab:N≠aboutL)(R:Option U6)(hR:restL N Rst=R)(X Y Z:Bool)(hX:decide (N=[104,116,116,112])=X)(hY:decide (N=[104,116,116,112,115])=Y)(hZ:decide ((pre 35 Rst).take 2=[47,47])=false):
 Calls Tryz.prog 28 #[.string s] w fun e w'=>e = .returned (resV R)/\Below w.heap.size w w':=by
 have hTl:=trimL_len s.data.toList;rw [size_len] at hTl;have hNl:N.length<=s.size:=by rw [<-hN,lowL_len];exact Kg (pre_le _ _) hTl
 have hRl:Rst.length<=s.size:=by rw [<-hRs];exact Kg (post_le _ _) hTl
 have cT:=fun w=>trim_any s w (by omega);obtain ⟨T,hT⟩:=Ka (trimL s.data.toList);rw [hT] at cT hTl hOK hN hRs;have cS:∀ t:ByteArray,t.data.toList=T->∀ w,MaxAt w->Calls Tryz.prog 58 #[.string t] w fun e w'=>∃ a b:ByteArray,e = .returned (.tuple #[.string a,.string b,.bool true])/\a.data.toList=N/\b.data.toList=Rst/\Below w.heap.size w w':=fun t ht w hM=>by refine (scheme_any t w (by have:=size_of ht;omega) hM).mono ?_;rintro e w' ⟨a,b,rfl,hab,hb⟩;rw [ht,hOK] at hab;obtain ⟨h1,h2⟩:=hab rfl;exact ⟨a,b,by rw [ht,hOK],h1.trans hN,h2.trans hRs,hb⟩
 have hpl:=pre_le 35 Rst;have hql:=post_le 35 Rst;obtain ⟨BF,hBF⟩:∃ l,pre 35 Rst=l:=⟨_,rfl⟩
 obtain ⟨FR,hFR⟩:∃ l,post 35 Rst=l:=⟨_,rfl⟩
 obtain ⟨CF,hCF⟩:∃ l,conv (innerL ++ [63]) true FR=l:=⟨_,rfl⟩
 have hR2:R=siteL N CF BF:=by rw [<-hR,restL,Ke hab,hBF,hFR,hCF]
 have hno:R=none:=by
  rw [hR2,siteL]
  refine Ke ?_
  rintro ⟨h1,h2⟩
  rw [hBF] at hZ
  simp_all
 rw [hBF] at hZ;rw [hBF] at hpl;rw [hFR] at hql;have CT:=Kb cT;have CS:=Kb cS;have HBF:=Kb hBF;have HFR:=Kb hFR;have HCF:=Kb hCF;have HAB:=Kb hab;have HX:=Kb hX;have HY:=Kb hY;have HZ:=Kb hZ;clear cT cS hT hOK hR hN hRs hBF hFR hCF hR2 hab hX hY hZ;subst hno;have hB0:Below w.heap.size w (w.alloc (.cells #[.string ⟨#[]⟩,.string ⟨#[]⟩,.string ⟨#[]⟩,.string ⟨#[]⟩,.string ⟨#[]⟩,.string ⟨#[]⟩] 37)):=(Kc w).alloc lr _;go_enter Tryz.func28,Tryz.ntmps28
 go_wp2_with (first
  | (with_reducible refine (CT.out _).mono ?_;rintro e w' ⟨t,rfl,ht,rfl⟩;have Ht:=Kb ht;clear ht)
  | (with_reducible refine (CS.out _ Ht.out _ (hM.below hB0 lr)).mono ?_;rintro e w1 ⟨a,b,rfl,ha,hb,hb1⟩;obtain ⟨hc1,hf1⟩:=bcell hb1;have hz1:w.heap.size<w1.heap.size:=(by have:=hb1.size;simp at this;omega);have hB1:=Kd hB0 hb1;have S1:=(Blank.new w (.string ⟨#[]⟩) (.string ⟨#[]⟩) (.string ⟨#[]⟩) (.string ⟨#[]⟩) (.string ⟨#[]⟩) (.string ⟨#[]⟩) 37).below hb1 (by simp);have hbs:=size_of hb;have Ha:=Kb ha;have Hb:=Kb hb;have n1:(a.toList == [97,98,111,117,116])=false:=(by rw [str_beq,ha];exact Kj HAB.out);have n2:(a.toList == [104,116,116,112])=X:=(by rw [str_beq,ha];exact HX.out);have n3:(a.toList == [104,116,116,112,115])=Y:=(by rw [str_beq,ha];exact HY.out);clear ha hb)
  | (with_reducible refine (cut_any b 35 _ (by omega) (hM.below hB1 lr)).mono ?_;rw [Hb.out,HBF.out,HFR.out];rintro e w2 ⟨c,d,rfl,hc,hd,hb2⟩;obtain ⟨hc2,hf2⟩:=bcell hb2;have hz2:w.heap.size<w2.heap.size:=(by have:=hb2.size;omega);have hB2:=Kd hB1 hb2;have S2:=S1.below hb2 hz1;have hcs:=size_of hc;have hds:=size_of hd;have Hc:=Kb hc;have Hd:=Kb hd;clear hc hd)
  | (with_reducible refine (convert_any d innerQ true _ (by omega)).mono ?_;rw [Hd.out];rintro e w3 ⟨f,rfl,hf,hb3⟩;obtain ⟨hc3,hf3⟩:=bcell hb3;have hz3:w.heap.size<w3.heap.size:=(by have:=hb3.size;omega);have hB3:=Kd hB2 hb3;have S3:=S2.below hb3 hz2;have Hf:=Kb hf;clear hf)
  | (with_reducible refine (cutp_any c 47 47 _).mono ?_;rw [Hc.out,HZ.out];rintro e w' ⟨g,rfl,hg,rfl⟩;clear hg))
 all_goals refine bodyPost_ret (v:=resV none) (by simp [results,Tryz.results28,go_sem,hc1,hf1,hz1,hc2,hf2,hz2,hc3,hf3,hz3];rfl) rfl ⟨rfl,?_⟩;exact (hB3.set6 _ _ _ _ _ _).alloc (by simp;omega) _
theorem parseBB (s:ByteArray)(w:World)(hs:s.size<=300000)(hM:MaxAt w)(N Rst:List UInt8)(hOK:schemeOk (trimL s.data.toList)=true)(hN:lowL (pre 58 (trimL s.data.toList))=N)(hRs:post 58 (trimL s.data.toList)=Rst)(hab:N≠aboutL)(R:Option U6)(hR:restL N Rst=R)(X Y Z:Bool)(hX:decide (N=[104,116,116,112])=false)(hY:decide (N=[104,116,116,112,115])=false)(hZ:decide ((pre 35 Rst).take 2=[47,47])=Z):
 Calls Tryz.prog 28 #[.string s] w fun e w'=>e = .returned (resV R)/\Below w.heap.size w w':=by
 have hTl:=trimL_len s.data.toList;rw [size_len] at hTl;have hNl:N.length<=s.size:=by rw [<-hN,lowL_len];exact Kg (pre_le _ _) hTl
 have hRl:Rst.length<=s.size:=by rw [<-hRs];exact Kg (post_le _ _) hTl
 have cT:=fun w=>trim_any s w (by omega);obtain ⟨T,hT⟩:=Ka (trimL s.data.toList);rw [hT] at cT hTl hOK hN hRs;have cS:∀ t:ByteArray,t.data.toList=T->∀ w,MaxAt w->Calls Tryz.prog 58 #[.string t] w fun e w'=>∃ a b:ByteArray,e = .returned (.tuple #[.string a,.string b,.bool true])/\a.data.toList=N/\b.data.toList=Rst/\Below w.heap.size w w':=fun t ht w hM=>by refine (scheme_any t w (by have:=size_of ht;omega) hM).mono ?_;rintro e w' ⟨a,b,rfl,hab,hb⟩;rw [ht,hOK] at hab;obtain ⟨h1,h2⟩:=hab rfl;exact ⟨a,b,by rw [ht,hOK],h1.trans hN,h2.trans hRs,hb⟩
 have hpl:=pre_le 35 Rst;have hql:=post_le 35 Rst;obtain ⟨BF,hBF⟩:∃ l,pre 35 Rst=l:=⟨_,rfl⟩
 obtain ⟨FR,hFR⟩:∃ l,post 35 Rst=l:=⟨_,rfl⟩
 obtain ⟨CF,hCF⟩:∃ l,conv (innerL ++ [63]) true FR=l:=⟨_,rfl⟩
 have hR2:R=siteL N CF BF:=by rw [<-hR,restL,Ke hab,hBF,hFR,hCF]
 have hno:R=none:=by
  rw [hR2,siteL]
  refine Ke ?_
  rintro ⟨h1,h2⟩
  rw [hBF] at hZ
  simp_all
 rw [hBF] at hZ;rw [hBF] at hpl;rw [hFR] at hql;have CT:=Kb cT;have CS:=Kb cS;have HBF:=Kb hBF;have HFR:=Kb hFR;have HCF:=Kb hCF;have HAB:=Kb hab;have HX:=Kb hX;have HY:=Kb hY;have HZ:=Kb hZ;clear cT cS hT hOK hR hN hRs hBF hFR hCF hR2 hab hX hY hZ;subst hno;have hB0:Below w.heap.size w (w.alloc (.cells #[.string ⟨#[]⟩,.string ⟨#[]⟩,.string ⟨#[]⟩,.string ⟨#[]⟩,.string ⟨#[]⟩,.string ⟨#[]⟩] 37)):=(Kc w).alloc lr _;go_enter Tryz.func28,Tryz.ntmps28
 go_wp2_with (first
  | (with_reducible refine (CT.out _).mono ?_;rintro e w' ⟨t,rfl,ht,rfl⟩;have Ht:=Kb ht;clear ht)
  | (with_reducible refine (CS.out _ Ht.out _ (hM.below hB0 lr)).mono ?_;rintro e w1 ⟨a,b,rfl,ha,hb,hb1⟩;obtain ⟨hc1,hf1⟩:=bcell hb1;have hz1:w.heap.size<w1.heap.size:=(by have:=hb1.size;simp at this;omega);have hB1:=Kd hB0 hb1;have S1:=(Blank.new w (.string ⟨#[]⟩) (.string ⟨#[]⟩) (.string ⟨#[]⟩) (.string ⟨#[]⟩) (.string ⟨#[]⟩) (.string ⟨#[]⟩) 37).below hb1 (by simp);have hbs:=size_of hb;have Ha:=Kb ha;have Hb:=Kb hb;have n1:(a.toList == [97,98,111,117,116])=false:=(by rw [str_beq,ha];exact Kj HAB.out);have n2:(a.toList == [104,116,116,112])=false:=(by rw [str_beq,ha];exact HX.out);have n3:(a.toList == [104,116,116,112,115])=false:=(by rw [str_beq,ha];exact HY.out);clear ha hb)
  | (with_reducible refine (cut_any b 35 _ (by omega) (hM.below hB1 lr)).mono ?_;rw [Hb.out,HBF.out,HFR.out];rintro e w2 ⟨c,d,rfl,hc,hd,hb2⟩;obtain ⟨hc2,hf2⟩:=bcell hb2;have hz2:w.heap.size<w2.heap.size:=(by have:=hb2.size;omega);have hB2:=Kd hB1 hb2;have S2:=S1.below hb2 hz1;have hcs:=size_of hc;have hds:=size_of hd;have Hc:=Kb hc;have Hd:=Kb hd;clear hc hd)
  | (with_reducible refine (convert_any d innerQ true _ (by omega)).mono ?_;rw [Hd.out];rintro e w3 ⟨f,rfl,hf,hb3⟩;obtain ⟨hc3,hf3⟩:=bcell hb3;have hz3:w.heap.size<w3.heap.size:=(by have:=hb3.size;omega);have hB3:=Kd hB2 hb3;have S3:=S2.below hb3 hz2;have Hf:=Kb hf;clear hf)
  | (with_reducible refine (cutp_any c 47 47 _).mono ?_;rw [Hc.out,HZ.out];rintro e w' ⟨g,rfl,hg,rfl⟩;clear hg))
 all_goals refine bodyPost_ret (v:=resV none) (by simp [results,Tryz.results28,go_sem,hc1,hf1,hz1,hc2,hf2,hz2,hc3,hf3,hz3];rfl) rfl ⟨rfl,?_⟩;exact (hB3.set6 _ _ _ _ _ _).alloc (by simp;omega) _
theorem parseCA (s:ByteArray)(w:World)(hs:s.size<=300000)(hM:MaxAt w)(N Rst:List UInt8)(hOK:schemeOk (trimL s.data.toList)=true)(hN:lowL (pre 58 (trimL s.data.toList))=N)(hRs:post 58 (trimL s.data.toList)=Rst)(hab:N≠aboutL)(R:Option U6)(hR:restL N Rst=R)(Y:Bool)(hX:decide (N=[104,116,116,112])=true)(hY:decide (N=[104,116,116,112,115])=Y)(hZ:(pre 35 Rst).take 2=[47,47]):
 Calls Tryz.prog 28 #[.string s] w fun e w'=>e = .returned (resV R)/\Below w.heap.size w w':=by
 have hTl:=trimL_len s.data.toList;rw [size_len] at hTl;have hNl:N.length<=s.size:=by rw [<-hN,lowL_len];exact Kg (pre_le _ _) hTl
 have hRl:Rst.length<=s.size:=by rw [<-hRs];exact Kg (post_le _ _) hTl
 have cT:=fun w=>trim_any s w (by omega);obtain ⟨T,hT⟩:=Ka (trimL s.data.toList);rw [hT] at cT hTl hOK hN hRs;have cS:∀ t:ByteArray,t.data.toList=T->∀ w,MaxAt w->Calls Tryz.prog 58 #[.string t] w fun e w'=>∃ a b:ByteArray,e = .returned (.tuple #[.string a,.string b,.bool true])/\a.data.toList=N/\b.data.toList=Rst/\Below w.heap.size w w':=fun t ht w hM=>by refine (scheme_any t w (by have:=size_of ht;omega) hM).mono ?_;rintro e w' ⟨a,b,rfl,hab,hb⟩;rw [ht,hOK] at hab;obtain ⟨h1,h2⟩:=hab rfl;exact ⟨a,b,by rw [ht,hOK],h1.trans hN,h2.trans hRs,hb⟩
 have hpl:=pre_le 35 Rst;have hql:=post_le 35 Rst;obtain ⟨BF,hBF⟩:∃ l,pre 35 Rst=l:=⟨_,rfl⟩
 obtain ⟨FR,hFR⟩:∃ l,post 35 Rst=l:=⟨_,rfl⟩
 obtain ⟨CF,hCF⟩:∃ l,conv (innerL ++ [63]) true FR=l:=⟨_,rfl⟩
 have hR2:R=siteL N CF BF:=by rw [<-hR,restL,Ke hab,hBF,hFR,hCF]
 rw [hBF] at hZ;have hsch:N=httpL\/N=httpsL:=by simp_all
 obtain ⟨AF,hAF⟩:∃ l,BF.drop 2=l:=⟨_,rfl⟩
 have hafl:AF.length<=BF.length:=by rw [<-hAF];simp
 obtain ⟨PL,hPL⟩:∃ l,pre 63 AF=l:=⟨_,rfl⟩
 have hpll:=pre_le 63 AF;obtain ⟨QL,hQL⟩:∃ l,post 63 AF=l:=⟨_,rfl⟩
 have hqll:=post_le 63 AF;obtain ⟨PC,hPC⟩:∃ l,pre 47 PL=l:=⟨_,rfl⟩
 have hpcl:=pre_le 47 PL;have hpct:=pre_take 47 PL;obtain ⟨HL,hHL⟩:∃ l,pre 58 PC=l:=⟨_,rfl⟩
 have hhll:=pre_le 58 PC;obtain ⟨NL,hNL⟩:∃ l,post 58 PC=l:=⟨_,rfl⟩
 have hnll:=post_le 58 PC;have hR3:R=if portOk NL/\1<=HL.length/\HL.length<=253/\HL.all (okC [45,46])=true then some (N,lowL HL,portOf N NL,cleanL (conv innerL true (PL.drop PC.length)),conv (innerL ++ [63]) true QL,CF) else none:=by rw [hR2,siteL,Kf ⟨hsch,hZ⟩];simp only [hAF,hPL,hPC,hHL,hNL,hQL]
 have hIX:Lib.indexByte PL 47=if 47∈PL then (PC.length:Int) else -1:=by rw [indexByte_pre,hPC]
 have hIN:47 ∉ PL->PC=PL:=fun h=>by rw [<-hPC,pre_all 47 PL h]
 rw [hPL] at hpll;rw [hQL] at hqll;rw [hPC] at hpcl hpct;rw [hHL] at hhll;rw [hNL] at hnll;rw [hBF] at hpl;rw [hFR] at hql;have CT:=Kb cT;have CS:=Kb cS;have HBF:=Kb hBF;have HFR:=Kb hFR;have HCF:=Kb hCF;have HAB:=Kb hab;have HX:=Kb hX;have HY:=Kb hY;have HZ:=Kb hZ;have HR:=Kb hR3;have HAF:=Kb hAF;have HPL:=Kb hPL;have HQL:=Kb hQL;have HPC:=Kb hPC;have HHL:=Kb hHL;have HNL:=Kb hNL;have HIX:=Kb hIX;have HIN:=Kb hIN;have HPT:=Kb hpct;clear cT cS hT hOK hR hN hRs hBF hFR hCF hR2 hab hX hY hZ hR3 hAF hPL hQL hPC hHL hNL hsch hIX hIN hpct;obtain ⟨OB,hOB⟩:=Ka (HL.all (okC [45,46]));have HOB:=Kb hOB;rw [hOB] at HR;clear hOB;have hB0:Below w.heap.size w (w.alloc (.cells #[.string ⟨#[]⟩,.string ⟨#[]⟩,.string ⟨#[]⟩,.string ⟨#[]⟩,.string ⟨#[]⟩,.string ⟨#[]⟩] 37)):=(Kc w).alloc lr _;go_enter Tryz.func28,Tryz.ntmps28
 go_wp2_with (first
  | (with_reducible refine (CT.out _).mono ?_;rintro e w' ⟨t,rfl,ht,rfl⟩;have Ht:=Kb ht;clear ht)
  | (with_reducible refine (CS.out _ Ht.out _ (hM.below hB0 lr)).mono ?_;rintro e w1 ⟨a,b,rfl,ha,hb,hb1⟩;obtain ⟨hc1,hf1⟩:=bcell hb1;have hz1:w.heap.size<w1.heap.size:=(by have:=hb1.size;simp at this;omega);have hB1:=Kd hB0 hb1;have S1:=(Blank.new w (.string ⟨#[]⟩) (.string ⟨#[]⟩) (.string ⟨#[]⟩) (.string ⟨#[]⟩) (.string ⟨#[]⟩) (.string ⟨#[]⟩) 37).below hb1 (by simp);have hbs:=size_of hb;have Ha:=Kb ha;have Hb:=Kb hb;have n1:(a.toList == [97,98,111,117,116])=false:=(by rw [str_beq,ha];exact Kj HAB.out);have n2:(a.toList == [104,116,116,112])=true:=(by rw [str_beq,ha];exact HX.out);have n3:(a.toList == [104,116,116,112,115])=Y:=(by rw [str_beq,ha];exact HY.out);clear ha hb)
  | (with_reducible refine (cut_any b 35 _ (by omega) (hM.below hB1 lr)).mono ?_;rw [Hb.out,HBF.out,HFR.out];rintro e w2 ⟨c,d,rfl,hc,hd,hb2⟩;obtain ⟨hc2,hf2⟩:=bcell hb2;have hz2:w.heap.size<w2.heap.size:=(by have:=hb2.size;omega);have hB2:=Kd hB1 hb2;have S2:=S1.below hb2 hz1;have hcs:=size_of hc;have hds:=size_of hd;have Hc:=Kb hc;have Hd:=Kb hd;clear hc hd)
  | (with_reducible refine (convert_any d innerQ true _ (by omega)).mono ?_;rw [Hd.out];rintro e w3 ⟨f,rfl,hf,hb3⟩;obtain ⟨hc3,hf3⟩:=bcell hb3;have hz3:w.heap.size<w3.heap.size:=(by have:=hb3.size;omega);have hB3:=Kd hB2 hb3;have S3:=S2.below hb3 hz2;have Hf:=Kb hf;clear hf)
  | (with_reducible refine (cutp_any c 47 47 _).mono ?_;rw [Hc.out,Kx HZ.out];rintro e w' ⟨g,rfl,hg,rfl⟩;have hg:=hg HZ.out;rw [HAF.out] at hg;have hgs:=size_of hg;have Hg:=Kb hg;clear hg;have hB3a:=hB3.alloc (o:=.cells #[.string a,.string ⟨#[]⟩,.string ⟨#[]⟩,.string ⟨#[]⟩,.string ⟨#[]⟩,.string f] 37) hB3.size;have hb3a:=(Below.refl w3.heap.size w3).alloc lr (.cells #[.string a,.string ⟨#[]⟩,.string ⟨#[]⟩,.string ⟨#[]⟩,.string ⟨#[]⟩,.string f] 37);have S3a:=S3.below hb3a hz3)
  | (with_reducible refine (cut_any g 63 _ (by omega) (hM.below hB3a lr)).mono ?_;rw [Hg.out,HPL.out,HQL.out];rintro e w4 ⟨p,q,rfl,hp,hq,hb4⟩;obtain ⟨hc4,hf4⟩:=bcell hb4;have hz4:w3.heap.size<w4.heap.size:=(by have:=hb4.size;simp at this;omega);have hy4:w.heap.size<w4.heap.size:=(by omega);have hB4:=Kd hB3a hb4;have S4:=S3a.below hb4 (by simp;omega);have hps:=size_of hp;have hqs:=size_of hq;have Hp:=Kb hp;have Hq:=Kb hq;clear hp hq)
  | (with_reducible refine (Tryz.strings_IndexByte p 47 _).mono ?_;rw [show ((47:Int).toNat.toUInt8)=47 from rfl,Hp.out,HIX.out];rintro e w' ⟨rfl,rfl⟩;rcases Decidable.em (47∈PL) with hin | hin <;> (first | rw [Kf hin] | (rw [Ke hin];have hpe:=HIN.out hin;subst hpe)) <;> clear hin)
  | (with_reducible refine (cut_any _ 58 _ (by simp;omega) (hM.below hB4 lr)).mono ?_;rw [ext_from,Hp.out,HPT.out,HHL.out,HNL.out];rintro e w5 ⟨h,m,rfl,hh,hm,hb5⟩;obtain ⟨hc5,hf5⟩:=bcell hb5;have hz5:w3.heap.size<w5.heap.size:=(by have:=hb5.size;omega);have hy5:w.heap.size<w5.heap.size:=(by omega);have hB5:=Kd hB4 hb5;have S5:=S4.below hb5 hy4;have hhs:=size_of hh;have hms:=size_of hm;have Hh:=Kb hh;have Hm:=Kb hm;clear hh hm)
  | (with_reducible refine (port_any a m _ (by omega)).mono ?_;rw [Ha.out,Hm.out];rintro e w' ⟨pt,rfl,hpt,rfl⟩;rcases Decidable.em (portOk NL) with hpo | hpo <;> (first | rw [Kx hpo] | rw [Kj hpo]) <;> (have Hpo:=Kb hpo;have Hpt:=Kb hpt;clear hpo hpt))
  | (go_at_call 62;refine (only_any _ _ _ (by omega)).mono ?_;rw [Hh.out,show (⟨#[45,46]⟩:ByteArray).data.toList=[45,46] from rfl,HOB.out];rintro e w' ⟨rfl,rfl⟩;rcases Xn OB with rfl | rfl)
  | (with_reducible refine (lower_any h _ (by omega)).mono ?_;rw [Hh.out];rintro e w6 ⟨lo,rfl,hlo,hb6⟩;obtain ⟨hc6,hf6⟩:=bcell hb6;have hz6:w3.heap.size<w6.heap.size:=(by have:=hb6.size;omega);have hy6:w.heap.size<w6.heap.size:=(by omega);have hB6:=Kd hB5 hb6;have S6:=S5.below hb6 hy5;have Hlo:=Kb hlo;clear hlo)
  | (with_reducible refine (convert_any (p.extract _ _) innerS true _ (by simp;omega)).mono ?_;rw [ext_tail p _ _ (by omega),Hp.out];rintro e w7 ⟨pc,rfl,hpc,hb7⟩;obtain ⟨hc7,hf7⟩:=bcell hb7;have hz7:w3.heap.size<w7.heap.size:=(by have:=hb7.size;simp at this;omega);have hy7:w.heap.size<w7.heap.size:=(by omega);have hB7:=((hB6.setCell (p:=⟨w3.heap.size,1,none⟩) (Kl hz3) (.string lo)).setCell (p:=⟨w3.heap.size,2,none⟩) (Kl hz3) (.string pt)).trans (hb7.mono (by simp;omega));have S7:=((S6.set ⟨w3.heap.size,1,none⟩ (.string lo)).set ⟨w3.heap.size,2,none⟩ (.string pt)).below hb7 (by simp;omega);have hpcs:pc.size<=900000:=(by rw [size_of hpc];refine Kg (conv_len _ _ _) ?_;rw [Jy];omega);have Hpc:=Kb hpc;clear hpc)
  | (with_reducible refine (convert_any ByteArray.empty innerS true _ (by simp)).mono ?_;rw [show ByteArray.empty.data.toList=PC.drop PC.length from (by simp)];rintro e w7 ⟨pc,rfl,hpc,hb7⟩;obtain ⟨hc7,hf7⟩:=bcell hb7;have hz7:w3.heap.size<w7.heap.size:=(by have:=hb7.size;simp at this;omega);have hy7:w.heap.size<w7.heap.size:=(by omega);have hB7:=((hB6.setCell (p:=⟨w3.heap.size,1,none⟩) (Kl hz3) (.string lo)).setCell (p:=⟨w3.heap.size,2,none⟩) (Kl hz3) (.string pt)).trans (hb7.mono (by simp;omega));have S7:=((S6.set ⟨w3.heap.size,1,none⟩ (.string lo)).set ⟨w3.heap.size,2,none⟩ (.string pt)).below hb7 (by simp;omega);have hpcs:pc.size<=900000:=(by rw [size_of hpc];refine Kg (conv_len _ _ _) ?_;rw [Jy];omega);have Hpc:=Kb hpc;clear hpc)
  | (with_reducible refine (clean_any pc _ (by omega) (hM.below hB7 lr)).mono ?_;rw [Hpc.out];rintro e w8 ⟨cl,rfl,hcl,hb8⟩;obtain ⟨hc8,hf8⟩:=bcell hb8;have hz8:w3.heap.size<w8.heap.size:=(by have:=hb8.size;omega);have hy8:w.heap.size<w8.heap.size:=(by omega);have hB8:=Kd hB7 hb8;have S8:=S7.below hb8 hy7;have Hcl:=Kb hcl;clear hcl)
  | (with_reducible refine (convert_any q innerQ true _ (by omega)).mono ?_;rw [Hq.out];rintro e w9 ⟨q2,rfl,hq2,hb9⟩;obtain ⟨hc9,hf9⟩:=bcell hb9;have hz9:w3.heap.size<w9.heap.size:=(by have:=hb9.size;simp at this;omega);have hy9:w.heap.size<w9.heap.size:=(by omega);have hB9:=(hB8.setCell (p:=⟨w3.heap.size,3,none⟩) (Kl hz3) (.string cl)).trans (hb9.mono (by simp;omega));have S9:=(S8.set ⟨w3.heap.size,3,none⟩ (.string cl)).below hb9 (by simp;omega);have Hq2:=Kb hq2;clear hq2))
 all_goals first | (refine bodyPost_ret (url_ret Tryz.results28 _ _ _ (S9.set ⟨w3.heap.size,4,none⟩ (.string q2)) (.string a) (.string lo) (.string pt) (.string cl) (.string q2) (.string f) (.int .i64 0) rfl rfl) rfl ⟨res_some (u:=(N,lowL HL,portOf N NL,cleanL (conv innerL true (PL.drop PC.length)),conv (innerL ++ [63]) true QL,CF)) (by rw [HR.out,Kf ⟨Hpo.out,by omega,by omega,by simp⟩]) Ha.out Hlo.out (Hpt.out Hpo.out) Hcl.out Hq2.out (Hf.out.trans HCF.out),(hB9.setCell (p:=⟨w3.heap.size,4,none⟩) (Kl hz3) _).set6 _ _ _ _ _ _⟩) | (refine bodyPost_ret (url_ret Tryz.results28 _ _ _ (S9.set ⟨w3.heap.size,4,none⟩ (.string q2)) (.string a) (.string lo) (.string pt) (.string cl) (.string q2) (.string f) (.int .i64 0) rfl rfl) rfl ⟨res_some (u:=(N,lowL HL,portOf N NL,cleanL (conv innerL true (PC.drop PC.length)),conv (innerL ++ [63]) true QL,CF)) (by rw [HR.out,Kf ⟨Hpo.out,by omega,by omega,by simp⟩]) Ha.out Hlo.out (Hpt.out Hpo.out) Hcl.out Hq2.out (Hf.out.trans HCF.out),(hB9.setCell (p:=⟨w3.heap.size,4,none⟩) (Kl hz3) _).set6 _ _ _ _ _ _⟩) | (refine bodyPost_ret (url_ret Tryz.results28 _ _ _ S5 (.string ⟨#[]⟩) (.string ⟨#[]⟩) (.string ⟨#[]⟩) (.string ⟨#[]⟩) (.string ⟨#[]⟩) (.string ⟨#[]⟩) (.int .i64 4) rfl rfl) rfl ⟨res_none (by rw [HR.out,Ke (by rintro ⟨h1,h2,h3,h4⟩;first | exact Hpo.out h1 | omega | cases h4)]),hB5.set6 _ _ _ _ _ _⟩)
theorem parseCB (s:ByteArray)(w:World)(hs:s.size<=300000)(hM:MaxAt w)(N Rst:List UInt8)(hOK:schemeOk (trimL s.data.toList)=true)(hN:lowL (pre 58 (trimL s.data.toList))=N)(hRs:post 58 (trimL s.data.toList)=Rst)(hab:N≠aboutL)(R:Option U6)(hR:restL N Rst=R)(Y:Bool)(hX:decide (N=[104,116,116,112])=false)(hY:decide (N=[104,116,116,112,115])=true)(hZ:(pre 35 Rst).take 2=[47,47]):
 Calls Tryz.prog 28 #[.string s] w fun e w'=>e = .returned (resV R)/\Below w.heap.size w w':=by
 have hTl:=trimL_len s.data.toList;rw [size_len] at hTl;have hNl:N.length<=s.size:=by rw [<-hN,lowL_len];exact Kg (pre_le _ _) hTl
 have hRl:Rst.length<=s.size:=by rw [<-hRs];exact Kg (post_le _ _) hTl
 have cT:=fun w=>trim_any s w (by omega);obtain ⟨T,hT⟩:=Ka (trimL s.data.toList);rw [hT] at cT hTl hOK hN hRs;have cS:∀ t:ByteArray,t.data.toList=T->∀ w,MaxAt w->Calls Tryz.prog 58 #[.string t] w fun e w'=>∃ a b:ByteArray,e = .returned (.tuple #[.string a,.string b,.bool true])/\a.data.toList=N/\b.data.toList=Rst/\Below w.heap.size w w':=fun t ht w hM=>by refine (scheme_any t w (by have:=size_of ht;omega) hM).mono ?_;rintro e w' ⟨a,b,rfl,hab,hb⟩;rw [ht,hOK] at hab;obtain ⟨h1,h2⟩:=hab rfl;exact ⟨a,b,by rw [ht,hOK],h1.trans hN,h2.trans hRs,hb⟩
 have hpl:=pre_le 35 Rst;have hql:=post_le 35 Rst;obtain ⟨BF,hBF⟩:∃ l,pre 35 Rst=l:=⟨_,rfl⟩
 obtain ⟨FR,hFR⟩:∃ l,post 35 Rst=l:=⟨_,rfl⟩
 obtain ⟨CF,hCF⟩:∃ l,conv (innerL ++ [63]) true FR=l:=⟨_,rfl⟩
 have hR2:R=siteL N CF BF:=by rw [<-hR,restL,Ke hab,hBF,hFR,hCF]
 rw [hBF] at hZ;have hsch:N=httpL\/N=httpsL:=by simp_all
 obtain ⟨AF,hAF⟩:∃ l,BF.drop 2=l:=⟨_,rfl⟩
 have hafl:AF.length<=BF.length:=by rw [<-hAF];simp
 obtain ⟨PL,hPL⟩:∃ l,pre 63 AF=l:=⟨_,rfl⟩
 have hpll:=pre_le 63 AF;obtain ⟨QL,hQL⟩:∃ l,post 63 AF=l:=⟨_,rfl⟩
 have hqll:=post_le 63 AF;obtain ⟨PC,hPC⟩:∃ l,pre 47 PL=l:=⟨_,rfl⟩
 have hpcl:=pre_le 47 PL;have hpct:=pre_take 47 PL;obtain ⟨HL,hHL⟩:∃ l,pre 58 PC=l:=⟨_,rfl⟩
 have hhll:=pre_le 58 PC;obtain ⟨NL,hNL⟩:∃ l,post 58 PC=l:=⟨_,rfl⟩
 have hnll:=post_le 58 PC;have hR3:R=if portOk NL/\1<=HL.length/\HL.length<=253/\HL.all (okC [45,46])=true then some (N,lowL HL,portOf N NL,cleanL (conv innerL true (PL.drop PC.length)),conv (innerL ++ [63]) true QL,CF) else none:=by rw [hR2,siteL,Kf ⟨hsch,hZ⟩];simp only [hAF,hPL,hPC,hHL,hNL,hQL]
 have hIX:Lib.indexByte PL 47=if 47∈PL then (PC.length:Int) else -1:=by rw [indexByte_pre,hPC]
 have hIN:47 ∉ PL->PC=PL:=fun h=>by rw [<-hPC,pre_all 47 PL h]
 rw [hPL] at hpll;rw [hQL] at hqll;rw [hPC] at hpcl hpct;rw [hHL] at hhll;rw [hNL] at hnll;rw [hBF] at hpl;rw [hFR] at hql;have CT:=Kb cT;have CS:=Kb cS;have HBF:=Kb hBF;have HFR:=Kb hFR;have HCF:=Kb hCF;have HAB:=Kb hab;have HX:=Kb hX;have HY:=Kb hY;have HZ:=Kb hZ;have HR:=Kb hR3;have HAF:=Kb hAF;have HPL:=Kb hPL;have HQL:=Kb hQL;have HPC:=Kb hPC;have HHL:=Kb hHL;have HNL:=Kb hNL;have HIX:=Kb hIX;have HIN:=Kb hIN;have HPT:=Kb hpct;clear cT cS hT hOK hR hN hRs hBF hFR hCF hR2 hab hX hY hZ hR3 hAF hPL hQL hPC hHL hNL hsch hIX hIN hpct;obtain ⟨OB,hOB⟩:=Ka (HL.all (okC [45,46]));have HOB:=Kb hOB;rw [hOB] at HR;clear hOB;have hB0:Below w.heap.size w (w.alloc (.cells #[.string ⟨#[]⟩,.string ⟨#[]⟩,.string ⟨#[]⟩,.string ⟨#[]⟩,.string ⟨#[]⟩,.string ⟨#[]⟩] 37)):=(Kc w).alloc lr _;go_enter Tryz.func28,Tryz.ntmps28
 go_wp2_with (first
  | (with_reducible refine (CT.out _).mono ?_;rintro e w' ⟨t,rfl,ht,rfl⟩;have Ht:=Kb ht;clear ht)
  | (with_reducible refine (CS.out _ Ht.out _ (hM.below hB0 lr)).mono ?_;rintro e w1 ⟨a,b,rfl,ha,hb,hb1⟩;obtain ⟨hc1,hf1⟩:=bcell hb1;have hz1:w.heap.size<w1.heap.size:=(by have:=hb1.size;simp at this;omega);have hB1:=Kd hB0 hb1;have S1:=(Blank.new w (.string ⟨#[]⟩) (.string ⟨#[]⟩) (.string ⟨#[]⟩) (.string ⟨#[]⟩) (.string ⟨#[]⟩) (.string ⟨#[]⟩) 37).below hb1 (by simp);have hbs:=size_of hb;have Ha:=Kb ha;have Hb:=Kb hb;have n1:(a.toList == [97,98,111,117,116])=false:=(by rw [str_beq,ha];exact Kj HAB.out);have n2:(a.toList == [104,116,116,112])=false:=(by rw [str_beq,ha];exact HX.out);have n3:(a.toList == [104,116,116,112,115])=true:=(by rw [str_beq,ha];exact HY.out);clear ha hb)
  | (with_reducible refine (cut_any b 35 _ (by omega) (hM.below hB1 lr)).mono ?_;rw [Hb.out,HBF.out,HFR.out];rintro e w2 ⟨c,d,rfl,hc,hd,hb2⟩;obtain ⟨hc2,hf2⟩:=bcell hb2;have hz2:w.heap.size<w2.heap.size:=(by have:=hb2.size;omega);have hB2:=Kd hB1 hb2;have S2:=S1.below hb2 hz1;have hcs:=size_of hc;have hds:=size_of hd;have Hc:=Kb hc;have Hd:=Kb hd;clear hc hd)
  | (with_reducible refine (convert_any d innerQ true _ (by omega)).mono ?_;rw [Hd.out];rintro e w3 ⟨f,rfl,hf,hb3⟩;obtain ⟨hc3,hf3⟩:=bcell hb3;have hz3:w.heap.size<w3.heap.size:=(by have:=hb3.size;omega);have hB3:=Kd hB2 hb3;have S3:=S2.below hb3 hz2;have Hf:=Kb hf;clear hf)
  | (with_reducible refine (cutp_any c 47 47 _).mono ?_;rw [Hc.out,Kx HZ.out];rintro e w' ⟨g,rfl,hg,rfl⟩;have hg:=hg HZ.out;rw [HAF.out] at hg;have hgs:=size_of hg;have Hg:=Kb hg;clear hg;have hB3a:=hB3.alloc (o:=.cells #[.string a,.string ⟨#[]⟩,.string ⟨#[]⟩,.string ⟨#[]⟩,.string ⟨#[]⟩,.string f] 37) hB3.size;have hb3a:=(Below.refl w3.heap.size w3).alloc lr (.cells #[.string a,.string ⟨#[]⟩,.string ⟨#[]⟩,.string ⟨#[]⟩,.string ⟨#[]⟩,.string f] 37);have S3a:=S3.below hb3a hz3)
  | (with_reducible refine (cut_any g 63 _ (by omega) (hM.below hB3a lr)).mono ?_;rw [Hg.out,HPL.out,HQL.out];rintro e w4 ⟨p,q,rfl,hp,hq,hb4⟩;obtain ⟨hc4,hf4⟩:=bcell hb4;have hz4:w3.heap.size<w4.heap.size:=(by have:=hb4.size;simp at this;omega);have hy4:w.heap.size<w4.heap.size:=(by omega);have hB4:=Kd hB3a hb4;have S4:=S3a.below hb4 (by simp;omega);have hps:=size_of hp;have hqs:=size_of hq;have Hp:=Kb hp;have Hq:=Kb hq;clear hp hq)
  | (with_reducible refine (Tryz.strings_IndexByte p 47 _).mono ?_;rw [show ((47:Int).toNat.toUInt8)=47 from rfl,Hp.out,HIX.out];rintro e w' ⟨rfl,rfl⟩;rcases Decidable.em (47∈PL) with hin | hin <;> (first | rw [Kf hin] | (rw [Ke hin];have hpe:=HIN.out hin;subst hpe)) <;> clear hin)
  | (with_reducible refine (cut_any _ 58 _ (by simp;omega) (hM.below hB4 lr)).mono ?_;rw [ext_from,Hp.out,HPT.out,HHL.out,HNL.out];rintro e w5 ⟨h,m,rfl,hh,hm,hb5⟩;obtain ⟨hc5,hf5⟩:=bcell hb5;have hz5:w3.heap.size<w5.heap.size:=(by have:=hb5.size;omega);have hy5:w.heap.size<w5.heap.size:=(by omega);have hB5:=Kd hB4 hb5;have S5:=S4.below hb5 hy4;have hhs:=size_of hh;have hms:=size_of hm;have Hh:=Kb hh;have Hm:=Kb hm;clear hh hm)
  | (with_reducible refine (port_any a m _ (by omega)).mono ?_;rw [Ha.out,Hm.out];rintro e w' ⟨pt,rfl,hpt,rfl⟩;rcases Decidable.em (portOk NL) with hpo | hpo <;> (first | rw [Kx hpo] | rw [Kj hpo]) <;> (have Hpo:=Kb hpo;have Hpt:=Kb hpt;clear hpo hpt))
  | (go_at_call 62;refine (only_any _ _ _ (by omega)).mono ?_;rw [Hh.out,show (⟨#[45,46]⟩:ByteArray).data.toList=[45,46] from rfl,HOB.out];rintro e w' ⟨rfl,rfl⟩;rcases Xn OB with rfl | rfl)
  | (with_reducible refine (lower_any h _ (by omega)).mono ?_;rw [Hh.out];rintro e w6 ⟨lo,rfl,hlo,hb6⟩;obtain ⟨hc6,hf6⟩:=bcell hb6;have hz6:w3.heap.size<w6.heap.size:=(by have:=hb6.size;omega);have hy6:w.heap.size<w6.heap.size:=(by omega);have hB6:=Kd hB5 hb6;have S6:=S5.below hb6 hy5;have Hlo:=Kb hlo;clear hlo)
  | (with_reducible refine (convert_any (p.extract _ _) innerS true _ (by simp;omega)).mono ?_;rw [ext_tail p _ _ (by omega),Hp.out];rintro e w7 ⟨pc,rfl,hpc,hb7⟩;obtain ⟨hc7,hf7⟩:=bcell hb7;have hz7:w3.heap.size<w7.heap.size:=(by have:=hb7.size;simp at this;omega);have hy7:w.heap.size<w7.heap.size:=(by omega);have hB7:=((hB6.setCell (p:=⟨w3.heap.size,1,none⟩) (Kl hz3) (.string lo)).setCell (p:=⟨w3.heap.size,2,none⟩) (Kl hz3) (.string pt)).trans (hb7.mono (by simp;omega));have S7:=((S6.set ⟨w3.heap.size,1,none⟩ (.string lo)).set ⟨w3.heap.size,2,none⟩ (.string pt)).below hb7 (by simp;omega);have hpcs:pc.size<=900000:=(by rw [size_of hpc];refine Kg (conv_len _ _ _) ?_;rw [Jy];omega);have Hpc:=Kb hpc;clear hpc)
  | (with_reducible refine (convert_any ByteArray.empty innerS true _ (by simp)).mono ?_;rw [show ByteArray.empty.data.toList=PC.drop PC.length from (by simp)];rintro e w7 ⟨pc,rfl,hpc,hb7⟩;obtain ⟨hc7,hf7⟩:=bcell hb7;have hz7:w3.heap.size<w7.heap.size:=(by have:=hb7.size;simp at this;omega);have hy7:w.heap.size<w7.heap.size:=(by omega);have hB7:=((hB6.setCell (p:=⟨w3.heap.size,1,none⟩) (Kl hz3) (.string lo)).setCell (p:=⟨w3.heap.size,2,none⟩) (Kl hz3) (.string pt)).trans (hb7.mono (by simp;omega));have S7:=((S6.set ⟨w3.heap.size,1,none⟩ (.string lo)).set ⟨w3.heap.size,2,none⟩ (.string pt)).below hb7 (by simp;omega);have hpcs:pc.size<=900000:=(by rw [size_of hpc];refine Kg (conv_len _ _ _) ?_;rw [Jy];omega);have Hpc:=Kb hpc;clear hpc)
  | (with_reducible refine (clean_any pc _ (by omega) (hM.below hB7 lr)).mono ?_;rw [Hpc.out];rintro e w8 ⟨cl,rfl,hcl,hb8⟩;obtain ⟨hc8,hf8⟩:=bcell hb8;have hz8:w3.heap.size<w8.heap.size:=(by have:=hb8.size;omega);have hy8:w.heap.size<w8.heap.size:=(by omega);have hB8:=Kd hB7 hb8;have S8:=S7.below hb8 hy7;have Hcl:=Kb hcl;clear hcl)
  | (with_reducible refine (convert_any q innerQ true _ (by omega)).mono ?_;rw [Hq.out];rintro e w9 ⟨q2,rfl,hq2,hb9⟩;obtain ⟨hc9,hf9⟩:=bcell hb9;have hz9:w3.heap.size<w9.heap.size:=(by have:=hb9.size;simp at this;omega);have hy9:w.heap.size<w9.heap.size:=(by omega);have hB9:=(hB8.setCell (p:=⟨w3.heap.size,3,none⟩) (Kl hz3) (.string cl)).trans (hb9.mono (by simp;omega));have S9:=(S8.set ⟨w3.heap.size,3,none⟩ (.string cl)).below hb9 (by simp;omega);have Hq2:=Kb hq2;clear hq2))
 all_goals first | (refine bodyPost_ret (url_ret Tryz.results28 _ _ _ (S9.set ⟨w3.heap.size,4,none⟩ (.string q2)) (.string a) (.string lo) (.string pt) (.string cl) (.string q2) (.string f) (.int .i64 0) rfl rfl) rfl ⟨res_some (u:=(N,lowL HL,portOf N NL,cleanL (conv innerL true (PL.drop PC.length)),conv (innerL ++ [63]) true QL,CF)) (by rw [HR.out,Kf ⟨Hpo.out,by omega,by omega,by simp⟩]) Ha.out Hlo.out (Hpt.out Hpo.out) Hcl.out Hq2.out (Hf.out.trans HCF.out),(hB9.setCell (p:=⟨w3.heap.size,4,none⟩) (Kl hz3) _).set6 _ _ _ _ _ _⟩) | (refine bodyPost_ret (url_ret Tryz.results28 _ _ _ (S9.set ⟨w3.heap.size,4,none⟩ (.string q2)) (.string a) (.string lo) (.string pt) (.string cl) (.string q2) (.string f) (.int .i64 0) rfl rfl) rfl ⟨res_some (u:=(N,lowL HL,portOf N NL,cleanL (conv innerL true (PC.drop PC.length)),conv (innerL ++ [63]) true QL,CF)) (by rw [HR.out,Kf ⟨Hpo.out,by omega,by omega,by simp⟩]) Ha.out Hlo.out (Hpt.out Hpo.out) Hcl.out Hq2.out (Hf.out.trans HCF.out),(hB9.setCell (p:=⟨w3.heap.size,4,none⟩) (Kl hz3) _).set6 _ _ _ _ _ _⟩) | (refine bodyPost_ret (url_ret Tryz.results28 _ _ _ S5 (.string ⟨#[]⟩) (.string ⟨#[]⟩) (.string ⟨#[]⟩) (.string ⟨#[]⟩) (.string ⟨#[]⟩) (.string ⟨#[]⟩) (.int .i64 4) rfl rfl) rfl ⟨res_none (by rw [HR.out,Ke (by rintro ⟨h1,h2,h3,h4⟩;first | exact Hpo.out h1 | omega | cases h4)]),hB5.set6 _ _ _ _ _ _⟩)
theorem parse_any (s:ByteArray)(w:World)(hs:s.size<=300000)(hM:MaxAt w):
 Calls Tryz.prog 28 #[.string s] w fun e w'=>e = .returned (resV (parseL s.data.toList))/\Below w.heap.size w w':=by
 rcases Xn (schemeOk (trimL s.data.toList)) with hOK | hOK
 ·rw [parseL,Kf hOK];by_cases hab:lowL (pre 58 (trimL s.data.toList))=aboutL
  ·exact parseA s w hs hM _ _ hOK rfl rfl hab _ rfl
  ·by_cases hZ:(pre 35 (post 58 (trimL s.data.toList))).take 2=[47,47]
   ·by_cases hX:lowL (pre 58 (trimL s.data.toList))=httpL
    ·exact parseCA s w hs hM _ _ hOK rfl rfl hab _ rfl _ (Kx hX) rfl hZ
    ·by_cases hY:lowL (pre 58 (trimL s.data.toList))=httpsL
     ·exact parseCB s w hs hM _ _ hOK rfl rfl hab _ rfl true (Kj hX) (Kx hY) hZ
     ·exact parseBB s w hs hM _ _ hOK rfl rfl hab _ rfl true true _ (Kj hX) (Kj hY) rfl
   ·exact parseBA s w hs hM _ _ hOK rfl rfl hab _ rfl _ _ true rfl rfl (Kj hZ)
 ·exact parseN s w hs hM hOK
def placeL (u:U6):List UInt8:=u.1 ++ 58 :: 47 :: 47 :: u.2.1 ++ (if u.2.2.1=[] then [] else 58 :: u.2.2.1)
def tailL (c:UInt8)(l:List UInt8):List UInt8:=if l=[] then [] else c :: l
def formatL (u:U6):List UInt8:=(if u.1=aboutL then aboutL ++ 58 :: u.2.2.2.1 else placeL u ++ u.2.2.2.1 ++ tailL 63 u.2.2.2.2.1) ++ tailL 35 u.2.2.2.2.2
theorem list_empty {s:ByteArray}(h:s.size=0):s.data.toList=[]:=Ja (by rw [size_len];exact h)
theorem list_ne {s:ByteArray}(h:¬ s.size=0):s.data.toList≠[]:=fun e=>h (by rw [<-size_len,e];rfl)
theorem snext6 {w1 wX w3:World}{b:Nat}{v0 v1 v2 v3 v4 v5:Value}(hb:b<w1.heap.size)(h:wX.cell? ⟨b,0,none⟩=some v0/\wX.cell? ⟨b,1,none⟩=some v1/\wX.cell? ⟨b,2,none⟩=some v2/\wX.cell? ⟨b,3,none⟩=some v3/\wX.cell? ⟨b,4,none⟩=some v4/\wX.cell? ⟨b,5,none⟩=some v5/\Below w1.heap.size w1 wX)(h3:Below wX.heap.size wX w3):
 w3.cell? ⟨b,0,none⟩=some v0/\w3.cell? ⟨b,1,none⟩=some v1/\w3.cell? ⟨b,2,none⟩=some v2/\w3.cell? ⟨b,3,none⟩=some v3/\w3.cell? ⟨b,4,none⟩=some v4/\w3.cell? ⟨b,5,none⟩=some v5/\Below w1.heap.size w1 w3:=by obtain ⟨h0,h1,h2,h4,h5,h6,hw⟩:=h;have hb':=Ko hb hw.size;exact ⟨(h3.cell (p:=⟨b,0,none⟩) hb').trans h0,(h3.cell (p:=⟨b,1,none⟩) hb').trans h1,(h3.cell (p:=⟨b,2,none⟩) hb').trans h2,(h3.cell (p:=⟨b,3,none⟩) hb').trans h4,(h3.cell (p:=⟨b,4,none⟩) hb').trans h5,(h3.cell (p:=⟨b,5,none⟩) hb').trans h6,hw.trans (h3.mono hw.size)⟩
theorem new6 (w:World)(a b c d e f:Value)(T:TypeId):let W:=w.alloc (.cells #[a,b,c,d,e,f] T);W.cell? ⟨w.heap.size,0,none⟩=some a/\W.cell? ⟨w.heap.size,1,none⟩=some b/\W.cell? ⟨w.heap.size,2,none⟩=some c/\W.cell? ⟨w.heap.size,3,none⟩=some d/\W.cell? ⟨w.heap.size,4,none⟩=some e/\W.cell? ⟨w.heap.size,5,none⟩=some f:=by simp
theorem site_any (a b c d e f:ByteArray)(w:World)(ha:a.size<=1000000)(hb:b.size<=1000000)(hc:c.size<=1000000):
 Calls Tryz.prog 68 #[.agg #[.string a,.string b,.string c,.string d,.string e,.string f]] w fun e' w'=>∃ t:ByteArray,e' = .returned (.string t)/\t.data.toList=placeL (a.data.toList,b.data.toList,c.data.toList,d.data.toList,e.data.toList,f.data.toList)/\Below w.heap.size w w':=by
 by_cases h0:c.size=0
 ·have hE:=empty_of c h0;have hl:=Kb (list_empty h0);have hz:(c.size:Int)=0:=by omega
  clear h0;go_enter Tryz.func68,Tryz.ntmps68;go_wp2_with fail;go_ret;exact ⟨_,rfl,by rw [placeL,Kf hl.out];simp,(Kc w).alloc lr _⟩
 ·have hE:=nonempty_of c (by omega);have hl:=Kb (list_ne h0);clear h0;go_enter Tryz.func68,Tryz.ntmps68;go_wp2_with fail;go_ret;exact ⟨_,rfl,by rw [placeL,Ke hl.out];simp,(Kc w).alloc lr _⟩
theorem site_len (a b c d e f:ByteArray):(placeL (a.data.toList,b.data.toList,c.data.toList,d.data.toList,e.data.toList,f.data.toList)).length<=a.size+b.size+c.size+4:=by unfold placeL;simp only [Kw,Kv,size_len];split <;> simp <;> omega
theorem N7{p:Prop}(h:p:=by
 obtain ⟨d0,d1,d2,d3,d4,d5⟩:=new6 w (.string a) (.string b) (.string c) (.string d) (.string e) (.string f) 37;rw [hwa,hK] at d0 d1 d2 d3 d4 d5;have hkl:K<wa.heap.size:=by rw [<-hwa,<-hK];simp
 rw [hwa] at hB0;rw [hwa,hK];clear hwa;have hTd:¬ 9223372036854775807<T.size+d.size:=by omega
 go_region_held3 (fun w'=>w'.cell? ⟨K,0,none⟩=some (.string a)/\w'.cell? ⟨K,1,none⟩=some (.string b)/\w'.cell? ⟨K,2,none⟩=some (.string c)/\w'.cell? ⟨K,3,none⟩=some (.string d)/\w'.cell? ⟨K,4,none⟩=some (.string e)/\w'.cell? ⟨K,5,none⟩=some (.string f)/\Below wa.heap.size wa w') (first | exact ⟨d0,d1,d2,d3,d4,d5,(Kc wa).drew⟩ | (apply snext6 hkl;rotate_left;assumption;assumption) | go_keep) (first | (with_reducible refine (CS.out _).mono ?_;rintro e' w4 ⟨rfl,hb4⟩));obtain ⟨c0,c1,c2,c3,c4,c5,hb5⟩:w4.cell? ⟨K,0,none⟩=some (.string a)/\w4.cell? ⟨K,1,none⟩=some (.string b)/\w4.cell? ⟨K,2,none⟩=some (.string c)/\w4.cell? ⟨K,3,none⟩=some (.string d)/\w4.cell? ⟨K,4,none⟩=some (.string e)/\w4.cell? ⟨K,5,none⟩=some (.string f)/\Below wa.heap.size wa w4:=by assumption
 clear d0 d1 d2 d3 d4 d5;have hb6:=Kd hB0 hb5;go_wp2_with fail;go_ret
 exact ⟨_,rfl,by rw [<-HR.out,<-HT.out];simp,hb6⟩
 ):p:=h
theorem M14{p:Prop}(h:p:=by
 have hE2:=nonempty_of e (by omega);rw [Ke (list_ne h2)] at hR;have HR:=Kb hR;clear hR h0 h2;go_enter Tryz.func104,Tryz.ntmps104;go_wp2_with fail;obtain ⟨K,hK⟩:=Ka w.heap.size;obtain ⟨wa,hwa⟩:∃ wa:World,w.alloc (.cells #[.string a,.string b,.string c,.string d,.string e,.string f] 37)=wa:=⟨_,rfl⟩
 exact N7
 ):p:=h
theorem M15{p:Prop}(h:p:=by
 have hE2:=empty_of e h2;rw [Kf (list_empty h2)] at hR;have HR:=Kb hR;clear hR h0 h2;go_enter Tryz.func104,Tryz.ntmps104;go_wp2_with fail;obtain ⟨K,hK⟩:=Ka w.heap.size;obtain ⟨wa,hwa⟩:∃ wa:World,w.alloc (.cells #[.string a,.string b,.string c,.string d,.string e,.string f] 37)=wa:=⟨_,rfl⟩
 exact N7
 ):p:=h
theorem format_any (a b c d e f:ByteArray)(w:World)(ha:a.size<=1000000)(hb:b.size<=1000000)(hc:c.size<=1000000)(hd:d.size<=1000000)(he:e.size<=1000000)(hf:f.size<=1000000):
 Calls Tryz.prog 104 #[.agg #[.string a,.string b,.string c,.string d,.string e,.string f]] w fun e' w'=>∃ t:ByteArray,e' = .returned (.string t)/\t.data.toList=formatL (a.data.toList,b.data.toList,c.data.toList,d.data.toList,e.data.toList,f.data.toList)/\Below w.heap.size w w':=by
 obtain ⟨R,hR⟩:=Ka (formatL (a.data.toList,b.data.toList,c.data.toList,d.data.toList,e.data.toList,f.data.toList));rw [hR];unfold formatL tailL at hR;have hB0:Below w.heap.size w (w.alloc (.cells #[.string a,.string b,.string c,.string d,.string e,.string f] 37)):=(Kc w).alloc lr _;have hpl:=site_len a b c d e f;by_cases h1:a.data.toList=aboutL
 ·have n1:(a.toList == [97,98,111,117,116])=true:=by rw [str_beq];exact Kx h1
  simp only [h1,if_true] at hR;by_cases h0:f.size=0
  ·have hE:=empty_of f h0;rw [Kf (list_empty h0)] at hR;have HR:=Kb hR;have hz:(f.size:Int)=0:=by omega
   clear hR h1 h0;go_enter Tryz.func104,Tryz.ntmps104;go_wp2_with fail;go_ret;exact ⟨_,rfl,by rw [<-HR.out];simp,hB0⟩
  ·have hE:=nonempty_of f (by omega);rw [Ke (list_ne h0)] at hR;have HR:=Kb hR;clear hR h1 h0;go_enter Tryz.func104,Tryz.ntmps104;go_wp2_with fail;go_ret;exact ⟨_,rfl,by rw [<-HR.out];simp,hB0⟩
 ·have n1:(a.toList == [97,98,111,117,116])=false:=by rw [str_beq];exact Kj h1
  simp only [h1,if_false] at hR;have cS:=fun w=>site_any a b c d e f w ha hb hc;obtain ⟨PP,hPP⟩:=Ka (placeL (a.data.toList,b.data.toList,c.data.toList,d.data.toList,e.data.toList,f.data.toList));rw [hPP] at cS hpl hR;obtain ⟨T,hT⟩:∃ T:ByteArray,⟨PP.toArray⟩=T:=⟨_,rfl⟩
  have hTl:T.data.toList=PP:=by rw [<-hT]
  have hTs:=size_of hTl;have cS2:∀ w,Calls Tryz.prog 68 #[.agg #[.string a,.string b,.string c,.string d,.string e,.string f]] w fun e' w'=>e' = .returned (.string T)/\Below w.heap.size w w':=fun w=>by refine (cS w).mono ?_;rintro e' w' ⟨t,rfl,ht,hb⟩;refine ⟨?_,hb⟩;rw [strV_of ht,<-hT];rfl
  rw [<-hTs] at hpl;have CS:=Kb cS2;have HT:=Kb hTl;clear cS cS2 hPP h1 hT hTl hTs;by_cases h0:f.size=0
  ·have hE:=empty_of f h0;rw [Kf (list_empty h0)] at hR;by_cases h2:e.size=0
   ·exact M15
   ·exact M14
  ·have hE:=nonempty_of f (by omega);rw [Ke (list_ne h0)] at hR;by_cases h2:e.size=0
   ·exact M15
   ·exact M14
theorem okC_hex (keep:List UInt8)(b:UInt8)(h:0<=hexB b):okC keep b=true:=by
 have:letterB b=true\/digitB b=true:=by
  unfold hexB hexI at h;unfold letterB letterI digitB digitI;simp only [Bool.or_eq_true,Jb];split at h
  ·exact .inr (by assumption)
  ·split at h
   ·exact .inl (.inl (by omega))
   ·split at h
    ·exact .inl (.inr (by omega))
    ·omega
 unfold okC;rcases this with h | h <;> simp [h]
theorem hex_dig:∀ n:Fin 16,0<=hexB (dig n.1):=by decide
theorem pct_coded (b:UInt8)(r:List UInt8):codedL (pct b ++ r)=true:=by have h1:=hex_dig ⟨b.toNat / 16,by have:=b.toNat_lt;omega⟩;have h2:=hex_dig ⟨b.toNat % 16,by omega⟩;simp only [pct,Jn,Jp,codedL,Jh,beq_self_eq_true,Jb,true_and];exact ⟨h1,h2⟩
theorem conv_ok (keep:List UInt8)(codes:Bool)(c:UInt8)(r:List UInt8)(h:okC keep c=true):conv keep codes (c :: r)=c :: conv keep codes r:=by rw [conv,Kf (by simp [h])];rfl
theorem conv_coded (keep:List UInt8)(a b:UInt8)(r:List UInt8)(h:codedL (37 :: a :: b :: r)=true):conv keep true (37 :: a :: b :: r)=37 :: a :: b :: conv keep true r:=by have h2:=h;simp only [codedL,Jh,Jb] at h2;rw [conv,Kf (by simp [h]),conv_ok keep true a _ (okC_hex keep a h2.1.2),conv_ok keep true b _ (okC_hex keep b h2.2)];rfl
theorem coded_shape (c:UInt8)(r:List UInt8)(h:codedL (c :: r)=true):∃ a b t,c=37/\r=a :: b :: t:=by
 match r,h with
 | a :: b :: t, h =>
   simp only [codedL,Jh,Ju] at h
   exact ⟨a,b,t,h.1.1,rfl⟩
theorem codedL_more (a b:UInt8)(r t:List UInt8):codedL (37 :: a :: b :: r)=codedL (37 :: a :: b :: t):=rfl
theorem conv_idem (keep:List UInt8)(l:List UInt8):conv keep true (conv keep true l)=conv keep true l:=by
 suffices h:∀ n (l:List UInt8),l.length<=n->conv keep true (conv keep true l)=conv keep true l from h _ l lr
 intro n
 induction n with
 | zero=>intro l hl;obtain rfl:=Ja (Nat.le_zero.1 hl);rfl
 | succ n ih=>
   intro l hl
   match l with
   | []=>rfl
   | c :: r=>
     simp only [Kv] at hl
     by_cases h1:okC keep c=true
     ·rw [conv_ok keep true c r h1,conv_ok keep true c _ h1,ih r (by omega)]
     ·by_cases h2:codedL (c :: r)=true
      ·obtain ⟨a,b,t,rfl,rfl⟩:=coded_shape c r h2
       rw [conv_coded keep a b t h2,conv_coded keep a b _ ((codedL_more a b _ t).trans h2),ih t (by simp at hl;omega)]
      ·have e:conv keep true (c :: r)=pct c ++ conv keep true r:=by rw [conv,Ke (by simp [h1,h2])]
       rw [e]
       have h3:=pct_coded c (conv keep true r)
       simp only [pct,Jn,Jp] at h3 ⊢
       rw [conv_coded keep _ _ _ h3,ih r (by omega)]
theorem conv_mem (keep:List UInt8)(codes:Bool)(l:List UInt8):∀ x∈conv keep codes l,okC keep x=true\/x=37:=by
 induction l with
 | nil=>intro x h;simp [conv] at h
 | cons c r ih=>
   intro x h
   rw [conv] at h
   rcases Kz.1 h with h | h
   ·split at h
    ·next hc=>
     obtain rfl:x=c:=by simpa using h
     rcases (Bool.or_eq_true _ _).mp hc with h1 | h1
     ·exact .inl h1
     ·obtain ⟨_,_,_,h2,_⟩:=coded_shape x r ((Jh _ _).mp h1).2
      exact .inr h2
    ·have hd:∀ n:Fin 16,okC keep (dig n.1)=true:=fun n=>okC_hex keep _ (hex_dig n)
     simp only [pct,Ji,Zo,or_false] at h
     rcases h with rfl | rfl | rfl
     ·exact .inr rfl
     ·exact .inl (hd ⟨c.toNat / 16,by have:=c.toNat_lt;omega⟩)
     ·exact .inl (hd ⟨c.toNat % 16,by omega⟩)
   ·exact ih x h
def Fixed (keep l:List UInt8):Prop:=conv keep true l=l
theorem conv_ge (keep:List UInt8)(codes:Bool)(l:List UInt8):l.length<=(conv keep codes l).length:=by
 induction l with
 | nil=>simp [conv]
 | cons c r ih=>unfold conv;split <;> simp [pct] <;> omega
theorem fixed_cases (keep:List UInt8)(c:UInt8)(r:List UInt8)(h:Fixed keep (c :: r)):
 (okC keep c=true/\Fixed keep r)\/(∃ a b t,c=37/\r=a :: b :: t/\codedL (37 :: a :: b :: t)=true/\Fixed keep t):=by
 unfold Fixed at h ⊢;by_cases h1:okC keep c=true
 ·rw [conv_ok keep true c r h1] at h;exact .inl ⟨h1,(Zx h).2⟩
 ·by_cases h2:codedL (c :: r)=true
  ·obtain ⟨a,b,t,rfl,rfl⟩:=coded_shape c r h2;rw [conv_coded keep a b t h2] at h;exact .inr ⟨a,b,t,rfl,rfl,h2,(Zx (Zx (Zx h).2).2).2⟩
  ·exfalso;rw [conv,Ke (by simp [h1,h2])] at h;have:=Kq List.length h;have h3:=conv_ge keep true r;simp [pct] at this;omega
theorem fixed_ok (keep:List UInt8)(c:UInt8)(r:List UInt8)(h:okC keep c=true)(hr:Fixed keep r):Fixed keep (c :: r):=by unfold Fixed at *;rw [conv_ok keep true c r h,hr]
theorem fixed_coded (keep:List UInt8)(a b:UInt8)(r:List UInt8)(h:codedL (37 :: a :: b :: r)=true)(hr:Fixed keep r):Fixed keep (37 :: a :: b :: r):=by unfold Fixed at *;rw [conv_coded keep a b r h,hr]
theorem fixed_app (keep b:List UInt8)(hb:Fixed keep b):∀ n (a:List UInt8),a.length<=n->Fixed keep a->Fixed keep (a ++ b):=by
 intro n
 induction n with
 | zero=>intro a ha _;obtain rfl:=Ja (Nat.le_zero.1 ha);exact hb
 | succ n ih=>
   intro a ha h
   match a,ha,h with
   | [],_,_=>exact hb
   | c :: r, ha, h =>
     simp only [Kv] at ha
     rcases fixed_cases keep c r h with ⟨h1,h2⟩ | ⟨x,y,t,rfl,rfl,h3,h4⟩
     ·exact fixed_ok keep c _ h1 (ih r (by omega) h2)
     ·exact fixed_coded keep x y _ h3 (ih t (by simp at ha;omega) h4)
theorem hex_not_slash (a:UInt8)(h:0<=hexB a):a≠47:=by rintro rfl;revert h;decide
theorem fixed_split (keep r:List UInt8)(hk:okC keep 47=true):∀ n (p:List UInt8),p.length<=n->Fixed keep (p ++ 47 :: r)->Fixed keep p/\Fixed keep r:=by
 intro n
 induction n with
 | zero=>
   intro p hp h
   obtain rfl:=Ja (Nat.le_zero.1 hp)
   rcases fixed_cases keep 47 r h with ⟨_,h2⟩ | ⟨_,_,_,e,_⟩
   ·exact ⟨rfl,h2⟩
   ·cases e
 | succ n ih=>
   intro p hp h
   match p,hp,h with
   | [],_,h=>
     rcases fixed_cases keep 47 r h with ⟨_,h2⟩ | ⟨_,_,_,e,_⟩
     ·exact ⟨rfl,h2⟩
     ·cases e
   | c :: q, hp, h =>
     simp only [Kv] at hp
     rcases fixed_cases keep c (q ++ 47 :: r) h with ⟨h1,h2⟩ | ⟨x,y,t,rfl,e,h3,h4⟩
     ·obtain ⟨h5,h6⟩:=ih q (by omega) h2
      exact ⟨fixed_ok keep c q h1 h5,h6⟩
     ·have hx:=h3
      simp only [codedL,Jh,Jb] at hx
      match q,e,hp with
      | [],e,_=>exact absurd (Zx e).1.symm (hex_not_slash x hx.1.2)
      | [z],e,_=>exact absurd (Zx (Zx e).2).1.symm (hex_not_slash y hx.2)
      | z :: z2 :: q2, e, hp =>
        obtain ⟨rfl,e2⟩:=Zx e
        obtain ⟨rfl,rfl⟩:=Zx e2
        obtain ⟨h5,h6⟩:=ih q2 (by simp at hp;omega) h4
        exact ⟨fixed_coded keep _ _ q2 h3 h5,h6⟩
theorem segs_step (c:UInt8)(l:List UInt8)(h:c∈l):segs c l=pre c l :: segs c (post c l):=by
 have e:=pre_post c l h
 calc segs c l=segs c (pre c l ++ c :: post c l):=Kq _ e
  _=_:=segs_pre c _ _ (pre_not c l)
theorem post_lt (c:UInt8)(l:List UInt8)(h:c∈l):(post c l).length<l.length:=by have:=Kq List.length (pre_post c l h);simp at this;omega
theorem segs_all (P:List UInt8->Prop)(c:UInt8)(h1:∀ p r,c ∉ p->P (p ++ c :: r)->P p/\P r):∀ n (l:List UInt8),l.length<=n->P l->∀ x∈segs c l,P x/\c ∉ x:=by
 intro n
 induction n with
 | zero=>
   intro l hl hP x hx
   obtain rfl:=Ja (Nat.le_zero.1 hl)
   simp [segs] at hx;subst hx;exact ⟨hP,by simp⟩
 | succ n ih=>
   intro l hl hP x hx
   by_cases hc:c∈l
   ·rw [segs_step c l hc] at hx
    have e:=pre_post c l hc
    rw [e] at hP
    obtain ⟨p1,p2⟩:=h1 _ _ (pre_not c l) hP
    rcases Ji.1 hx with rfl | hx
    ·exact ⟨p1,pre_not c l⟩
    ·exact ih _ (by have:=post_lt c l hc;omega) p2 x hx
   ·rw [segs_one c l hc] at hx
    obtain rfl:x=l:=by simpa using hx
    exact ⟨hP,hc⟩
theorem fold_keep (l:List (List UInt8)):∀ (acc:List (List UInt8)) (x:List UInt8),x∈l.foldl kstep acc->x∈acc\/(x∈l/\isDot x=false):=by
 induction l with
 | nil=>intro acc x h;exact .inl h
 | cons p r ih=>
   intro acc x h
   rcases ih _ x h with h | h
   ·unfold kstep at h
    split at h
    ·exact .inl (List.dropLast_subset _ h)
    ·split at h
     ·exact .inl h
     ·next h1 h2=>
      rcases Kz.1 h with h | h
      ·exact .inl h
      ·obtain rfl:x=p:=by simpa using h
       exact .inr ⟨Jz,by simp [isDot,h1,h2]⟩
   ·exact .inr ⟨Jg _ h.1,h.2⟩
theorem kept_mem (l:List (List UInt8))(x:List UInt8)(h:x∈keptL l):x=[]\/(x∈l/\isDot x=false):=by
 unfold keptL kpt at h;rcases Kz.1 h with h | h
 ·rw [Jq] at h;rcases fold_keep _ _ _ h with h | h
  ·cases h
  ·exact .inr h
 ·split at h
  ·exact .inl (by simpa using h)
  ·cases h
theorem tailE_mem (l:List (List UInt8))(x:List UInt8)(h:x∈tailE l):x∈l:=by
 unfold tailE at h;split at h
 ·exact List.mem_of_mem_tail h
 ·exact h
theorem fold_same (l:List (List UInt8))(h:∀ x∈l,isDot x=false):∀ acc,l.foldl kstep acc=acc ++ l:=by
 induction l with
 | nil=>intro acc;simp
 | cons p r ih=>
   intro acc
   have hp:=h p Jz
   simp only [isDot,Bool.or_eq_false_iff,Ki] at hp
   rw [Xc,ih (fun x hx=>h x (Jg _ hx)),kstep,Ke hp.2,Ke hp.1];simp
theorem kept_same (l:List (List UInt8))(h:∀ x∈l,isDot x=false):keptL l=l:=by
 unfold keptL kpt
 rw [Jq,fold_same l h,Ke,Je,Jp]
 rintro ⟨_,h2⟩
 cases e:l.getLast? with
 | none=>rw [e] at h2;cases h2
 | some x=>
   rw [e] at h2
   have:=h x (List.mem_of_getLast? e)
   simp only [Option.map_some,Option.getD_some] at h2
   rw [this] at h2;cases h2
theorem segs_out (k:List (List UInt8))(h:∀ x∈k,(47:UInt8) ∉ x)(hk:k≠[]):segs 47 (outL k)=[] :: k:=by
 induction k with
 | nil=>exact absurd rfl hk
 | cons x r ih=>
   have e:outL (x :: r)=47 :: (x ++ outL r):=by simp [outL]
   have hx:=h x Jz
   have e2:segs 47 (47 :: (x ++ outL r))=[] :: segs 47 (x ++ outL r):=by rw [segs,Kf (by rfl)]
   rw [e,e2]
   cases r with
   | nil=>rw [show outL []=[] from rfl,Je,segs_one 47 x hx]
   | cons y r=>
     have h2:=ih (fun z hz=>h z (Jg _ hz)) (by simp)
     have e3:outL (y :: r)=47 :: (y ++ outL r):=by simp [outL]
     rw [e3] at h2 ⊢
     rw [segs_pre 47 _ x hx]
     rw [segs,Kf (by rfl)] at h2
     rw [(Zx h2).2]
def keptP (l:List UInt8):List (List UInt8):=keptL (tailE (segs 47 l))
theorem keptP_mem (l:List UInt8)(x:List UInt8)(h:x∈keptP l):(47:UInt8) ∉ x/\isDot x=false/\(x=[]\/x∈segs 47 l):=by
 rcases kept_mem _ _ h with rfl | ⟨h1,h2⟩
 ·exact ⟨by simp,rfl,.inl rfl⟩
 ·have h3:=tailE_mem _ _ h1;exact ⟨(segs_all (fun _=>True) 47 (fun _ _ _ _=>⟨trivial,trivial⟩) _ l lr trivial x h3).2,h2,.inr h3⟩
theorem cleanL_is (l:List UInt8):cleanL l=if keptP l=[] then [47] else outL (keptP l):=rfl
theorem clean_idem (l:List UInt8):cleanL (cleanL l)=cleanL l:=by
 rw [cleanL_is l];split
 ·rfl
 ·next h=>
  have h1:=segs_out (keptP l) (fun x hx=>(keptP_mem l x hx).1) h;have h2:keptP (outL (keptP l))=keptP l:=by rw [keptP,h1,tailE,Kf (show ([] :: keptP l).head? = some [] from rfl),List.tail_cons,kept_same _ (fun x hx=>(keptP_mem l x hx).2.1)]
  rw [cleanL_is,h2,Ke h]
theorem clean_head (l:List UInt8):∃ r,cleanL l=47 :: r:=by
 rw [cleanL_is];split
 ·exact ⟨[],rfl⟩
 ·next h=>
  cases e:keptP l with
  | nil=>exact absurd e h
  | cons x r=>exact ⟨x ++ outL r,by simp [outL]⟩
theorem fixed_out (keep:List UInt8)(hk:okC keep 47=true)(k:List (List UInt8))(h:∀ x∈k,Fixed keep x):Fixed keep (outL k):=by
 induction k with
 | nil=>rfl
 | cons x r ih=>
   have e:outL (x :: r)=47 :: (x ++ outL r):=by simp [outL]
   rw [e]
   exact fixed_ok keep 47 _ hk (fixed_app keep _ (ih fun y hy=>h y (Jg _ hy)) _ x lr (h x Jz))
theorem fixed_clean (keep:List UInt8)(hk:okC keep 47=true)(l:List UInt8)(h:Fixed keep l):Fixed keep (cleanL l):=by
 rw [cleanL_is];split
 ·exact fixed_ok keep 47 [] hk rfl
 ·refine fixed_out keep hk _ fun x hx=>?_;rcases (keptP_mem l x hx).2.2 with rfl | h3
  ·rfl
  ·exact (segs_all (Fixed keep) 47 (fun p r _ hpr=>fixed_split keep r hk _ p lr hpr) _ l lr h x h3).1
theorem out_mem (k:List (List UInt8))(x:UInt8)(h:x∈outL k):x=47\/∃ p∈k,x∈p:=by
 induction k with
 | nil=>simp [outL] at h
 | cons p r ih=>
   have e:outL (p :: r)=47 :: (p ++ outL r):=by simp [outL]
   rw [e] at h
   rcases Ji.1 h with h | h
   ·exact .inl h
   ·rcases Kz.1 h with h | h
    ·exact .inr ⟨p,Jz,h⟩
    ·rcases ih h with h | ⟨q,hq,h⟩
     ·exact .inl h
     ·exact .inr ⟨q,Jg _ hq,h⟩
theorem segs_sub (c:UInt8):∀ n (l:List UInt8),l.length<=n->∀ p∈segs c l,∀ x∈p,x∈l:=by
 intro n
 induction n with
 | zero=>
   intro l hl p hp x hx
   obtain rfl:=Ja (Nat.le_zero.1 hl)
   simp [segs] at hp;subst hp;exact hx
 | succ n ih=>
   intro l hl p hp x hx
   by_cases hc:c∈l
   ·rw [segs_step c l hc] at hp
    have e:=pre_post c l hc
    rw [e]
    rcases Ji.1 hp with rfl | hp
    ·exact List.mem_append_left _ hx
    ·exact List.mem_append_right _ (Jg _ (ih _ (by have:=post_lt c l hc;omega) p hp x hx))
   ·rw [segs_one c l hc] at hp
    obtain rfl:p=l:=by simpa using hp
    exact hx
theorem clean_mem (l:List UInt8)(x:UInt8)(h:x∈cleanL l):x=47\/x∈l:=by
 rw [cleanL_is] at h;split at h
 ·exact .inl (by simpa using h)
 ·rcases out_mem _ _ h with h | ⟨p,hp,h⟩
  ·exact .inl h
  ·rcases (keptP_mem l p hp).2.2 with rfl | h3
   ·cases h
   ·exact .inr (segs_sub 47 _ l lr p h3 x h)
theorem takeW_stop (c:UInt8)(p r:List UInt8)(h:c ∉ p):pre c (p ++ c :: r)=p/\post c (p ++ c :: r)=r:=by
 induction p with
 | nil=>simp [pre,post]
 | cons b p ih=>
   have hb:(b != c)=true:=by simp only [bne_iff_ne];exact fun e=>h (by rw [e];exact Jz)
   obtain ⟨h1,h2⟩:=ih fun hm=>h (Jg _ hm)
   unfold pre post at *
   rw [Jn,List.takeWhile_cons,Kf hb,Ze,Kf hb]
   exact ⟨by rw [h1],h2⟩
theorem pre_tail (c:UInt8)(p l:List UInt8)(h:c ∉ p):pre c (p ++ tailL c l)=p/\post c (p ++ tailL c l)=l:=by
 unfold tailL;split
 ·next hl=>subst hl;rw [Je];exact ⟨pre_all c p h,post_none c p h⟩
 ·exact takeW_stop c p l h
theorem trim_id (l:List UInt8)(h:∀ x∈l,32<x.toNat):trimL l=l:=by
 have hw:∀ m:List UInt8,(∀ x∈m,32<x.toNat)->m.dropWhile wsB=m:=fun m hm=>by
  cases m with
  | nil=>rfl
  | cons b r =>
    rw [Ze,Ke]
    have:=hm b Jz
    simp only [wsB,Jb];omega
 unfold trimL trimE trimF;rw [hw l h,hw l.reverse (fun x hx=>h x (by simpa using hx)),List.reverse_reverse]
theorem okC_ascii (more:List UInt8)(hm:∀ x∈more,32<x.toNat)(x:UInt8)(h:okC more x=true):32<x.toNat:=by
 unfold okC letterB letterI digitB digitI at h;simp only [Bool.or_eq_true,Jb] at h;rcases h with (h | h) | h
 ·omega
 ·omega
 ·exact hm x (by simpa using h)
theorem okC_ne (more:List UInt8)(c:UInt8)(hc:okC more c=false)(l:List UInt8)(h:∀ x∈l,okC more x=true\/x=37)(h37:c≠37):c ∉ l:=fun hm=>by
 rcases h c hm with h | h
 ·rw [hc] at h;cases h
 ·exact h37 h
theorem lowB_low (b:UInt8):lowB (lowB b)=lowB b:=by
 unfold lowB;split
 ·next h=>
  have:(b+32).toNat=b.toNat+32:=by rw [UInt8.toNat_add];have:=b.toNat_lt;simp;omega
  rw [Ke (by omega)]
 ·rfl
theorem lowL_low (l:List UInt8):lowL (lowL l)=lowL l:=by unfold lowL;rw [List.map_map];congr 1;exact funext fun b=>lowB_low b
theorem zeros_zeros (l:List UInt8):zerosOff (zerosOff l)=zerosOff l:=by
 cases e:zerosOff l with
 | nil=>rfl
 | cons b r=>
   have:=zeros_head l b r e
   unfold zerosOff
   rw [Ze,Ke (by simpa using this)]
theorem zeros_len (l:List UInt8):(zerosOff l).length<=l.length:=(Zw _).length_le
theorem digit_ok (more:List UInt8)(x:UInt8)(h:digitB x=true):okC more x=true:=by unfold okC;simp [h]
theorem port_again (n d:List UInt8)(h:portOk d):portOk (portOf n d)/\portOf n (portOf n d)=portOf n d:=by
 obtain ⟨h1,h2,h3⟩:=h;unfold portOf;split
 ·refine ⟨⟨rfl,by simp,by decide⟩,?_⟩;rw [Ke (by rintro (⟨_,h⟩ | ⟨_,h⟩) <;> revert h <;> decide)];rfl
 ·next hn=>
  refine ⟨⟨zeros_all d h1,Kg (zeros_len d) h2,by rw [numL_zeros];exact h3⟩,?_⟩;rw [numL_zeros,Ke hn,zeros_zeros]
structure Site (n h p path q f:List UInt8):Prop where
 sch:n=httpL\/n=httpsL
 hlow:lowL h=h
 hlen:1<=h.length/\h.length<=253
 hok:h.all (okC [45,46])=true
 pok:portOk p/\portOf n p=p
 clean:cleanL path=path
 pfix:conv innerL true path=path
 pmem:∀ x∈path,okC innerL x=true\/x=37
 qfix:conv (innerL ++ [63]) true q=q
 qmem:∀ x∈q,okC (innerL ++ [63]) x=true\/x=37
 ffix:conv (innerL ++ [63]) true f=f
 fmem:∀ x∈f,okC (innerL ++ [63]) x=true\/x=37
theorem innerQ_gt:∀ x∈innerL ++ [63],32<x.toNat:=by decide
theorem okC_sub (a b:List UInt8)(x:UInt8)(h:∀ y∈a,y∈b)(hx:okC a x=true):okC b x=true:=by
 unfold okC at *;simp only [Bool.or_eq_true] at *;rcases hx with hx | hx
 ·exact .inl hx
 ·exact .inr (by simp only [List.contains_iff_mem] at *;exact h x hx)
theorem site_of {n fr before:List UInt8}{u:U6}(hf:fr=conv (innerL ++ [63]) true fr)(hfm:∀ x∈fr,okC (innerL ++ [63]) x=true\/x=37)(h:siteL n fr before=some u):∃ a b c d,u=(n,a,b,c,d,fr)/\Site n a b c d fr:=by
 unfold siteL at h;split at h
 ·next h1=>
  simp only at h;split at h
  ·next h2=>
   obtain ⟨h3,h4,h5,h6⟩:=h2;cases h;have hk:okC innerL 47=true:=by decide
   refine ⟨_,_,_,_,rfl,⟨h1.1,lowL_low _,by rw [lowL_len];exact ⟨h4,h5⟩,by rw [lowL_ok [45,46] _ (by decide)];exact h6,port_again n _ h3,clean_idem _,?_,?_,conv_idem _ _,conv_mem _ _ _,hf.symm,hfm⟩⟩
   ·exact fixed_clean innerL hk _ (conv_idem innerL _)
   ·intro x hx;rcases clean_mem _ x hx with rfl | hx
    ·exact .inl hk
    ·exact conv_mem _ _ _ x hx
  ·cases h
 ·cases h
theorem http_gt:∀ x∈httpL,32<x.toNat:=by decide
theorem https_gt:∀ x∈httpsL,32<x.toNat:=by decide
theorem all_mem {more l:List UInt8}(h:l.all (okC more)=true):∀ x∈l,okC more x=true\/x=37:=fun x hx=>.inl (Jv.1 h x hx)
theorem port_mem {p:List UInt8}(h:portOk p):∀ x∈p,okC [] x=true\/x=37:=fun x hx=>.inl (digit_ok [] x (Jv.1 h.1 x hx))
theorem mem_tail (c:UInt8)(l:List UInt8)(x:UInt8)(h:x∈tailL c l):x=c\/x∈l:=by
 unfold tailL at h;split at h
 ·cases h
 ·exact Ji.1 h
def midL (a b c d:List UInt8):List UInt8:=a ++ tailL 58 b ++ c ++ tailL 63 d
theorem format_site (n a b c d f:List UInt8)(hn:n≠aboutL):formatL (n,a,b,c,d,f)=n ++ 58 :: (47 :: 47 :: midL a b c d ++ tailL 35 f):=by unfold formatL placeL midL;rw [Ke hn];simp [tailL,Jj]
theorem http_pre (n r:List UInt8)(h:n=httpL\/n=httpsL):pre 58 (n ++ 58 :: r)=n/\post 58 (n ++ 58 :: r)=r/\schemeOk (n ++ 58 :: r)=true/\lowL n=n:=by
 have h1:=takeW_stop 58 n r (by rcases h with rfl | rfl <;> decide);refine ⟨h1.1,h1.2,?_,by rcases h with rfl | rfl <;> decide⟩;unfold schemeOk;rw [h1.1];have h2:(n ++ 58 :: r).contains 58=true:=by simp
 rw [h2];rcases h with rfl | rfl <;> rfl
theorem site_again {n a b c d f:List UInt8}(s:Site n a b c d f):siteL n f (47 :: 47 :: midL a b c d)=some (n,a,b,c,d,f):=by
 obtain ⟨sch,hlow,hlen,hok,pok,clean,pfix,pmem,qfix,qmem,ffix,fmem⟩:=s;have hc47:∃ r,c=47 :: r:=by rw [<-clean];exact clean_head c
 obtain ⟨cr,hcr⟩:=hc47;have ha:=all_mem hok;have hb:=port_mem pok.1;have n63:(63:UInt8) ∉ a ++ tailL 58 b ++ c:=by
  simp only [Kz,not_or];refine ⟨⟨okC_ne _ 63 (by decide) a ha (by decide),fun h=>?_⟩,okC_ne _ 63 (by decide) c pmem (by decide)⟩;rcases mem_tail 58 b 63 h with h | h
  ·revert h;decide
  ·exact okC_ne _ 63 (by decide) b hb (by decide) h
 have n47:(47:UInt8) ∉ a ++ tailL 58 b:=by
  simp only [Kz,not_or];refine ⟨okC_ne _ 47 (by decide) a ha (by decide),fun h=>?_⟩;rcases mem_tail 58 b 47 h with h | h
  ·revert h;decide
  ·exact okC_ne _ 47 (by decide) b hb (by decide) h
 have n58:(58:UInt8) ∉ a:=okC_ne _ 58 (by decide) a ha (by decide);have q1:=pre_tail 63 _ d n63;have q2:pre 47 (a ++ tailL 58 b ++ c)=a ++ tailL 58 b:=by rw [hcr];exact (takeW_stop 47 _ cr n47).1
 have q3:=pre_tail 58 a b n58;have q4:(a ++ tailL 58 b ++ c).drop (a ++ tailL 58 b).length=c:=by simp
 unfold siteL;rw [Kf ⟨sch,rfl⟩];simp only [List.drop_succ_cons,List.drop_zero,midL,q1.1,q1.2,q2,q3.1,q3.2,q4];rw [Kf ⟨pok.1,hlen.1,hlen.2,hok⟩,hlow,pok.2,pfix,clean,qfix]
theorem mid_mem {n a b c d f:List UInt8}(s:Site n a b c d f):∀ x∈midL a b c d,okC (innerL ++ [63]) x=true\/x=37:=by
 intro x hx;unfold midL at hx;simp only [Kz] at hx;have hs:∀ m:List UInt8,(∀ y∈m,y∈innerL ++ [63])->okC m x=true\/x=37->okC (innerL ++ [63]) x=true\/x=37:=fun m hm h=>h.imp (okC_sub m _ x hm) id;rcases hx with ((hx | hx) | hx) | hx
 ·exact hs [45,46] (by decide) (all_mem s.hok x hx)
 ·rcases mem_tail 58 b x hx with rfl | hx
  ·exact .inl (by decide)
  ·exact hs [] (by simp) (port_mem s.pok.1 x hx)
 ·exact hs innerL (fun y hy=>List.mem_append_left _ hy) (s.pmem x hx)
 ·rcases mem_tail 63 d x hx with rfl | hx
  ·exact .inl (by decide)
  ·exact s.qmem x hx
theorem ok_gt (x:UInt8)(h:okC (innerL ++ [63]) x=true\/x=37):32<x.toNat:=by
 rcases h with h | rfl
 ·exact okC_ascii _ innerQ_gt x h
 ·decide
theorem site_parse {n a b c d f:List UInt8}(s:Site n a b c d f):parseL (formatL (n,a,b,c,d,f))=some (n,a,b,c,d,f):=by
 have hn:n≠aboutL:=by rcases s.sch with rfl | rfl <;> decide
 rw [format_site n a b c d f hn];obtain ⟨p1,p2,p3,p4⟩:=http_pre n (47 :: 47 :: midL a b c d ++ tailL 35 f) s.sch;have hgt:∀ x∈n ++ 58 :: (47 :: 47 :: midL a b c d ++ tailL 35 f),32<x.toNat:=by
  intro x hx;rcases Kz.1 hx with hx | hx
  ·rcases s.sch with rfl | rfl
   ·exact http_gt x hx
   ·exact https_gt x hx
  ·rcases Ji.1 hx with rfl | hx
   ·decide
   ·rcases Kz.1 hx with hx | hx
    ·rcases Ji.1 hx with rfl | hx
     ·decide
     ·rcases Ji.1 hx with rfl | hx
      ·decide
      ·exact ok_gt x (mid_mem s x hx)
    ·rcases mem_tail 35 f x hx with rfl | hx
     ·decide
     ·exact ok_gt x (s.fmem x hx)
 have n35:(35:UInt8) ∉ 47 :: 47 :: midL a b c d:=by
  intro h;rcases Ji.1 h with h | h
  ·revert h;decide
  ·rcases Ji.1 h with h | h
   ·revert h;decide
   ·exact okC_ne _ 35 (by decide) _ (mid_mem s) (by decide) h
 have q:=pre_tail 35 _ f n35;unfold parseL;rw [trim_id _ hgt,Kf p3,p1,p2,p4];unfold restL;simp only [Ke hn,q.1,q.2,s.ffix];exact site_again s
structure About (path f:List UInt8):Prop where
 pok:path.all (okC [45])=true
 ffix:conv (innerL ++ [63]) true f=f
 fmem:∀ x∈f,okC (innerL ++ [63]) x=true\/x=37
theorem parse_cases {s:List UInt8}{u:U6}(h:parseL s=some u):(∃ p f,u=(aboutL,[],[],p,[],f)/\About p f)\/(∃ n a b c d f,u=(n,a,b,c,d,f)/\Site n a b c d f):=by
 unfold parseL at h;split at h
 ·unfold restL at h;simp only at h;split at h
  ·next ha=>
   split at h
   ·next hp=>
    cases h;exact .inl ⟨_,_,by rw [ha],hp,conv_idem _ _,conv_mem _ _ _⟩
   ·cases h
  ·obtain ⟨a,b,c,d,h1,h2⟩:=site_of (conv_idem _ _).symm (conv_mem _ _ _) h;exact .inr ⟨_,a,b,c,d,_,h1,h2⟩
 ·cases h
def eqU (u v:U6):Bool:=u.1 == v.1 && u.2.1 == v.2.1 && u.2.2.1 == v.2.2.1 && u.2.2.2.1 == v.2.2.2.1 && u.2.2.2.2.1 == v.2.2.2.2.1 && u.2.2.2.2.2 == v.2.2.2.2.2
theorem eqU_iff (u v:U6):eqU u v=true ↔ u=v:=by
 obtain ⟨a,b,c,d,e,f⟩:=u;obtain ⟨a',b',c',d',e',f'⟩:=v;simp only [eqU,Jh,Ju,Prod.mk.injEq];constructor
 ·rintro ⟨⟨⟨⟨⟨h1,h2⟩,h3⟩,h4⟩,h5⟩,h6⟩;exact ⟨h1,h2,h3,h4,h5,h6⟩
 ·rintro ⟨h1,h2,h3,h4,h5,h6⟩;exact ⟨⟨⟨⟨⟨h1,h2⟩,h3⟩,h4⟩,h5⟩,h6⟩
def validB (u:U6):Bool:=match parseL (formatL u) with
 | none=>false
 | some v=>eqU v u
theorem validB_is (u:U6):validB u=match parseL (formatL u) with
 | none=>false
 | some v=>eqU v u:=rfl
theorem valid_iff (u:U6):validB u=true ↔ parseL (formatL u)=some u:=by
 unfold validB
 cases parseL (formatL u) with
 | none=>simp
 | some v=>simp [eqU_iff]
theorem format_len (a b c d e f:ByteArray):(formatL (a.data.toList,b.data.toList,c.data.toList,d.data.toList,e.data.toList,f.data.toList)).length<=a.size+b.size+c.size+d.size+e.size+f.size+20:=by
 have h:=site_len a b c d e f;have ht:∀ (x:UInt8) (s:ByteArray),(tailL x s.data.toList).length<=s.size+1:=fun x s=>by unfold tailL;split <;> simp
 have h1:=ht 63 e;have h2:=ht 35 f;unfold formatL;rw [Kw];split
 ·next h0=>
  have h0':a.data.toList=aboutL:=h0;have:a.size=5:=by rw [<-size_len,h0'];rfl
  simp only [Kw,Kv,Zg,size_len];omega
 ·simp only [Kw,size_len];omega
theorem N46{p:Prop}(h:p:=by
 go_enter Tryz.func49,Tryz.ntmps49
 go_wp2_with (first
  | (with_reducible refine (CF.out _).mono ?_;rintro e' w1 ⟨t,rfl,ht,hb1⟩;have hB1:=Kd hB0 hb1;obtain ⟨hc1,hf1⟩:=bcell hb1;have hz1:w.heap.size<w1.heap.size:=(by have:=hb1.size;simp at this;omega);have Ht:=Kb ht;clear ht)
  | (with_reducible refine (CP.out _ Ht.out _ (hM.below hB1 lr)).mono ?_;rintro e' w2 ⟨rfl,hb2⟩;have hB2:=Kd hB1 hb2;obtain ⟨hc2,hf2⟩:=bcell hb2;have hz2:w.heap.size<w2.heap.size:=(by have:=hb2.size;omega)))
 first
  |go_ret
   exact ⟨rfl,hB2.alloc hB2.size _⟩
  |all_goals
    go_ret
    exact ⟨ret_bool (by rw [E1.out];simp [*]),hB2.alloc hB2.size _⟩
 ):p:=h
theorem valid_any (a b c d e f:ByteArray)(w:World)(ha:a.size<=40000)(hb:b.size<=40000)(hc:c.size<=40000)(hd:d.size<=40000)(he:e.size<=40000)(hf:f.size<=40000)(hM:MaxAt w):
 Calls Tryz.prog 49 #[.agg #[.string a,.string b,.string c,.string d,.string e,.string f]] w fun e' w'=>e' = .returned (.bool (validB (a.data.toList,b.data.toList,c.data.toList,d.data.toList,e.data.toList,f.data.toList)))/\Below w.heap.size w w':=by
 have cF:=fun w=>format_any a b c d e f w (by omega) (by omega) (by omega) (by omega) (by omega) (by omega)
 have hfl:=format_len a b c d e f
 obtain ⟨FL,hFL⟩:=Ka (formatL (a.data.toList,b.data.toList,c.data.toList,d.data.toList,e.data.toList,f.data.toList))
 have hv:=validB_is (a.data.toList,b.data.toList,c.data.toList,d.data.toList,e.data.toList,f.data.toList)
 rw [hFL] at cF hfl hv
 have cP:∀ t:ByteArray,t.data.toList=FL->∀ w,MaxAt w->Calls Tryz.prog 28 #[.string t] w fun e' w'=>e' = .returned (resV (parseL FL))/\Below w.heap.size w w':=fun t ht w hM=>by
  have:=parse_any t w (by have:=size_of ht;omega) hM
  rwa [ht] at this
 have hB0:Below w.heap.size w (w.alloc (.cells #[.string a,.string b,.string c,.string d,.string e,.string f] 37)):=(Kc w).alloc lr _
 cases hR:parseL FL with
 | none=>
   rw [hR] at hv cP
   rw [hv]
   have cP2:∀ t:ByteArray,t.data.toList=FL->∀ w,MaxAt w->Calls Tryz.prog 28 #[.string t] w fun e' w'=>e' = .returned (.tuple #[.agg #[.string ⟨#[]⟩,.string ⟨#[]⟩,.string ⟨#[]⟩,.string ⟨#[]⟩,.string ⟨#[]⟩,.string ⟨#[]⟩],.int .i64 4])/\Below w.heap.size w w':=cP
   have CF:=Kb cF
   have CP:=Kb cP2
   clear cF cP cP2 hR hv hFL
   exact N46
 | some v=>
   rw [hR] at hv cP
   obtain ⟨p1,p2,p3,p4,p5,p6⟩:=v
   have hv2:validB (a.data.toList,b.data.toList,c.data.toList,d.data.toList,e.data.toList,f.data.toList)=eqU (p1,p2,p3,p4,p5,p6) (a.data.toList,b.data.toList,c.data.toList,d.data.toList,e.data.toList,f.data.toList):=hv
   rw [hv2]
   obtain ⟨r1,h1⟩:∃ r:ByteArray,⟨p1.toArray⟩=r:=⟨_,rfl⟩
   obtain ⟨r2,h2⟩:∃ r:ByteArray,⟨p2.toArray⟩=r:=⟨_,rfl⟩
   obtain ⟨r3,h3⟩:∃ r:ByteArray,⟨p3.toArray⟩=r:=⟨_,rfl⟩
   obtain ⟨r4,h4⟩:∃ r:ByteArray,⟨p4.toArray⟩=r:=⟨_,rfl⟩
   obtain ⟨r5,h5⟩:∃ r:ByteArray,⟨p5.toArray⟩=r:=⟨_,rfl⟩
   obtain ⟨r6,h6⟩:∃ r:ByteArray,⟨p6.toArray⟩=r:=⟨_,rfl⟩
   have cP2:∀ t:ByteArray,t.data.toList=FL->∀ w,MaxAt w->Calls Tryz.prog 28 #[.string t] w fun e' w'=>e' = .returned (.tuple #[.agg #[.string r1,.string r2,.string r3,.string r4,.string r5,.string r6],.int .i64 0])/\Below w.heap.size w w':=by
    rw [<-h1,<-h2,<-h3,<-h4,<-h5,<-h6];exact cP
   have e1:eqU (p1,p2,p3,p4,p5,p6) (a.data.toList,b.data.toList,c.data.toList,d.data.toList,e.data.toList,f.data.toList)=((r1.toList == a.toList) && (r2.toList == b.toList) && (r3.toList == c.toList) && (r4.toList == d.toList) && (r5.toList == e.toList) && (r6.toList == f.toList)):=by
    rw [<-h1,<-h2,<-h3,<-h4,<-h5,<-h6]
    simp only [Kt,eqU]
   obtain ⟨B,hB⟩:=Ka (eqU (p1,p2,p3,p4,p5,p6) (a.data.toList,b.data.toList,c.data.toList,d.data.toList,e.data.toList,f.data.toList))
   rw [hB] at e1 ⊢
   have E1:=Kb e1
   have CF:=Kb cF
   have CP:=Kb cP2
   clear cF cP cP2 hR hv hv2 hFL e1 h1 h2 h3 h4 h5 h6 hB
   exact N46
def At6 (W:World)(k:Nat)(a b c d e f:Value):Prop:=
 k<W.heap.size/\W.cell? ⟨k,0,none⟩=some a/\W.cell? ⟨k,1,none⟩=some b/\W.cell? ⟨k,2,none⟩=some c/\W.cell? ⟨k,3,none⟩=some d/\W.cell? ⟨k,4,none⟩=some e/\W.cell? ⟨k,5,none⟩=some f
 /\ W.frozen? ⟨k,0,none⟩=false/\W.frozen? ⟨k,1,none⟩=false/\W.frozen? ⟨k,2,none⟩=false/\W.frozen? ⟨k,3,none⟩=false/\W.frozen? ⟨k,4,none⟩=false/\W.frozen? ⟨k,5,none⟩=false
theorem At6.below {W W':World}{k n:Nat}{a b c d e f:Value}(h:At6 W k a b c d e f)(hb:Below n W W')(hk:k<n):At6 W' k a b c d e f:=by obtain ⟨h0,c0,c1,c2,c3,c4,c5,f0,f1,f2,f3,f4,f5⟩:=h;have hc:∀ j,W'.cell? ⟨k,j,none⟩=W.cell? ⟨k,j,none⟩:=fun j=>hb.cell (p:=⟨k,j,none⟩) hk;have hf:∀ j,W'.frozen? ⟨k,j,none⟩=W.frozen? ⟨k,j,none⟩:=fun j=>hb.frozen (p:=⟨k,j,none⟩) hk;exact ⟨Ko h0 hb.size,(hc 0).trans c0,(hc 1).trans c1,(hc 2).trans c2,(hc 3).trans c3,(hc 4).trans c4,(hc 5).trans c5,(hf 0).trans f0,(hf 1).trans f1,(hf 2).trans f2,(hf 3).trans f3,(hf 4).trans f4,(hf 5).trans f5⟩
theorem At6.new (w:World)(a b c d e f:Value)(T:Nat):At6 (w.alloc (.cells #[a,b,c,d,e,f] T)) w.heap.size a b c d e f:=by
 have hc:∀ j v,[a,b,c,d,e,f][j]? = some v->(w.alloc (.cells #[a,b,c,d,e,f] T)).cell? ⟨w.heap.size,j,none⟩=some v:=fun j v hj=>by
  have:=cells_new w [a,b,c,d,e,f] T j v hj;have hadd:(⟨w.heap.size,0,none⟩:Addr).add j=⟨w.heap.size,j,none⟩:=by unfold Addr.add;split <;> simp_all
  rw [hadd] at this;exact this
 have hh:(w.alloc (.cells #[a,b,c,d,e,f] T)).heap[w.heap.size]? = some (.cells #[a,b,c,d,e,f] T):=by unfold World.alloc;simp
 have hf:∀ j,(w.alloc (.cells #[a,b,c,d,e,f] T)).frozen? ⟨w.heap.size,j,none⟩=false:=fun j=>by unfold World.frozen?;rw [hh];simp
 exact ⟨by simp,hc 0 _ rfl,hc 1 _ rfl,hc 2 _ rfl,hc 3 _ rfl,hc 4 _ rfl,hc 5 _ rfl,hf 0,hf 1,hf 2,hf 3,hf 4,hf 5⟩
theorem At6.blank {W:World}{k:Nat}{a b c d e f:Value}(h:At6 W k a b c d e f):Blank W k:=by
 obtain ⟨h0,c0,c1,c2,c3,c4,c5,-⟩:=h
 intro j hj
 match j,hj with
 | 0,_=>rw [c0];rfl
 | 1,_=>rw [c1];rfl
 | 2,_=>rw [c2];rfl
 | 3,_=>rw [c3];rfl
 | 4,_=>rw [c4];rfl
 | 5,_=>rw [c5];rfl
theorem At6.alloc {W:World}{k:Nat}{a b c d e f:Value}(h:At6 W k a b c d e f)(o:Obj):At6 (W.alloc o) k a b c d e f:=h.below ((Kc W).alloc lr o) h.1
def resB (o:Option U6):Value:=.tuple #[urlV (o.getD noneU),.bool o.isSome]
end Go.Proofs.YtjdhaacmlpegoaaGreatDoor
