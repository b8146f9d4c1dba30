/- Part 16 of what the proof needs: RC. -/
import Derived.Test.YtjdhaacmlpegoaaGreatDoorU15
set_option maxRecDepth 20000
set_option maxHeartbeats 16000000
set_option linter.unusedSimpArgs false
set_option linter.unusedVariables false
namespace Go.Proofs.YtjdhaacmlpegoaaGreatDoor
open Go.RowKit
theorem M18{p:Prop}(h:p:=by
 refine (Tryz.strings_HasPrefix T ⟨#[47,47]⟩ w).mono ?_
 rintro x w' ⟨rfl,hw⟩
 exact ⟨by rw [show Lib.hasPrefix T.data.toList (⟨#[47,47]⟩:ByteArray).data.toList=false from (hasPre2 T.data.toList).trans (Kj h6)],hw⟩
 ):p:=h
theorem resolve8 (a b c d e f s T:ByteArray)(w:World)(hM:MaxAt w)(h:Pre a b c d e f s T)(h1:schemeOk T.data.toList=false)(h2:validB (a.data.toList,b.data.toList,c.data.toList,d.data.toList,e.data.toList,f.data.toList)=true)(h3:0<T.size)(h4:T.data.toList.head? ≠ some 35)(h5:a.data.toList≠aboutL)(h6:¬ T.data.toList.take 2=[47,47])(h7:T.data.toList.head? ≠ some 47)(h8:T.data.toList.head? = some 63)(R:Option U6)(hR:(parseL (placeL (a.data.toList,b.data.toList,c.data.toList,d.data.toList,e.data.toList,f.data.toList) ++ d.data.toList ++ T.data.toList))=R):
 ResV a b c d e f s w R:=by
 have hTs:=h.size
 have CT:=Kb (fun w=>trim_is s T w (by have:=h.hs;omega) h.hT)
 have CS:=Kb (fun w hM=>scheme_is T false w (by omega) hM h1)
 have CV:=Kb (fun w hM=>valid_is a b c d e f w h.ha h.hb h.hc h.hd h.he h.hf hM true h2)
 obtain ⟨ha,hb,hc,hd,he,hf,hs,-⟩:=h
 have hTi:(0:Int)<(T.size:Int):=by omega
 have hE:=nonempty_of T h3
 have n35:((T[0].toNat:Int) == 35)=false:=by rw [first_eq T 35 h3 35 rfl];exact Kj h4
 have nab:(a.toList == [97,98,111,117,116])=false:=by rw [str_beq];exact Kj h5
 have CH:Hid (∀ w,Calls Tryz.prog 176 #[.string T,.string ⟨#[47,47]⟩] w fun x w'=>x = .returned (.bool false)/\w'=w):=Kb fun w=>by
  exact M18
 have n47:((T[0].toNat:Int) == 47)=false:=by rw [first_eq T 47 h3 47 rfl];exact Kj h7
 have n63:((T[0].toNat:Int) == 63)=true:=by rw [first_eq T 63 h3 63 rfl];exact Kx h8
 obtain ⟨PL,hPL⟩:=list_bytes (placeL (a.data.toList,b.data.toList,c.data.toList,d.data.toList,e.data.toList,f.data.toList))
 have hPs:=site_len a b c d e f
 rw [<-hPL,size_len] at hPs
 have CSi:=Kb (fun w=>site_is a b c d e f PL w (by omega) (by omega) (by omega) hPL)
 have hx:(PL ++ d ++ T).data.toList=placeL (a.data.toList,b.data.toList,c.data.toList,d.data.toList,e.data.toList,f.data.toList) ++ d.data.toList ++ T.data.toList:=by rw [app_list,app_list,hPL]
 obtain ⟨r1,r2,r3,r4,r5,r6,Y,e1,-,cP,-⟩:=parse_known (PL ++ d ++ T) (by rw [size_of hx,Kw,Kw,size_len,<-hPL,size_len];rw [size_len];omega)
 obtain ⟨EE,hEE⟩:∃ EE:Int,(if Y then 0 else 4)=EE:=⟨_,rfl⟩
 rw [hEE] at e1 cP
 rw [hx,hR] at e1
 have hres:=Kb e1
 have o1:¬ 9223372036854775807<PL.size+d.size:=by omega
 have o2:¬ 9223372036854775807<PL.size+d.size+T.size:=by omega
 have CP:=Kb cP
 clear e1 cP hPL hx hR hEE
 unfold ResV
 clear h1 h2 h4 h5 h6 h7 h8
 iterate 1
  go_enter Tryz.func189,Tryz.ntmps189
  go_wp2_with fail
  have A0:=At6.new w (.string a) (.string b) (.string c) (.string d) (.string e) (.string f) 37
  have hB0:Below w.heap.size w (w.alloc (.cells #[.string a,.string b,.string c,.string d,.string e,.string f] 37)):=(Kc w).alloc lr _
  have A1:=A0.alloc (.cells #[.string ⟨#[]⟩,.string ⟨#[]⟩,.string ⟨#[]⟩,.string ⟨#[]⟩,.string ⟨#[]⟩,.string ⟨#[]⟩] 37)
  have A2:=At6.new (w.alloc (.cells #[.string a,.string b,.string c,.string d,.string e,.string f] 37)) (.string ⟨#[]⟩) (.string ⟨#[]⟩) (.string ⟨#[]⟩) (.string ⟨#[]⟩) (.string ⟨#[]⟩) (.string ⟨#[]⟩) 37
  have hB1:=hB0.alloc hB0.size (.cells #[.string ⟨#[]⟩,.string ⟨#[]⟩,.string ⟨#[]⟩,.string ⟨#[]⟩,.string ⟨#[]⟩,.string ⟨#[]⟩] 37)
  have hM1:=hM.below hB1 lr
  rw [show (w.alloc (.cells #[.string a,.string b,.string c,.string d,.string e,.string f] 37)).heap.size=w.heap.size+1 by simp] at A2
  obtain ⟨wa,hwa⟩:∃ wa:World,(w.alloc (.cells #[.string a,.string b,.string c,.string d,.string e,.string f] 37)).alloc (.cells #[.string ⟨#[]⟩,.string ⟨#[]⟩,.string ⟨#[]⟩,.string ⟨#[]⟩,.string ⟨#[]⟩,.string ⟨#[]⟩] 37)=wa:=⟨_,rfl⟩
  obtain ⟨K,hK⟩:=Ka w.heap.size
  obtain ⟨M,hm⟩:=Ka (w.heap.size+1)
  have hKM:K<=M:=(by omega)
  have hne:¬ K=M:=(by omega)
  rw [hwa] at A1 A2 hB1 hM1
  rw [hm] at A2
  rw [hK] at A1 hB1
  rw [hwa,hm,hK]
  clear hwa hm A0 hB0
  have HK:=Kb hK
  have hBl:=A2.blank
  clear hK
  obtain ⟨hkl,a0,a1,a2,a3,a4,a5,f0,f1,f2,f3,f4,f5⟩:=A1
  obtain ⟨hml,m0,m1,m2,m3,m4,m5,g0,g1,g2,g3,g4,g5⟩:=A2
  have hKa:K<=wa.heap.size:=Kl hkl
  go_wp2_with (first
   | (with_reducible refine (CT.out _).mono ?_;rintro x w' ⟨rfl,rfl⟩)
   | (with_reducible refine (CS.out _ hM1).mono ?_;rintro x w1 ⟨p,q,rfl,hb1⟩;have hr1:=brule hb1;have hg1:=frule hb1;have hM2:=hM1.below hb1 lr)
   | (with_reducible refine (CV.out _ hM2).mono ?_;rintro x w2 ⟨rfl,hb2⟩;have hB2:=Kd hb1 hb2;have hr2:=brule hB2;have hg2:=frule hB2;have hM3:=hM1.below hB2 lr)
   | (with_reducible refine (CH.out _).mono ?_;rintro x w' ⟨rfl,rfl⟩)
   )
  go_region_with (first
   | (with_reducible refine (CSi.out _).mono ?_;rintro x w3 ⟨rfl,hb3'⟩;have hb3:=drew_below hb3';clear hb3';have hB3:=Kd hB2 hb3;have hr3:=brule hB3;have hg3:=frule hB3;have hM4:=hM1.below hB3 lr)
   | (with_reducible refine (CP.out _ hM4).mono ?_;rintro x w4 ⟨rfl,hb4⟩;have hB4:=Kd hB3 hb4;have hr4:=brule hB4;have hg4:=frule hB4)
   )
  all_goals
   go_wp2_with fail
   refine bodyPost_ret (url_at Tryz.results189 _ _ M (hBl.below hB4 hml) _ _ _ _ _ _ _ rfl rfl) rfl ⟨(Kq Ending.returned hres.out).symm,?_⟩
   rw [HK.out]
   exact below_set6 (hB1.trans (hB4.mono hKa)) hKM _ _ _ _ _ _
theorem resolve9 (a b c d e f s T:ByteArray)(w:World)(hM:MaxAt w)(h:Pre a b c d e f s T)(h1:schemeOk T.data.toList=false)(h2:validB (a.data.toList,b.data.toList,c.data.toList,d.data.toList,e.data.toList,f.data.toList)=true)(h3:0<T.size)(h4:T.data.toList.head? ≠ some 35)(h5:a.data.toList≠aboutL)(h6:¬ T.data.toList.take 2=[47,47])(h7:T.data.toList.head? ≠ some 47)(h8:T.data.toList.head? ≠ some 63)(R:Option U6)(hR:(parseL (placeL (a.data.toList,b.data.toList,c.data.toList,d.data.toList,e.data.toList,f.data.toList) ++ d.data.toList.take (dirN d.data.toList d.data.toList.length) ++ T.data.toList))=R):
 ResV a b c d e f s w R:=by
 have hTs:=h.size
 have CT:=Kb (fun w=>trim_is s T w (by have:=h.hs;omega) h.hT)
 have CS:=Kb (fun w hM=>scheme_is T false w (by omega) hM h1)
 have CV:=Kb (fun w hM=>valid_is a b c d e f w h.ha h.hb h.hc h.hd h.he h.hf hM true h2)
 obtain ⟨ha,hb,hc,hd,he,hf,hs,-⟩:=h
 have hTi:(0:Int)<(T.size:Int):=by omega
 have hE:=nonempty_of T h3
 have n35:((T[0].toNat:Int) == 35)=false:=by rw [first_eq T 35 h3 35 rfl];exact Kj h4
 have nab:(a.toList == [97,98,111,117,116])=false:=by rw [str_beq];exact Kj h5
 have CH:Hid (∀ w,Calls Tryz.prog 176 #[.string T,.string ⟨#[47,47]⟩] w fun x w'=>x = .returned (.bool false)/\w'=w):=Kb fun w=>by
  exact M18
 have n47:((T[0].toNat:Int) == 47)=false:=by rw [first_eq T 47 h3 47 rfl];exact Kj h7
 have n63:((T[0].toNat:Int) == 63)=false:=by rw [first_eq T 63 h3 63 rfl];exact Kj h8
 obtain ⟨PL,hPL⟩:=list_bytes (placeL (a.data.toList,b.data.toList,c.data.toList,d.data.toList,e.data.toList,f.data.toList))
 have hPs:=site_len a b c d e f
 rw [<-hPL,size_len] at hPs
 have CSi:=Kb (fun w=>site_is a b c d e f PL w (by omega) (by omega) (by omega) hPL)
 have hNd:dirN d.data.toList d.data.toList.length<=d.size:=by have:=dirN_le d.data.toList d.data.toList.length;rwa [size_len] at this
 have cL:∀ w,Calls Tryz.prog 236 #[.string d,.int .u8 47] w fun x w'=>x = .returned (.int .i64 ((dirN d.data.toList d.data.toList.length:Nat) - 1:Int))/\w'=w:=fun w=>by
  refine (Tryz.strings_LastIndexByte d 47 (by omega) w).mono ?_
  rintro x w' ⟨rfl,hw⟩
  refine ⟨?_,hw⟩
  have:=lastIdx_dir d d.size lr
  rw [size_len,show Lib.lastIndexByte d 47=Lib.lastIdx d 47 d.size from rfl,<-this,Int.add_sub_cancel]
 obtain ⟨N,hN⟩:=Ka (dirN d.data.toList d.data.toList.length)
 rw [hN] at hNd cL hR
 have CL:=Kb cL
 clear cL hN
 have hes:(d.extract 0 N).size=N:=by rw [<-size_len,ext_from,Jk,size_len];omega
 have hNi:(N:Int)<=(d.size:Int):=by omega
 have hN0:(0:Int)<=(N:Int):=by omega
 have s1:IntKind.i64.wrap ((N:Int) - 1+1)=(N:Int):=by rw [Int.sub_add_cancel];exact IntWalk.i64_in _ (by omega)
 have s2:IntKind.i64.wrap (N:Int)=(N:Int):=IntWalk.i64_in _ (by omega)
 have hx:(PL ++ d.extract 0 N ++ T).data.toList=placeL (a.data.toList,b.data.toList,c.data.toList,d.data.toList,e.data.toList,f.data.toList) ++ d.data.toList.take N ++ T.data.toList:=by rw [app_list,app_list,hPL,ext_from]
 obtain ⟨r1,r2,r3,r4,r5,r6,Y,e1,-,cP,-⟩:=parse_known (PL ++ d.extract 0 N ++ T) (by rw [size_of hx,Kw,Kw,size_len,<-hPL,size_len];rw [Jk,size_len];omega)
 obtain ⟨EE,hEE⟩:∃ EE:Int,(if Y then 0 else 4)=EE:=⟨_,rfl⟩
 rw [hEE] at e1 cP
 rw [hx,hR] at e1
 have hres:=Kb e1
 have o1:¬ 9223372036854775807<PL.size+N:=by omega
 have o2:¬ 9223372036854775807<PL.size+N+T.size:=by omega
 have CP:=Kb cP
 clear e1 cP hPL hx hR hEE
 unfold ResV
 clear h1 h2 h4 h5 h6 h7 h8
 iterate 1
  go_enter Tryz.func189,Tryz.ntmps189
  go_wp2_with fail
  have A0:=At6.new w (.string a) (.string b) (.string c) (.string d) (.string e) (.string f) 37
  have hB0:Below w.heap.size w (w.alloc (.cells #[.string a,.string b,.string c,.string d,.string e,.string f] 37)):=(Kc w).alloc lr _
  have A1:=A0.alloc (.cells #[.string ⟨#[]⟩,.string ⟨#[]⟩,.string ⟨#[]⟩,.string ⟨#[]⟩,.string ⟨#[]⟩,.string ⟨#[]⟩] 37)
  have A2:=At6.new (w.alloc (.cells #[.string a,.string b,.string c,.string d,.string e,.string f] 37)) (.string ⟨#[]⟩) (.string ⟨#[]⟩) (.string ⟨#[]⟩) (.string ⟨#[]⟩) (.string ⟨#[]⟩) (.string ⟨#[]⟩) 37
  have hB1:=hB0.alloc hB0.size (.cells #[.string ⟨#[]⟩,.string ⟨#[]⟩,.string ⟨#[]⟩,.string ⟨#[]⟩,.string ⟨#[]⟩,.string ⟨#[]⟩] 37)
  have hM1:=hM.below hB1 lr
  rw [show (w.alloc (.cells #[.string a,.string b,.string c,.string d,.string e,.string f] 37)).heap.size=w.heap.size+1 by simp] at A2
  obtain ⟨wa,hwa⟩:∃ wa:World,(w.alloc (.cells #[.string a,.string b,.string c,.string d,.string e,.string f] 37)).alloc (.cells #[.string ⟨#[]⟩,.string ⟨#[]⟩,.string ⟨#[]⟩,.string ⟨#[]⟩,.string ⟨#[]⟩,.string ⟨#[]⟩] 37)=wa:=⟨_,rfl⟩
  obtain ⟨K,hK⟩:=Ka w.heap.size
  obtain ⟨M,hm⟩:=Ka (w.heap.size+1)
  have hKM:K<=M:=(by omega)
  have hne:¬ K=M:=(by omega)
  rw [hwa] at A1 A2 hB1 hM1
  rw [hm] at A2
  rw [hK] at A1 hB1
  rw [hwa,hm,hK]
  clear hwa hm A0 hB0
  have HK:=Kb hK
  have hBl:=A2.blank
  clear hK
  obtain ⟨hkl,a0,a1,a2,a3,a4,a5,f0,f1,f2,f3,f4,f5⟩:=A1
  obtain ⟨hml,m0,m1,m2,m3,m4,m5,g0,g1,g2,g3,g4,g5⟩:=A2
  have hKa:K<=wa.heap.size:=Kl hkl
  go_wp2_with (first
   | (with_reducible refine (CT.out _).mono ?_;rintro x w' ⟨rfl,rfl⟩)
   | (with_reducible refine (CS.out _ hM1).mono ?_;rintro x w1 ⟨p,q,rfl,hb1⟩;have hr1:=brule hb1;have hg1:=frule hb1;have hM2:=hM1.below hb1 lr)
   | (with_reducible refine (CV.out _ hM2).mono ?_;rintro x w2 ⟨rfl,hb2⟩;have hB2:=Kd hb1 hb2;have hr2:=brule hB2;have hg2:=frule hB2;have hM3:=hM1.below hB2 lr)
   | (with_reducible refine (CH.out _).mono ?_;rintro x w' ⟨rfl,rfl⟩)
   )
  go_region_with (first
   | (with_reducible refine (CSi.out _).mono ?_;rintro x w3 ⟨rfl,hb3'⟩;have hb3:=drew_below hb3';clear hb3';have hB3:=Kd hB2 hb3;have hr3:=brule hB3;have hg3:=frule hB3;have hM4:=hM1.below hB3 lr)
   | (with_reducible refine (CP.out _ hM4).mono ?_;rintro x w4 ⟨rfl,hb4⟩;have hB4:=Kd hB3 hb4;have hr4:=brule hB4;have hg4:=frule hB4)
   | (with_reducible refine (CL.out _).mono ?_;rintro x w' ⟨rfl,rfl⟩)
   )
  all_goals
   go_wp2_with fail
   refine bodyPost_ret (url_at Tryz.results189 _ _ M (hBl.below hB4 hml) _ _ _ _ _ _ _ rfl rfl) rfl ⟨(Kq Ending.returned hres.out).symm,?_⟩
   rw [HK.out]
   exact below_set6 (hB1.trans (hB4.mono hKa)) hKM _ _ _ _ _ _
end Go.Proofs.YtjdhaacmlpegoaaGreatDoor
