/- Part 7 of what the proof needs: RB. -/
import Derived.Test.YtjdhaacmlpegoaaGreatDoorP06
import Derived.Test.YtjdhaacmlpegoaaGreatDoorP01
set_option maxRecDepth 20000
set_option maxHeartbeats 16000000
namespace Go.Proofs.YtjdhaacmlpegoaaGreatDoor
open Go.RowKit
set_option linter.unusedSimpArgs false
set_option linter.unusedVariables false
theorem hasPre2 (l:List UInt8):Lib.hasPrefix l [47,47]=decide (l.take 2=[47,47]):=by
 unfold Lib.hasPrefix
 match l with
 | []=>rfl
 | [a]=>simp [List.isPrefixOf]
 | a :: b :: r=>
   simp only [List.isPrefixOf,Bool.and_true,List.take_succ_cons,List.take_zero,List.cons.injEq,and_true]
   by_cases h1:(47:UInt8)=a
   ·by_cases h2:(47:UInt8)=b
    ·subst h1;subst h2;simp
    ·subst h1;simp [h2,Ne.symm h2]
   ·simp [h1,Ne.symm h1]
theorem first_eq (T:ByteArray)(x:UInt8)(h:0<T.size)(y:Int)(hy:(x.toNat:Int)=y):((T[0].toNat:Int) == y)=decide (T.data.toList.head? = some x):=by
 have e:T.data.toList.head? = some T[0]:=by
  have:=drop_at T 0 h
  rw [List.drop_zero] at this
  rw [this];rfl
 rw [e]
 subst hy
 by_cases hx:T[0]=x
 ·rw [hx];simp
 ·rw [decide_eq_false (fun h=>hx (Option.some.inj h))]
  rw [beq_eq_false_iff_ne]
  exact fun h=>hx (UInt8.toNat_inj.1 (by omega))
theorem resolve3 (a b c d e f s T:ByteArray)(w:World)(hM:MaxAt w)(h:Pre a b c d e f s T)(h1:schemeOk T.data.toList=false)(h2:validB (a.data.toList,b.data.toList,c.data.toList,d.data.toList,e.data.toList,f.data.toList)=true)(h3:T.size=0)(R:Option U6)(hR:(some (a.data.toList,b.data.toList,c.data.toList,d.data.toList,e.data.toList,[]))=R):
 ResV a b c d e f s w R:=by
 have hTs:=h.size
 have CT:=Lib.hid (fun w=>trim_is s T w (by have:=h.hs;omega) h.hT)
 have CS:=Lib.hid (fun w hM=>scheme_is T false w (by omega) hM h1)
 have CV:=Lib.hid (fun w hM=>valid_is a b c d e f w h.ha h.hb h.hc h.hd h.he h.hf hM true h2)
 obtain ⟨ha,hb,hc,hd,he,hf,hs,-⟩:=h
 have hE:=empty_of T h3
 have CW:=Lib.hid (fun w=>without_any a b c d e f w)
 have hres:resV R = .tuple #[.agg #[.string a,.string b,.string c,.string d,.string e,.string ⟨#[]⟩],.int .i64 0]:=by rw [<-hR];rfl
 unfold ResV
 replace hres:=Lib.hid hres
 clear h1 h2 h3 hR
 go_enter Tryz.func189,Tryz.ntmps189
 go_wp2_with fail
 have A0:=At6.new w (.string a) (.string b) (.string c) (.string d) (.string e) (.string f) 37
 have hB0:Below w.heap.size w (w.alloc (.cells #[.string a,.string b,.string c,.string d,.string e,.string f] 37)):=(Below.refl _ w).alloc lr _
 have A1:=A0.alloc (.cells #[.string ⟨#[]⟩,.string ⟨#[]⟩,.string ⟨#[]⟩,.string ⟨#[]⟩,.string ⟨#[]⟩,.string ⟨#[]⟩] 37)
 have A2:=At6.new (w.alloc (.cells #[.string a,.string b,.string c,.string d,.string e,.string f] 37)) (.string ⟨#[]⟩) (.string ⟨#[]⟩) (.string ⟨#[]⟩) (.string ⟨#[]⟩) (.string ⟨#[]⟩) (.string ⟨#[]⟩) 37
 have hB1:=hB0.alloc hB0.size (.cells #[.string ⟨#[]⟩,.string ⟨#[]⟩,.string ⟨#[]⟩,.string ⟨#[]⟩,.string ⟨#[]⟩,.string ⟨#[]⟩] 37)
 have hM1:=hM.below hB1 lr
 rw [show (w.alloc (.cells #[.string a,.string b,.string c,.string d,.string e,.string f] 37)).heap.size=w.heap.size+1 by simp] at A2
 obtain ⟨wa,hwa⟩:∃ wa:World,(w.alloc (.cells #[.string a,.string b,.string c,.string d,.string e,.string f] 37)).alloc (.cells #[.string ⟨#[]⟩,.string ⟨#[]⟩,.string ⟨#[]⟩,.string ⟨#[]⟩,.string ⟨#[]⟩,.string ⟨#[]⟩] 37)=wa:=⟨_,rfl⟩
 obtain ⟨K,hK⟩:∃ K,w.heap.size=K:=⟨_,rfl⟩
 obtain ⟨M,hm⟩:∃ M,w.heap.size+1=M:=⟨_,rfl⟩
 have hKM:K<=M:=(by omega)
 have hne:¬ K=M:=(by omega)
 rw [hwa] at A1 A2 hB1 hM1
 rw [hm] at A2
 rw [hK] at A1 hB1
 rw [hwa,hm,hK]
 clear hwa hm A0 hB0
 have HK:=Lib.hid hK
 have hBl:=A2.blank
 clear hK
 obtain ⟨hkl,a0,a1,a2,a3,a4,a5,f0,f1,f2,f3,f4,f5⟩:=A1
 obtain ⟨hml,m0,m1,m2,m3,m4,m5,g0,g1,g2,g3,g4,g5⟩:=A2
 have hKa:K<=wa.heap.size:=Nat.le_of_lt hkl
 go_wp2_with (first
  | (go_at_call 59;with_reducible refine (CT.out _).mono ?_;rintro x w' ⟨rfl,rfl⟩)
  | (go_at_call 58;with_reducible refine (CS.out _ hM1).mono ?_;rintro x w1 ⟨p,q,rfl,hb1⟩;have hr1:=brule hb1;have hg1:=frule hb1;have hM2:=hM1.below hb1 lr)
  | (go_at_call 49;with_reducible refine (CV.out _ hM2).mono ?_;rintro x w2 ⟨rfl,hb2⟩;have hB2:=hb1.trans (hb2.mono hb1.size);have hr2:=brule hB2;have hg2:=frule hB2;have hM3:=hM1.below hB2 lr)
  | (go_at_call 124;with_reducible refine (CW.out _).mono ?_;rintro x w3 ⟨rfl,hb3⟩;have hB3:=hB2.trans (hb3.mono hB2.size);have hr3:=brule hB3;have hg3:=frule hB3)
  )
 refine bodyPost_ret (v:=.tuple #[.agg #[.string a,.string b,.string c,.string d,.string e,.string ⟨#[]⟩],.int .i64 0]) (url_at Tryz.results189 _ _ M (hBl.below hB3 hml) _ _ _ _ _ _ _ rfl rfl) rfl ⟨(congrArg Ending.returned hres.out).symm,?_⟩
 rw [HK.out]
 exact below_set6 (hB1.trans (hB3.mono hKa)) hKM _ _ _ _ _ _
theorem resolve4 (a b c d e f s T:ByteArray)(w:World)(hM:MaxAt w)(h:Pre a b c d e f s T)(h1:schemeOk T.data.toList=false)(h2:validB (a.data.toList,b.data.toList,c.data.toList,d.data.toList,e.data.toList,f.data.toList)=true)(h3:0<T.size)(h4:T.data.toList.head? = some 35)(R:Option U6)(hR:(some (a.data.toList,b.data.toList,c.data.toList,d.data.toList,e.data.toList,conv (innerL ++ [63]) true T.data.toList.tail))=R):
 ResV a b c d e f s w R:=by
 have hTs:=h.size
 have CT:=Lib.hid (fun w=>trim_is s T w (by have:=h.hs;omega) h.hT)
 have CS:=Lib.hid (fun w hM=>scheme_is T false w (by omega) hM h1)
 have CV:=Lib.hid (fun w hM=>valid_is a b c d e f w h.ha h.hb h.hc h.hd h.he h.hf hM true h2)
 obtain ⟨ha,hb,hc,hd,he,hf,hs,-⟩:=h
 have hTi:(0:Int)<(T.size:Int):=by omega
 have hE:=nonempty_of T h3
 have n35:((T[0].toNat:Int) == 35)=true:=by rw [first_eq T 35 h3 35 rfl];exact decide_eq_true h4
 obtain ⟨F,hF⟩:=list_bytes (conv (innerL ++ [63]) true T.data.toList.tail)
 have hres:resV R = .tuple #[.agg #[.string a,.string b,.string c,.string d,.string e,.string F],.int .i64 0]:=by rw [<-hR,<-hF];rfl
 have CC:Hid (∀ w,Calls Tryz.prog 61 #[.string (T.extract 1 T.size),.string innerQ,.bool true] w fun x w'=>x = .returned (.string F)/\Below w.heap.size w w'):=Lib.hid fun w=>by
  refine (convert_any (T.extract 1 T.size) innerQ true w (by simp;omega)).mono ?_
  rintro x w' ⟨u,rfl,hu,hb⟩
  have hx:u=F:=byteArray_ext (hu.trans (by rw [hF,ext_to,<-List.drop_one];rfl))
  exact ⟨by rw [hx],hb⟩
 unfold ResV
 replace hres:=Lib.hid hres
 clear h1 h2 h4 hF hR
 go_enter Tryz.func189,Tryz.ntmps189
 go_wp2_with fail
 have A0:=At6.new w (.string a) (.string b) (.string c) (.string d) (.string e) (.string f) 37
 have hB0:Below w.heap.size w (w.alloc (.cells #[.string a,.string b,.string c,.string d,.string e,.string f] 37)):=(Below.refl _ w).alloc lr _
 have A1:=A0.alloc (.cells #[.string ⟨#[]⟩,.string ⟨#[]⟩,.string ⟨#[]⟩,.string ⟨#[]⟩,.string ⟨#[]⟩,.string ⟨#[]⟩] 37)
 have A2:=At6.new (w.alloc (.cells #[.string a,.string b,.string c,.string d,.string e,.string f] 37)) (.string ⟨#[]⟩) (.string ⟨#[]⟩) (.string ⟨#[]⟩) (.string ⟨#[]⟩) (.string ⟨#[]⟩) (.string ⟨#[]⟩) 37
 have hB1:=hB0.alloc hB0.size (.cells #[.string ⟨#[]⟩,.string ⟨#[]⟩,.string ⟨#[]⟩,.string ⟨#[]⟩,.string ⟨#[]⟩,.string ⟨#[]⟩] 37)
 have hM1:=hM.below hB1 lr
 rw [show (w.alloc (.cells #[.string a,.string b,.string c,.string d,.string e,.string f] 37)).heap.size=w.heap.size+1 by simp] at A2
 obtain ⟨wa,hwa⟩:∃ wa:World,(w.alloc (.cells #[.string a,.string b,.string c,.string d,.string e,.string f] 37)).alloc (.cells #[.string ⟨#[]⟩,.string ⟨#[]⟩,.string ⟨#[]⟩,.string ⟨#[]⟩,.string ⟨#[]⟩,.string ⟨#[]⟩] 37)=wa:=⟨_,rfl⟩
 obtain ⟨K,hK⟩:∃ K,w.heap.size=K:=⟨_,rfl⟩
 obtain ⟨M,hm⟩:∃ M,w.heap.size+1=M:=⟨_,rfl⟩
 have hKM:K<=M:=(by omega)
 have hne:¬ K=M:=(by omega)
 rw [hwa] at A1 A2 hB1 hM1
 rw [hm] at A2
 rw [hK] at A1 hB1
 rw [hwa,hm,hK]
 clear hwa hm A0 hB0
 have HK:=Lib.hid hK
 have hBl:=A2.blank
 clear hK
 obtain ⟨hkl,a0,a1,a2,a3,a4,a5,f0,f1,f2,f3,f4,f5⟩:=A1
 obtain ⟨hml,m0,m1,m2,m3,m4,m5,g0,g1,g2,g3,g4,g5⟩:=A2
 have hKa:K<=wa.heap.size:=Nat.le_of_lt hkl
 go_wp2_with (first
  | (go_at_call 59;with_reducible refine (CT.out _).mono ?_;rintro x w' ⟨rfl,rfl⟩)
  | (go_at_call 58;with_reducible refine (CS.out _ hM1).mono ?_;rintro x w1 ⟨p,q,rfl,hb1⟩;have hr1:=brule hb1;have hg1:=frule hb1;have hM2:=hM1.below hb1 lr)
  | (go_at_call 49;with_reducible refine (CV.out _ hM2).mono ?_;rintro x w2 ⟨rfl,hb2⟩;have hB2:=hb1.trans (hb2.mono hb1.size);have hr2:=brule hB2;have hg2:=frule hB2;have hM3:=hM1.below hB2 lr)
  | (go_at_call 61;with_reducible refine (CC.out _).mono ?_;rintro x w3 ⟨rfl,hb3⟩;have hB3:=hB2.trans (hb3.mono hB2.size);have hr3:=brule hB3;have hg3:=frule hB3)
  )
 refine bodyPost_ret (v:=.tuple #[.agg #[.string a,.string b,.string c,.string d,.string e,.string F],.int .i64 0]) (url_at Tryz.results189 _ _ M ((hBl.below hB3 hml).set _ _) _ _ _ _ _ _ _ rfl rfl) rfl ⟨(congrArg Ending.returned hres.out).symm,?_⟩
 rw [HK.out]
 exact below_set6 ((hB1.trans (hB3.mono hKa)).setCell lr _) hKM _ _ _ _ _ _
theorem resolve5 (a b c d e f s T:ByteArray)(w:World)(hM:MaxAt w)(h:Pre a b c d e f s T)(h1:schemeOk T.data.toList=false)(h2:validB (a.data.toList,b.data.toList,c.data.toList,d.data.toList,e.data.toList,f.data.toList)=true)(h3:0<T.size)(h4:T.data.toList.head? ≠ some 35)(h5:a.data.toList=aboutL)(R:Option U6)(hR:none=R):
 ResV a b c d e f s w R:=by
 have hTs:=h.size
 have CT:=Lib.hid (fun w=>trim_is s T w (by have:=h.hs;omega) h.hT)
 have CS:=Lib.hid (fun w hM=>scheme_is T false w (by omega) hM h1)
 have CV:=Lib.hid (fun w hM=>valid_is a b c d e f w h.ha h.hb h.hc h.hd h.he h.hf hM true h2)
 obtain ⟨ha,hb,hc,hd,he,hf,hs,-⟩:=h
 have hTi:(0:Int)<(T.size:Int):=by omega
 have hE:=nonempty_of T h3
 have n35:((T[0].toNat:Int) == 35)=false:=by rw [first_eq T 35 h3 35 rfl];exact decide_eq_false h4
 have nab:(a.toList == [97,98,111,117,116])=true:=by rw [str_beq];exact decide_eq_true h5
 unfold ResV
 have hres:resV R = .tuple #[.agg #[.string ⟨#[]⟩,.string ⟨#[]⟩,.string ⟨#[]⟩,.string ⟨#[]⟩,.string ⟨#[]⟩,.string ⟨#[]⟩],.int .i64 4]:=by rw [<-hR];rfl
 replace hres:=Lib.hid hres
 clear h1 h2 h4 h5 hR
 go_enter Tryz.func189,Tryz.ntmps189
 go_wp2_with fail
 have A0:=At6.new w (.string a) (.string b) (.string c) (.string d) (.string e) (.string f) 37
 have hB0:Below w.heap.size w (w.alloc (.cells #[.string a,.string b,.string c,.string d,.string e,.string f] 37)):=(Below.refl _ w).alloc lr _
 have A1:=A0.alloc (.cells #[.string ⟨#[]⟩,.string ⟨#[]⟩,.string ⟨#[]⟩,.string ⟨#[]⟩,.string ⟨#[]⟩,.string ⟨#[]⟩] 37)
 have A2:=At6.new (w.alloc (.cells #[.string a,.string b,.string c,.string d,.string e,.string f] 37)) (.string ⟨#[]⟩) (.string ⟨#[]⟩) (.string ⟨#[]⟩) (.string ⟨#[]⟩) (.string ⟨#[]⟩) (.string ⟨#[]⟩) 37
 have hB1:=hB0.alloc hB0.size (.cells #[.string ⟨#[]⟩,.string ⟨#[]⟩,.string ⟨#[]⟩,.string ⟨#[]⟩,.string ⟨#[]⟩,.string ⟨#[]⟩] 37)
 have hM1:=hM.below hB1 lr
 rw [show (w.alloc (.cells #[.string a,.string b,.string c,.string d,.string e,.string f] 37)).heap.size=w.heap.size+1 by simp] at A2
 obtain ⟨wa,hwa⟩:∃ wa:World,(w.alloc (.cells #[.string a,.string b,.string c,.string d,.string e,.string f] 37)).alloc (.cells #[.string ⟨#[]⟩,.string ⟨#[]⟩,.string ⟨#[]⟩,.string ⟨#[]⟩,.string ⟨#[]⟩,.string ⟨#[]⟩] 37)=wa:=⟨_,rfl⟩
 obtain ⟨K,hK⟩:∃ K,w.heap.size=K:=⟨_,rfl⟩
 obtain ⟨M,hm⟩:∃ M,w.heap.size+1=M:=⟨_,rfl⟩
 have hKM:K<=M:=(by omega)
 have hne:¬ K=M:=(by omega)
 rw [hwa] at A1 A2 hB1 hM1
 rw [hm] at A2
 rw [hK] at A1 hB1
 rw [hwa,hm,hK]
 clear hwa hm A0 hB0
 have HK:=Lib.hid hK
 have hBl:=A2.blank
 clear hK
 obtain ⟨hkl,a0,a1,a2,a3,a4,a5,f0,f1,f2,f3,f4,f5⟩:=A1
 obtain ⟨hml,m0,m1,m2,m3,m4,m5,g0,g1,g2,g3,g4,g5⟩:=A2
 have hKa:K<=wa.heap.size:=Nat.le_of_lt hkl
 go_wp2_with (first
  | (go_at_call 59;with_reducible refine (CT.out _).mono ?_;rintro x w' ⟨rfl,rfl⟩)
  | (go_at_call 58;with_reducible refine (CS.out _ hM1).mono ?_;rintro x w1 ⟨p,q,rfl,hb1⟩;have hr1:=brule hb1;have hg1:=frule hb1;have hM2:=hM1.below hb1 lr)
  | (go_at_call 49;with_reducible refine (CV.out _ hM2).mono ?_;rintro x w2 ⟨rfl,hb2⟩;have hB2:=hb1.trans (hb2.mono hb1.size);have hr2:=brule hB2;have hg2:=frule hB2;have hM3:=hM1.below hB2 lr)
  )
 refine bodyPost_ret (url_at Tryz.results189 _ _ M (hBl.below hB2 hml) _ _ _ _ _ _ _ rfl rfl) rfl ⟨(congrArg Ending.returned hres.out).symm,?_⟩
 rw [HK.out]
 exact below_set6 (hB1.trans (hB2.mono hKa)) hKM _ _ _ _ _ _
theorem resolve6 (a b c d e f s T:ByteArray)(w:World)(hM:MaxAt w)(h:Pre a b c d e f s T)(h1:schemeOk T.data.toList=false)(h2:validB (a.data.toList,b.data.toList,c.data.toList,d.data.toList,e.data.toList,f.data.toList)=true)(h3:0<T.size)(h4:T.data.toList.head? ≠ some 35)(h5:a.data.toList≠aboutL)(h6:T.data.toList.take 2=[47,47])(R:Option U6)(hR:(parseL (a.data.toList ++ 58 :: T.data.toList))=R):
 ResV a b c d e f s w R:=by
 have hTs:=h.size
 have CT:=Lib.hid (fun w=>trim_is s T w (by have:=h.hs;omega) h.hT)
 have CS:=Lib.hid (fun w hM=>scheme_is T false w (by omega) hM h1)
 have CV:=Lib.hid (fun w hM=>valid_is a b c d e f w h.ha h.hb h.hc h.hd h.he h.hf hM true h2)
 obtain ⟨ha,hb,hc,hd,he,hf,hs,-⟩:=h
 have hTi:(0:Int)<(T.size:Int):=by omega
 have hE:=nonempty_of T h3
 have n35:((T[0].toNat:Int) == 35)=false:=by rw [first_eq T 35 h3 35 rfl];exact decide_eq_false h4
 have nab:(a.toList == [97,98,111,117,116])=false:=by rw [str_beq];exact decide_eq_false h5
 have CH:Hid (∀ w,Calls Tryz.prog 176 #[.string T,.string ⟨#[47,47]⟩] w fun x w'=>x = .returned (.bool true)/\w'=w):=Lib.hid fun w=>by
  refine (Tryz.strings_HasPrefix T ⟨#[47,47]⟩ w).mono ?_
  rintro x w' ⟨rfl,hw⟩
  exact ⟨by rw [show Lib.hasPrefix T.data.toList (⟨#[47,47]⟩:ByteArray).data.toList=true from (hasPre2 T.data.toList).trans (decide_eq_true h6)],hw⟩
 have hx:(a ++ ⟨#[58]⟩ ++ T).data.toList=a.data.toList ++ 58 :: T.data.toList:=by rw [app_list,app_list,List.append_assoc];rfl
 obtain ⟨r1,r2,r3,r4,r5,r6,Y,e1,-,cP,-⟩:=parse_known (a ++ ⟨#[58]⟩ ++ T) (by rw [size_of hx,List.length_append,List.length_cons,size_len,size_len];omega)
 rw [hx,hR] at e1
 have hres:=Lib.hid e1
 have CP:=Lib.hid cP
 clear e1 cP hx hR
 unfold ResV
 clear h1 h2 h4 h5 h6
 cases Y
 all_goals
  go_enter Tryz.func189,Tryz.ntmps189
  go_wp2_with fail
  have A0:=At6.new w (.string a) (.string b) (.string c) (.string d) (.string e) (.string f) 37
  have hB0:Below w.heap.size w (w.alloc (.cells #[.string a,.string b,.string c,.string d,.string e,.string f] 37)):=(Below.refl _ w).alloc lr _
  have A1:=A0.alloc (.cells #[.string ⟨#[]⟩,.string ⟨#[]⟩,.string ⟨#[]⟩,.string ⟨#[]⟩,.string ⟨#[]⟩,.string ⟨#[]⟩] 37)
  have A2:=At6.new (w.alloc (.cells #[.string a,.string b,.string c,.string d,.string e,.string f] 37)) (.string ⟨#[]⟩) (.string ⟨#[]⟩) (.string ⟨#[]⟩) (.string ⟨#[]⟩) (.string ⟨#[]⟩) (.string ⟨#[]⟩) 37
  have hB1:=hB0.alloc hB0.size (.cells #[.string ⟨#[]⟩,.string ⟨#[]⟩,.string ⟨#[]⟩,.string ⟨#[]⟩,.string ⟨#[]⟩,.string ⟨#[]⟩] 37)
  have hM1:=hM.below hB1 lr
  rw [show (w.alloc (.cells #[.string a,.string b,.string c,.string d,.string e,.string f] 37)).heap.size=w.heap.size+1 by simp] at A2
  obtain ⟨wa,hwa⟩:∃ wa:World,(w.alloc (.cells #[.string a,.string b,.string c,.string d,.string e,.string f] 37)).alloc (.cells #[.string ⟨#[]⟩,.string ⟨#[]⟩,.string ⟨#[]⟩,.string ⟨#[]⟩,.string ⟨#[]⟩,.string ⟨#[]⟩] 37)=wa:=⟨_,rfl⟩
  obtain ⟨K,hK⟩:∃ K,w.heap.size=K:=⟨_,rfl⟩
  obtain ⟨M,hm⟩:∃ M,w.heap.size+1=M:=⟨_,rfl⟩
  have hKM:K<=M:=(by omega)
  have hne:¬ K=M:=(by omega)
  rw [hwa] at A1 A2 hB1 hM1
  rw [hm] at A2
  rw [hK] at A1 hB1
  rw [hwa,hm,hK]
  clear hwa hm A0 hB0
  have HK:=Lib.hid hK
  have hBl:=A2.blank
  clear hK
  obtain ⟨hkl,a0,a1,a2,a3,a4,a5,f0,f1,f2,f3,f4,f5⟩:=A1
  obtain ⟨hml,m0,m1,m2,m3,m4,m5,g0,g1,g2,g3,g4,g5⟩:=A2
  have hKa:K<=wa.heap.size:=Nat.le_of_lt hkl
  go_wp2_with (first
   | (go_at_call 59;with_reducible refine (CT.out _).mono ?_;rintro x w' ⟨rfl,rfl⟩)
   | (go_at_call 58;with_reducible refine (CS.out _ hM1).mono ?_;rintro x w1 ⟨p,q,rfl,hb1⟩;have hr1:=brule hb1;have hg1:=frule hb1;have hM2:=hM1.below hb1 lr)
   | (go_at_call 49;with_reducible refine (CV.out _ hM2).mono ?_;rintro x w2 ⟨rfl,hb2⟩;have hB2:=hb1.trans (hb2.mono hb1.size);have hr2:=brule hB2;have hg2:=frule hB2;have hM3:=hM1.below hB2 lr)
   | (go_at_call 176;with_reducible refine (CH.out _).mono ?_;rintro x w' ⟨rfl,rfl⟩)
   | (go_at_call 28;with_reducible refine (CP.out _ hM3).mono ?_;rintro x w3 ⟨rfl,hb3⟩;have hB3:=hB2.trans (hb3.mono hB2.size);have hr3:=brule hB3;have hg3:=frule hB3)
   )
  refine bodyPost_ret (url_at Tryz.results189 _ _ M (hBl.below hB3 hml) _ _ _ _ _ _ _ rfl rfl) rfl ⟨(congrArg Ending.returned hres.out).symm,?_⟩
  rw [HK.out]
  exact below_set6 (hB1.trans (hB3.mono hKa)) hKM _ _ _ _ _ _
theorem resolve7 (a b c d e f s T:ByteArray)(w:World)(hM:MaxAt w)(h:Pre a b c d e f s T)(h1:schemeOk T.data.toList=false)(h2:validB (a.data.toList,b.data.toList,c.data.toList,d.data.toList,e.data.toList,f.data.toList)=true)(h3:0<T.size)(h4:T.data.toList.head? ≠ some 35)(h5:a.data.toList≠aboutL)(h6:¬ T.data.toList.take 2=[47,47])(h7:T.data.toList.head? = some 47)(R:Option U6)(hR:(parseL (placeL (a.data.toList,b.data.toList,c.data.toList,d.data.toList,e.data.toList,f.data.toList) ++ T.data.toList))=R):
 ResV a b c d e f s w R:=by
 have hTs:=h.size
 have CT:=Lib.hid (fun w=>trim_is s T w (by have:=h.hs;omega) h.hT)
 have CS:=Lib.hid (fun w hM=>scheme_is T false w (by omega) hM h1)
 have CV:=Lib.hid (fun w hM=>valid_is a b c d e f w h.ha h.hb h.hc h.hd h.he h.hf hM true h2)
 obtain ⟨ha,hb,hc,hd,he,hf,hs,-⟩:=h
 have hTi:(0:Int)<(T.size:Int):=by omega
 have hE:=nonempty_of T h3
 have n35:((T[0].toNat:Int) == 35)=false:=by rw [first_eq T 35 h3 35 rfl];exact decide_eq_false h4
 have nab:(a.toList == [97,98,111,117,116])=false:=by rw [str_beq];exact decide_eq_false h5
 have CH:Hid (∀ w,Calls Tryz.prog 176 #[.string T,.string ⟨#[47,47]⟩] w fun x w'=>x = .returned (.bool false)/\w'=w):=Lib.hid fun w=>by
  refine (Tryz.strings_HasPrefix T ⟨#[47,47]⟩ w).mono ?_
  rintro x w' ⟨rfl,hw⟩
  exact ⟨by rw [show Lib.hasPrefix T.data.toList (⟨#[47,47]⟩:ByteArray).data.toList=false from (hasPre2 T.data.toList).trans (decide_eq_false h6)],hw⟩
 have n47:((T[0].toNat:Int) == 47)=true:=by rw [first_eq T 47 h3 47 rfl];exact decide_eq_true h7
 obtain ⟨PL,hPL⟩:=list_bytes (placeL (a.data.toList,b.data.toList,c.data.toList,d.data.toList,e.data.toList,f.data.toList))
 have hPs:=site_len a b c d e f
 rw [<-hPL,size_len] at hPs
 have CSi:=Lib.hid (fun w=>site_is a b c d e f PL w (by omega) (by omega) (by omega) hPL)
 have hx:(PL ++ T).data.toList=placeL (a.data.toList,b.data.toList,c.data.toList,d.data.toList,e.data.toList,f.data.toList) ++ T.data.toList:=by rw [app_list,hPL]
 obtain ⟨r1,r2,r3,r4,r5,r6,Y,e1,-,cP,-⟩:=parse_known (PL ++ T) (by simp;omega)
 rw [hx,hR] at e1
 have hres:=Lib.hid e1
 have CP:=Lib.hid cP
 clear e1 cP hPL hx hR
 unfold ResV
 clear h1 h2 h4 h5 h6 h7
 cases Y
 all_goals
  go_enter Tryz.func189,Tryz.ntmps189
  go_wp2_with fail
  have A0:=At6.new w (.string a) (.string b) (.string c) (.string d) (.string e) (.string f) 37
  have hB0:Below w.heap.size w (w.alloc (.cells #[.string a,.string b,.string c,.string d,.string e,.string f] 37)):=(Below.refl _ w).alloc lr _
  have A1:=A0.alloc (.cells #[.string ⟨#[]⟩,.string ⟨#[]⟩,.string ⟨#[]⟩,.string ⟨#[]⟩,.string ⟨#[]⟩,.string ⟨#[]⟩] 37)
  have A2:=At6.new (w.alloc (.cells #[.string a,.string b,.string c,.string d,.string e,.string f] 37)) (.string ⟨#[]⟩) (.string ⟨#[]⟩) (.string ⟨#[]⟩) (.string ⟨#[]⟩) (.string ⟨#[]⟩) (.string ⟨#[]⟩) 37
  have hB1:=hB0.alloc hB0.size (.cells #[.string ⟨#[]⟩,.string ⟨#[]⟩,.string ⟨#[]⟩,.string ⟨#[]⟩,.string ⟨#[]⟩,.string ⟨#[]⟩] 37)
  have hM1:=hM.below hB1 lr
  rw [show (w.alloc (.cells #[.string a,.string b,.string c,.string d,.string e,.string f] 37)).heap.size=w.heap.size+1 by simp] at A2
  obtain ⟨wa,hwa⟩:∃ wa:World,(w.alloc (.cells #[.string a,.string b,.string c,.string d,.string e,.string f] 37)).alloc (.cells #[.string ⟨#[]⟩,.string ⟨#[]⟩,.string ⟨#[]⟩,.string ⟨#[]⟩,.string ⟨#[]⟩,.string ⟨#[]⟩] 37)=wa:=⟨_,rfl⟩
  obtain ⟨K,hK⟩:∃ K,w.heap.size=K:=⟨_,rfl⟩
  obtain ⟨M,hm⟩:∃ M,w.heap.size+1=M:=⟨_,rfl⟩
  have hKM:K<=M:=(by omega)
  have hne:¬ K=M:=(by omega)
  rw [hwa] at A1 A2 hB1 hM1
  rw [hm] at A2
  rw [hK] at A1 hB1
  rw [hwa,hm,hK]
  clear hwa hm A0 hB0
  have HK:=Lib.hid hK
  have hBl:=A2.blank
  clear hK
  obtain ⟨hkl,a0,a1,a2,a3,a4,a5,f0,f1,f2,f3,f4,f5⟩:=A1
  obtain ⟨hml,m0,m1,m2,m3,m4,m5,g0,g1,g2,g3,g4,g5⟩:=A2
  have hKa:K<=wa.heap.size:=Nat.le_of_lt hkl
  go_wp2_with (first
   | (go_at_call 59;with_reducible refine (CT.out _).mono ?_;rintro x w' ⟨rfl,rfl⟩)
   | (go_at_call 58;with_reducible refine (CS.out _ hM1).mono ?_;rintro x w1 ⟨p,q,rfl,hb1⟩;have hr1:=brule hb1;have hg1:=frule hb1;have hM2:=hM1.below hb1 lr)
   | (go_at_call 49;with_reducible refine (CV.out _ hM2).mono ?_;rintro x w2 ⟨rfl,hb2⟩;have hB2:=hb1.trans (hb2.mono hb1.size);have hr2:=brule hB2;have hg2:=frule hB2;have hM3:=hM1.below hB2 lr)
   | (go_at_call 176;with_reducible refine (CH.out _).mono ?_;rintro x w' ⟨rfl,rfl⟩)
   | (go_at_call 68;with_reducible refine (CSi.out _).mono ?_;rintro x w3 ⟨rfl,hb3⟩;have hB3:=hB2.trans (hb3.mono hB2.size);have hr3:=brule hB3;have hg3:=frule hB3;have hM4:=hM1.below hB3 lr)
   | (go_at_call 28;with_reducible refine (CP.out _ hM4).mono ?_;rintro x w4 ⟨rfl,hb4⟩;have hB4:=hB3.trans (hb4.mono hB3.size);have hr4:=brule hB4;have hg4:=frule hB4)
   )
  refine bodyPost_ret (url_at Tryz.results189 _ _ M (hBl.below hB4 hml) _ _ _ _ _ _ _ rfl rfl) rfl ⟨(congrArg Ending.returned hres.out).symm,?_⟩
  rw [HK.out]
  exact below_set6 (hB1.trans (hB4.mono hKa)) hKM _ _ _ _ _ _
end Go.Proofs.YtjdhaacmlpegoaaGreatDoor
