/- Part 9 of what the proof needs: C2. -/
import Derived.Test.YtjdhaacmlpegoaaGreatDoorU08
set_option maxRecDepth 20000
set_option maxHeartbeats 16000000
set_option linter.unusedSimpArgs false
set_option linter.unusedVariables false
namespace Go.Proofs.YtjdhaacmlpegoaaGreatDoor
open Go.RowKit
theorem lowerc_any (s:ByteArray)(w:World)(hs:s.size<=1000000):
 Calls Tryz.prog 173 #[.string s] w fun e w'=>∃ t:ByteArray,e = .returned (.string t)/\t.data.toList=lowL s.data.toList/\Below w.heap.size w w':=by
 obtain ⟨cap,w1,hcv,hby,hb1⟩:=conv_bytes w s;go_enter Tryz.func173,Tryz.ntmps173;go_wp2;go_loopw [10] (fun iv wr=>∃ (k:Nat),k<=s.size/\iv = .int .i64 k/\BytesAt wr w.heap.size (lowL (s.data.toList.take k) ++ s.data.toList.drop k)/\Below w.heap.size w wr) (fun iv _=>s.size - (intOf iv).toNat);case atStart=>exact ⟨0,Kh _,rfl,hby,hb1⟩
 case round=>
  obtain ⟨k,hk,rfl,hbl,hbw⟩:=hrel;clear hby hb1 hcv;by_cases hlt:k<s.size
  ·exact N17
  ·exact N22
theorem lowc_is (s T:ByteArray)(hT:T.data.toList=lowL s.data.toList)(w:World)(hs:s.size<=1000000):
 Calls Tryz.prog 173 #[.string s] w fun e w'=>e = .returned (.string T)/\Below w.heap.size w w':=by refine (lowerc_any s w hs).mono ?_;rintro e w' ⟨t,rfl,ht,h⟩;exact ⟨by rw [ba_ext' (ht.trans hT.symm)],h⟩
theorem trimpre_is (s T:ByteArray)(hT:T.data.toList=undot s.data.toList)(w:World):
 Calls Tryz.prog 175 #[.string s,.string ⟨#[46]⟩] w fun e w'=>e = .returned (.string T)/\w=w':=by refine (Tryz.strings_TrimPrefix s ⟨#[46]⟩ w).mono ?_;rintro e w' ⟨rfl,h⟩;refine ⟨?_,h.symm⟩;congr 2;exact ba_ext' (by rw [hT];rfl)
theorem defp_is (s:ByteArray)(w:World)(hs:s.size<=1000000):
 Calls Tryz.prog 172 #[.string s] w fun e w'=>e = .returned (.string (bs (defpL s.data.toList)))/\w=w':=by refine (defp_any s w hs).mono ?_;rintro e w' ⟨t,rfl,ht,h⟩;exact ⟨by rw [bs_of ht],h⟩
theorem hasp_is (s:ByteArray)(H:Bool)(hH:Lib.hasPrefix s.data.toList [47]=H)(w:World):
 Calls Tryz.prog 176 #[.string s,.string ⟨#[47]⟩] w fun e w'=>e = .returned (.bool H)/\w=w':=by refine (Tryz.strings_HasPrefix s ⟨#[47]⟩ w).mono ?_;rintro e w' ⟨rfl,h⟩;exact ⟨ret_bool hH,h.symm⟩
theorem cparse_no (s a b c d e f:ByteArray)(now:Int)(w:World)(hz:USize 40000 a b c d e f)(hM:MaxAt w)(hT:takesB (u6 a b c d e f)=false):
 Calls Tryz.prog 117 #[.string s,urlA a b c d e f,.int .i64 now] w fun x w'=>x = .returned (resC (ck0,7))/\Below w.heap.size w w':=by
 have CT:=Kb (fun w hM=>takes_is a b c d e f false hT w hz hM);have A0:=AtL.new w (urlL a b c d e f) 37;have A1:=A0.alloc (.cells #[.string ⟨#[]⟩,.string ⟨#[]⟩,.string ⟨#[]⟩,.string ⟨#[]⟩,.bool false,.bool false,.bool false,.int .i64 0,.int .i64 0] 88);have R1:=AtL.new (w.alloc (.cells #[.string a,.string b,.string c,.string d,.string e,.string f] 37)) ck0V 88;have hB1:Below w.heap.size w ((w.alloc (.cells #[.string a,.string b,.string c,.string d,.string e,.string f] 37)).alloc (.cells #[.string ⟨#[]⟩,.string ⟨#[]⟩,.string ⟨#[]⟩,.string ⟨#[]⟩,.bool false,.bool false,.bool false,.int .i64 0,.int .i64 0] 88)):=((Kc w).alloc lr _).alloc (by simp) _;have hM1:=hM.below hB1 lr;have hk1:w.heap.size<((w.alloc (.cells #[.string a,.string b,.string c,.string d,.string e,.string f] 37)).alloc (.cells #[.string ⟨#[]⟩,.string ⟨#[]⟩,.string ⟨#[]⟩,.string ⟨#[]⟩,.bool false,.bool false,.bool false,.int .i64 0,.int .i64 0] 88)).heap.size:=(by simp;omega)
 rw [show (w.alloc (.cells #[.string a,.string b,.string c,.string d,.string e,.string f] 37)).heap.size=w.heap.size+1 by simp] at R1;clear hT hz hM;go_enter Tryz.func117,Tryz.ntmps117;go_wp2_with (with_reducible refine (CT.out _ hM1).mono ?_;rintro x w1 ⟨rfl,hb1⟩;have hB2:=Kd hB1 hb1;have R2:=R1.next hb1;have z_:=R2.o9;have f_:=R2.of9;have hk2:=R2.lt)
 exact bodyPost_ret (ret9_run Tryz.results117 Tryz.sizeOf88 Tryz.isAgg88 _ _ _ _ _ _ _ _ _ _ _ _ _ rfl rfl (R2.set9 rfl _ _ _ _ _ _ _ _ _)) rfl ⟨rfl,below_set9 hB2 (Jo _) _ _ _ _ _ _ _ _ _⟩
theorem N44{p:Prop}(h:p:=by
 clear hbad2;go_enter Tryz.func117,Tryz.ntmps117
 go_wp2_with (first
  | (with_reducible refine (CT.out _ hM1).mono ?_;rintro x w1 ⟨rfl,hb1⟩;have hB2:=Kd hB1 hb1;have R2:=R1.next hb1;have hM2:=hM1.below hb1 lr)
  | (with_reducible refine (CSp.out _ hM2).mono ?_;rintro x w2 ⟨rfl,hb2,hg2,hp0,-⟩;have hB3:=Kd hB2 hb2;have R3:=R2.next hb2;have hM3:=hM2.below hb2 lr)
  | (with_reducible refine (CP.out _ hM3).mono ?_;rintro x w3 ⟨rfl,hb3⟩;have hB4:=Kd hB3 hb3;have R4:=R3.next hb3;have z_:=R4.o9;have f_:=R4.of9;have hk4:=R4.lt))
 exact bodyPost_ret (ret9_run Tryz.results117 Tryz.sizeOf88 Tryz.isAgg88 _ _ _ _ _ _ _ _ _ _ _ _ _ rfl rfl (R4.set9 rfl _ _ _ _ _ _ _ _ _)) rfl ⟨rfl,below_set9 hB4 (Jo _) _ _ _ _ _ _ _ _ _⟩
 ):p:=h
theorem cparse_syn (s a b c d e f:ByteArray)(now:Int)(w:World)(hs:s.size<=100000)(hz:USize 40000 a b c d e f)(hM:MaxAt w)(hT:takesB (u6 a b c d e f)=true)
 (q0:ByteArray) (qs:List ByteArray) (hq:lists (q0 :: qs)=segs 59 s.data.toList)
 (CSp:Hid (∀ w,MaxAt w->Calls Tryz.prog 115 #[.string s,.string ⟨#[59]⟩] w fun e w'=>e = .returned (.slice (some ⟨w.heap.size,0,none⟩) (q0 :: qs).length (q0 :: qs).length)/\Below w.heap.size w w'/\w.heap.size<w'.heap.size/\w'.cell? ⟨w.heap.size,0,none⟩=some (.string q0)/\∀ j (h:j<qs.length),w'.cell? ⟨w.heap.size,1+j,none⟩=some (.string qs[j])))
 (hbad:q0.data.toList.contains 61=false\/trimC (pre 61 q0.data.toList)=[]\/ctlL s.data.toList=true) :
 Calls Tryz.prog 117 #[.string s,urlA a b c d e f,.int .i64 now] w fun x w'=>x = .returned (resC (ck0,4))/\Below w.heap.size w w':=by
 have CT:=Kb (fun w hM=>takes_is a b c d e f true hT w hz hM);have hq0:=(segs_sizes hq).2 q0 (by simp);obtain ⟨N,hN⟩:∃ N:ByteArray,N.data.toList=trimC (pre 61 q0.data.toList):=⟨bs _,rfl⟩
 obtain ⟨V,hV⟩:∃ V:ByteArray,V.data.toList=trimC (post 61 q0.data.toList):=⟨bs _,rfl⟩
 obtain ⟨F,hF⟩:=Ka (q0.data.toList.contains 61);obtain ⟨K,hK⟩:=Ka (ctlL s.data.toList);have CP:=Kb (fun w hM=>pair_is q0 N V F w (by omega) hM hN hV hF);have CK:=Kb (fun w=>control_is s K hK w);have hNE:N.toList.isEmpty=decide (trimC (pre 61 q0.data.toList)=[]):=by
  rw [Kt,hN]
  cases trimC (pre 61 q0.data.toList) with
  | nil=>rfl
  | cons b r=>simp
 obtain ⟨X,hX⟩:=Ka (decide (trimC (pre 61 q0.data.toList)=[]));rw [hX] at hNE;have hbad2:F=false\/X=true\/K=true:=by
  rcases hbad with h | h | h
  ·exact .inl (hF.symm.trans h)
  ·exact .inr (.inl (by rw [<-hX];exact Kx h))
  ·exact .inr (.inr (hK.symm.trans h))
 have A0:=AtL.new w (urlL a b c d e f) 37;have A1:=A0.alloc (.cells #[.string ⟨#[]⟩,.string ⟨#[]⟩,.string ⟨#[]⟩,.string ⟨#[]⟩,.bool false,.bool false,.bool false,.int .i64 0,.int .i64 0] 88);have R1:=AtL.new (w.alloc (.cells #[.string a,.string b,.string c,.string d,.string e,.string f] 37)) ck0V 88;have hB1:Below w.heap.size w ((w.alloc (.cells #[.string a,.string b,.string c,.string d,.string e,.string f] 37)).alloc (.cells #[.string ⟨#[]⟩,.string ⟨#[]⟩,.string ⟨#[]⟩,.string ⟨#[]⟩,.bool false,.bool false,.bool false,.int .i64 0,.int .i64 0] 88)):=((Kc w).alloc lr _).alloc (by simp) _;have hM1:=hM.below hB1 lr;have hk1:w.heap.size<((w.alloc (.cells #[.string a,.string b,.string c,.string d,.string e,.string f] 37)).alloc (.cells #[.string ⟨#[]⟩,.string ⟨#[]⟩,.string ⟨#[]⟩,.string ⟨#[]⟩,.bool false,.bool false,.bool false,.int .i64 0,.int .i64 0] 88)).heap.size:=(by simp;omega)
 rw [show (w.alloc (.cells #[.string a,.string b,.string c,.string d,.string e,.string f] 37)).heap.size=w.heap.size+1 by simp] at R1;clear hT hz hM hbad hN hV hF hK hX hq hq0;cases F
 ·exact N44
 ·cases X
  ·obtain rfl:K=true:=by simpa using hbad2
   clear hbad2;go_enter Tryz.func117,Tryz.ntmps117
   go_wp2_with (first
    | (with_reducible refine (CT.out _ hM1).mono ?_;rintro x w1 ⟨rfl,hb1⟩;have hB2:=Kd hB1 hb1;have R2:=R1.next hb1;have hM2:=hM1.below hb1 lr)
    | (with_reducible refine (CSp.out _ hM2).mono ?_;rintro x w2 ⟨rfl,hb2,hg2,hp0,-⟩;have hB3:=Kd hB2 hb2;have R3:=R2.next hb2;have hM3:=hM2.below hb2 lr)
    | (with_reducible refine (CP.out _ hM3).mono ?_;rintro x w3 ⟨rfl,hb3⟩;have hB4:=Kd hB3 hb3;have R4:=R3.next hb3)
    | (with_reducible refine (CK.out _).mono ?_;rintro x w4 ⟨rfl,hb4⟩;have hB5:=Kd hB4 hb4;have R5:=R4.next hb4;have z_:=R5.o9;have f_:=R5.of9;have hk5:=R5.lt))
   exact bodyPost_ret (ret9_run Tryz.results117 Tryz.sizeOf88 Tryz.isAgg88 _ _ _ _ _ _ _ _ _ _ _ _ _ rfl rfl (R5.set9 rfl _ _ _ _ _ _ _ _ _)) rfl ⟨rfl,below_set9 hB5 (Jo _) _ _ _ _ _ _ _ _ _⟩
  ·exact N44
theorem contains_is (s:ByteArray)(c:UInt8)(K:Bool)(hK:s.data.toList.contains c=K)(w:World):
 Calls Tryz.prog 177 #[.string s,.string ⟨#[c]⟩] w fun e w'=>e = .returned (.bool K)/\w=w':=by refine (Tryz.strings_Contains_one s c w).mono ?_;rintro e w' ⟨rfl,h⟩;refine ⟨ret_bool ?_,h.symm⟩;rw [<-hK,Lib.contains_iff_indexByte]
theorem domi_is (h d:ByteArray)(D:Bool)(hD:domL h.data.toList d.data.toList=D)(w:World)(hh:h.size<=1000000)(hd:d.size<=1000000):
 Calls Tryz.prog 83 #[.string h,.string d] w fun e w'=>e = .returned (.bool D)/\Below w.heap.size w w':=by
 have:=dom_any h d w hh hd
 rwa [hD] at this
theorem N2{p:Prop}(h:p:=by
 go_wp2_with (first
  | (with_reducible refine (CDm.out _).mono ?_;rintro x w8 ⟨rfl,hb8⟩;have hB8:=Kd hB7 hb8;have R8:=R7.next hb8;have r_:=R8.o9;have q0:=R8.f 0 rfl;have q1:=R8.f 1 rfl;have q2:=R8.f 2 rfl;have q3:=R8.f 3 rfl;have q4:=R8.f 4 rfl;have q5:=R8.f 5 rfl;have q6:=R8.f 6 rfl;have q7:=R8.f 7 rfl;have q8:=R8.f 8 rfl;have hk8:=R8.lt;have K8:=AK7.next hb8;have z_:=K8.o9;have hk9:=K8.lt;have A8:=A7.next hb8;have v0:=A8.c 0 rfl;have v1:=A8.c 1 rfl)
  | (with_reducible refine (CKn.out _).mono ?_;rintro x w9 ⟨rfl,rfl⟩))
 exact bodyPost_ret (ret9_run Tryz.results117 Tryz.sizeOf88 Tryz.isAgg88 _ _ _ _ _ _ _ _ _ _ _ _ _ rfl rfl (R8.set9 rfl _ _ _ _ _ _ _ _ _)) rfl ⟨by rw [HV.out];exact rfl,below_set9 hB8 (Jo _) _ _ _ _ _ _ _ _ _⟩
 ):p:=h
theorem N29{p:Prop}(h:p:=by
 go_wp2_with (first
  | (with_reducible refine (CPr.out _ hM7).mono ?_;rintro x v5 ⟨rfl,hv5⟩;have B5:=hbw.trans (hv5.mono hKw);have K5:=AK7.next hv5;have z_:=K5.o9;have y_:=K5.of9;have k5:=K5.lt)
  | (with_reducible refine (CL1.out _).mono ?_;rintro x v6 ⟨rfl,hv6⟩;have B6:=B5.trans (hv6.mono (Kl k5));have K6:=K5.next hv6;have z_:=K6.o9;have y_:=K6.of9;have k6:=K6.lt;have U6:=A6.below B6 hUK;have u1:=U6.c 1 rfl;have u3:=U6.c 3 rfl))
 go_roundw
 first
  |case rel=>exact ⟨k+1,{ c with se:=true },by omega,by go_num,K6.set 5 _,B6.setCell (Zf K) _,hcd,HF.out⟩
   case measure=>simp [intOf];omega
  |case rel=>exact ⟨k+1,{ c with hi:=true },by omega,by go_num,K6.set 6 _,B6.setCell (Zf K) _,hcd,HF.out⟩
   case measure=>simp [intOf];omega
  |case rel=>exact ⟨k+1,c,by omega,by go_num,K6,B6,hcd,HF.out⟩
   case measure=>simp [intOf];omega
 ):p:=h
theorem N34{p:Prop}(h:p:=by
 go_wp2_with (first
  | (with_reducible refine (CPr.out _ hM7).mono ?_;rintro x v5 ⟨rfl,hv5⟩;have B5:=hbw.trans (hv5.mono hKw);have K5:=AK7.next hv5;have z_:=K5.o9;have y_:=K5.of9;have k5:=K5.lt)
  | (with_reducible refine (CL1.out _).mono ?_;rintro x v6 ⟨rfl,hv6⟩;have B6:=B5.trans (hv6.mono (Kl k5));have K6:=K5.next hv6;have z_:=K6.o9;have y_:=K6.of9;have k6:=K6.lt;have U6:=A6.below B6 hUK;have u1:=U6.c 1 rfl;have u3:=U6.c 3 rfl)
  | (with_reducible refine (CTp.out _).mono ?_;rintro x v7 ⟨rfl,rfl⟩)
  | (with_reducible refine (CL2.out _).mono ?_;rintro x v7 ⟨rfl,hv7⟩;have B7:=B6.trans (hv7.mono (Kl k6));have K7:=K6.next hv7;have z_:=K7.o9;have y_:=K7.of9;have k7:=K7.lt;have U7:=A6.below B7 hUK;have u1:=U7.c 1 rfl;have u3:=U7.c 3 rfl))
 go_roundw
 first
  |case rel=>exact ⟨k+1,{ c with d:=b,ho:=true },by omega,by go_num,((K7.set 2 _).set 4 _).set 2 _,((B7.setCell (Zf K) _).setCell (Zf K) _).setCell (Zf K) _,by have:=hz.b;show b.size<=_;omega,HF.out⟩
   case measure=>simp [intOf];omega
  |case rel=>exact ⟨k+1,{ c with d:=L2,ho:=false },by omega,by go_num,(K7.set 2 _).set 4 _,(B7.setCell (Zf K) _).setCell (Zf K) _,hLs,HF.out⟩
   case measure=>simp [intOf];omega
 ):p:=h
theorem N41{p:Prop}(h:p:=by
 go_wp2_with (first
  | (with_reducible refine (CPr.out _ hM7).mono ?_;rintro x v5 ⟨rfl,hv5⟩;have B5:=hbw.trans (hv5.mono hKw);have K5:=AK7.next hv5;have z_:=K5.o9;have y_:=K5.of9;have k5:=K5.lt)
  | (with_reducible refine (CL1.out _).mono ?_;rintro x v6 ⟨rfl,hv6⟩;have B6:=B5.trans (hv6.mono (Kl k5));have K6:=K5.next hv6;have z_:=K6.o9;have y_:=K6.of9;have k6:=K6.lt;have U6:=A6.below B6 hUK;have u1:=U6.c 1 rfl;have u3:=U6.c 3 rfl)
  | (with_reducible refine (CD.out _).mono ?_;rintro x v7 ⟨rfl,rfl⟩)
  | (with_reducible refine (CHp.out _).mono ?_;rintro x v8 ⟨rfl,rfl⟩))
 go_roundw
 first
  |case rel=>exact ⟨k+1,{ c with p:=dp },by omega,by go_num,K6.set 3 _,B6.setCell (Zf K) _,hcd,HF.out⟩
   case measure=>simp [intOf];omega
  |case rel=>exact ⟨k+1,{ c with p:=VV },by omega,by go_num,(K6.set 3 _).set 3 _,(B6.setCell (Zf K) _).setCell (Zf K) _,hcd,HF.out⟩
   case measure=>simp [intOf];omega
 ):p:=h
theorem M5{p:Prop}(h:p:=by
 by_cases hm:cd.data.toList=b.data.toList
 ·obtain rfl:cd=b:=ba_ext' hm;rw [Ke (by rintro (h | h);cases h;exact h.1 hm)] at hf;have HL:=Kb hf;clear hf hm hD hKn;cases cse
  ·have HV:Hid (R=(⟨cn,cv,cd,cp,cho,false,chi,cex,ccr⟩,0)):=by rw [<-HL.out,Ke (by simp)];exact rfl
   clear HL
   exact N2
  ·by_cases hsc:a.data.toList=httpsL
   ·have HV:Hid (R=(⟨cn,cv,cd,cp,cho,true,chi,cex,ccr⟩,0)):=by rw [<-HL.out,Ke (by simp [hsc])];exact rfl
    have hs2:a.toList=[104,116,116,112,115]:=by rw [Kt];exact hsc
    clear HL hsc
    exact N2
   ·have HV:Hid (R=(ck0,7)):=by rw [<-HL.out,Kf ⟨rfl,hsc⟩];exact rfl
    have hs2:¬ a.toList=[104,116,116,112,115]:=by rw [Kt];exact hsc
    have hs3:(a.toList == [104,116,116,112,115])=false:=Ki.2 hs2;clear HL hsc
    exact N2
 ·have hm1:¬ cd.toList=b.toList:=by rw [Kt,Kt];exact hm
  have hm2:(cd.toList == b.toList)=false:=Ki.2 hm1;cases Kn
  ·have HV:Hid (R=(ck0,15)):=by rw [<-hf,Kf (Or.inr ⟨hm,rfl⟩)];exact rfl
   clear hf hm hD hKn
   exact N2
  ·rw [Ke (by rintro (h | h);cases h;cases h.2)] at hf;have HL:=Kb hf;clear hf hm hD hKn;cases cse
   ·have HV:Hid (R=(⟨cn,cv,cd,cp,cho,false,chi,cex,ccr⟩,0)):=by rw [<-HL.out,Ke (by simp)];exact rfl
    clear HL
    exact N2
   ·by_cases hsc:a.data.toList=httpsL
    ·have HV:Hid (R=(⟨cn,cv,cd,cp,cho,true,chi,cex,ccr⟩,0)):=by rw [<-HL.out,Ke (by simp [hsc])];exact rfl
     have hs2:a.toList=[104,116,116,112,115]:=by rw [Kt];exact hsc
     clear HL hsc
     exact N2
    ·have HV:Hid (R=(ck0,7)):=by rw [<-HL.out,Kf ⟨rfl,hsc⟩];exact rfl
     have hs2:¬ a.toList=[104,116,116,112,115]:=by rw [Kt];exact hsc
     have hs3:(a.toList == [104,116,116,112,115])=false:=Ki.2 hs2;clear HL hsc
     exact N2
 ):p:=h
theorem cparse_main (s a b c d e f:ByteArray)(now:Int)(w:World)(hs:s.size<=100000)(hz:USize 40000 a b c d e f)(hM:MaxAt w)(hT:takesB (u6 a b c d e f)=true)
 (q0:ByteArray) (qs:List ByteArray) (hq:lists (q0 :: qs)=segs 59 s.data.toList) (hne:qs≠[])
 (CSp:Hid (∀ w,MaxAt w->Calls Tryz.prog 115 #[.string s,.string ⟨#[59]⟩] w fun e w'=>e = .returned (.slice (some ⟨w.heap.size,0,none⟩) (q0 :: qs).length (q0 :: qs).length)/\Below w.heap.size w w'/\w.heap.size<w'.heap.size/\w'.cell? ⟨w.heap.size,0,none⟩=some (.string q0)/\∀ j (h:j<qs.length),w'.cell? ⟨w.heap.size,1+j,none⟩=some (.string qs[j])))
 (hg1:q0.data.toList.contains 61=true) (hg2:trimC (pre 61 q0.data.toList)≠[]) (hg3:ctlL s.data.toList=false)
 (R:Ck × Int) (hR:lastC b.data.toList a.data.toList ((lists qs).foldl (stepC b (bs (defpL d.data.toList)) now) (firstC b (bs (defpL d.data.toList)) q0.data.toList))=R) :
 Calls Tryz.prog 117 #[.string s,urlA a b c d e f,.int .i64 now] w fun x w'=>x = .returned (resC R)/\Below w.heap.size w w':=by
 have CT:=Kb (fun w hM=>takes_is a b c d e f true hT w hz hM);have hsz:=segs_sizes hq;have hq0:=hsz.2 q0 (by simp);obtain ⟨N,hN⟩:∃ N:ByteArray,N=bs (trimC (pre 61 q0.data.toList)):=⟨bs _,rfl⟩
 obtain ⟨V,hV⟩:∃ V:ByteArray,V=bs (trimC (post 61 q0.data.toList)):=⟨bs _,rfl⟩
 have CP:=Kb (fun w hM=>pair_is q0 N V true w (by omega) hM (by rw [hN];rfl) (by rw [hV];rfl) hg1);have CK:=Kb (fun w=>control_is s false hg3 w);have hNE:N.toList.isEmpty=false:=by rw [hN,trimC_nil_bs];exact Kj hg2
 obtain ⟨dp,hdp⟩:=Ka (bs (defpL d.data.toList));have cD:=fun w=>defp_is d w (by have:=hz.d;omega);rw [hdp] at cD hR;have CD:=Kb cD;have hF:firstC b dp q0.data.toList=⟨N,V,b,dp,true,false,false,-1,0⟩:=by rw [hN,hV];rfl
 rw [hF] at hR;have HR:=Kb hR;have hlen:qs.length<=100000:=by have:=hsz.1;simp at this;omega
 have hqz:∀ p∈qs,p.size<=100000:=fun p hp=>by have:=hsz.2 p (Jg _ hp);omega
 have HQ:=Kb hqz;have hnep:0<qs.length:=Xf.2 hne;have A0:=AtL.new w (urlL a b c d e f) 37;have A1:=A0.alloc (.cells #[.string ⟨#[]⟩,.string ⟨#[]⟩,.string ⟨#[]⟩,.string ⟨#[]⟩,.bool false,.bool false,.bool false,.int .i64 0,.int .i64 0] 88);have R1:=AtL.new (w.alloc (.cells #[.string a,.string b,.string c,.string d,.string e,.string f] 37)) ck0V 88;have hB1:Below w.heap.size w ((w.alloc (.cells #[.string a,.string b,.string c,.string d,.string e,.string f] 37)).alloc (.cells #[.string ⟨#[]⟩,.string ⟨#[]⟩,.string ⟨#[]⟩,.string ⟨#[]⟩,.bool false,.bool false,.bool false,.int .i64 0,.int .i64 0] 88)):=((Kc w).alloc lr _).alloc (by simp) _;have hM1:=hM.below hB1 lr;have hk1:w.heap.size<((w.alloc (.cells #[.string a,.string b,.string c,.string d,.string e,.string f] 37)).alloc (.cells #[.string ⟨#[]⟩,.string ⟨#[]⟩,.string ⟨#[]⟩,.string ⟨#[]⟩,.bool false,.bool false,.bool false,.int .i64 0,.int .i64 0] 88)).heap.size:=(by simp;omega)
 rw [show (w.alloc (.cells #[.string a,.string b,.string c,.string d,.string e,.string f] 37)).heap.size=w.heap.size+1 by simp] at R1;clear hT hM hN hV hg1 hg2 hg3 hq hq0 hdp hF hR hsz cD hqz;go_enter Tryz.func117,Tryz.ntmps117
 go_upto_region 7 with (first
  | (with_reducible refine (CT.out _ hM1).mono ?_;rintro x w1 ⟨rfl,hb1⟩;have hB2:=Kd hB1 hb1;have R2:=R1.next hb1;have A2:=A1.next hb1;have hM2:=hM1.below hb1 lr)
  | (with_reducible refine (CSp.out _ hM2).mono ?_;rintro x w2 ⟨rfl,hb2,hg2,hp0,hps⟩;have hB3:=Kd hB2 hb2;have R3:=R2.next hb2;have A3:=A2.next hb2;have hM3:=hM2.below hb2 lr;have HPS:=Kb hps;clear hps)
  | (with_reducible refine (CP.out _ hM3).mono ?_;rintro x w3 ⟨rfl,hb3⟩;have hB4:=Kd hB3 hb3;have R4:=R3.next hb3;have A4:=A3.next hb3;have hM4:=hM3.below hb3 lr)
  | (with_reducible refine (CK.out _).mono ?_;rintro x w4 ⟨rfl,hb4⟩;have hB5:=Kd hB4 hb4;have R5:=R4.next hb4;have A5:=A4.next hb4;have hM5:=hM4.below hb4 lr;have u1:=A5.c 1 rfl;have u3:=A5.c 3 rfl))
 have hz4:w4.heap.size=w4.heap.size:=rfl;go_cut [12] (fun p12 wx=>∃ K,p12 = .pointer (some ⟨K,0,none⟩)/\w4.heap.size<=K/\AtL wx K (ckL ⟨N,V,b,dp,true,false,false,-1,0⟩)/\Below w4.heap.size w4 wx);case first=>clear HPS A0 A1 A2 A3 A4 R1 R2 R3 R4;go_region_held3 (fun w'=>w'.cell? ⟨w.heap.size,1,none⟩=some (.string b)/\w'.cell? ⟨w.heap.size,3,none⟩=some (.string d)) (go_keep) (first | (with_reducible refine (CD.out _).mono ?_;rintro x w5 ⟨rfl,rfl⟩));all_goals go_wp2_with fail;go_meet;exact ⟨w4.heap.size,rfl,lr,(AtL.new w4 (ckL ⟨N,V,b,dp,true,false,false,-1,0⟩) 88).drew,((Kc w4).alloc lr _).drew⟩
 case rest=>
  obtain ⟨K,rfl,hK,AK,hBK⟩:=hcut;have A6:=A5.below hBK A5.lt;have R6:=R5.below hBK R5.lt;have hM6:=hM5.below hBK lr;have hB6:=Kd hB5 hBK;have hUK:w.heap.size<K:=Ko A5.lt hK;have hRK:w.heap.size+1<K:=Ko R5.lt hK;have hPK:w1.heap.size<K:=(by have:=hb3.size;have:=hb4.size;omega)
  have hGK:0<K:=Ko hM5.lt hK;have hBp:Below w2.heap.size w2 wc:=(Kd hb3 hb4).trans (hBK.mono (by have:=hb3.size;have:=hb4.size;omega));have HC:=Kb (fun j (h:j<qs.length)=>(hBp.cell (p:=⟨w1.heap.size,1+j,none⟩) hg2).trans (HPS.out j h));have hM5':=Kb hM5;have hnel:1<qs.length+1:=by omega
  clear A0 A1 A2 A3 A4 A5 R1 R2 R3 R4 R5 hM1 hM2 hM3 hM4 hb1 hb2 hb3 hb4 hBp HPS CT CSp CP CK u1 u3 hp0 hB1 hB2 hB3 hB4 hz4;go_wp2_with fail;go_loopw [56] (fun iv wr=>∃ (k:Nat) (c:Ck),k<=qs.length/\iv = .int .i64 k/\AtL wr K (ckL c)/\Below K wc wr/\c.d.size<=200000/\lastC b.data.toList a.data.toList ((lists (qs.drop k)).foldl (stepC b dp now) c)=R) (fun iv _=>qs.length - (intOf iv).toNat);case atStart=>exact ⟨0,_,Kh _,rfl,AK,Kc _,by have:=hz.b;show b.size<=_;omega,HR.out⟩
  case round=>
   obtain ⟨k,c,hk,rfl,AK7,hbw,hcd,hf⟩:=hrel;have A7:=A6.below hbw hUK;have R7:=R6.below hbw hRK;by_cases hlt:k<qs.length
   ·clear R6 HR AK;have c0:=(hbw.cell (p:=⟨w1.heap.size,1+k,none⟩) hPK).trans (HC.out k hlt);have hqk:=HQ.out qs[k] (Ky hlt);rw [Zu hlt,show lists (qs[k] :: qs.drop (k+1))=qs[k].data.toList :: lists (qs.drop (k+1)) from rfl,Xc] at hf;obtain ⟨p,hp⟩:=Ka (qs[k]);rw [hp] at c0 hqk hf;obtain ⟨NN,hNN⟩:∃ N:ByteArray,N.data.toList=trimC (pre 61 p.data.toList):=⟨bs _,rfl⟩
    obtain ⟨VV,hVV⟩:∃ V:ByteArray,V.data.toList=trimC (post 61 p.data.toList):=⟨bs _,rfl⟩
    obtain ⟨FF,hFF⟩:∃ F,p.data.toList.contains 61=F:=⟨_,rfl⟩
    obtain ⟨LL,hLL⟩:∃ L:ByteArray,L.data.toList=lowL NN.data.toList:=⟨bs _,rfl⟩
    have hNs:NN.size<=100000:=by rw [<-size_len,hNN];have h1:=trimC_len (pre 61 p.data.toList);have h2:=pre_len' 61 p.data.toList;rw [size_len] at h2;omega
    have hVs:VV.size<=100000:=by rw [<-size_len,hVV];have h1:=trimC_len (post 61 p.data.toList);have h2:=post_len' 61 p.data.toList;rw [size_len] at h2;omega
    have CPr:=Kb (fun w hM=>pair_is p NN VV FF w (by omega) hM hNN hVV hFF);have CL1:=Kb (fun w=>lowc_is NN LL hLL w (by omega));rw [step_is b dp now c p.data.toList LL VV (hLL.trans (by rw [hNN])) hVV] at hf;have hM7:=hM6.keep hbw hGK;have hKw:K<=wr.heap.size:=Kl AK7.lt;have hki:(k:Int)<(qs.length:Int):=by omega
    clear hp hNN hVV hFF hLL R7 A7;rcases kind_cases LL with ⟨g1,e⟩ | ⟨g1,g2,e⟩ | ⟨g1,g2,g3,e⟩ | ⟨g1,g2,g3,g4,e⟩ | ⟨g1,g2,g3,g4,g5,e⟩ | ⟨g1,g2,g3,g4,g5,n1,n2,n3,n4,n5⟩
    ·rw [e] at hf;cases hag:ageL VV.data.toList with
     | none=>
       rw [attr_max0 _ _ _ _ _ hag] at hf;have CA:=Kb (fun w=>cage_is VV none hag w (by omega));have HF:=Kb hf;clear hf e hag
       go_wp2_with (first
        | (with_reducible refine (CPr.out _ hM7).mono ?_;rintro x v5 ⟨rfl,hv5⟩;have B5:=hbw.trans (hv5.mono hKw);have K5:=AK7.next hv5;have z_:=K5.o9;have y_:=K5.of9;have k5:=K5.lt)
        | (with_reducible refine (CL1.out _).mono ?_;rintro x v6 ⟨rfl,hv6⟩;have B6:=B5.trans (hv6.mono (Kl k5));have K6:=K5.next hv6;have z_:=K6.o9;have y_:=K6.of9;have k6:=K6.lt;have U6:=A6.below B6 hUK;have u1:=U6.c 1 rfl;have u3:=U6.c 3 rfl)
        | (with_reducible refine (CA.out _).mono ?_;rintro x v7 ⟨rfl,hv7⟩;have B7:=B6.trans (hv7.mono (Kl k6));have K7:=K6.next hv7;have z_:=K7.o9;have y_:=K7.of9;have k7:=K7.lt))
       go_roundw;case rel=>exact ⟨k+1,c,by omega,by go_num,K7,B7,hcd,HF.out⟩
       case measure=>simp [intOf];omega
     | some n=>
       rw [attr_max _ _ _ _ _ n hag] at hf;have hnb:=ageL_bd _ _ hag;have CA:=Kb (fun w=>cage_is VV (some n) hag w (by omega));have hcb:=clock_bd now;have cK:=fun w=>clock_any now w;obtain ⟨Cn,hCn⟩:=Ka (clockI now);rw [hCn] at cK hcb hf;have CKl:=Kb cK;have HF:=Kb hf;clear hf e hag hCn cK;obtain ⟨hn1,hn2⟩:=hnb;obtain ⟨hc1,hc2⟩:=hcb
       go_wp2_with (first
        | (with_reducible refine (CPr.out _ hM7).mono ?_;rintro x v5 ⟨rfl,hv5⟩;have B5:=hbw.trans (hv5.mono hKw);have K5:=AK7.next hv5;have z_:=K5.o9;have y_:=K5.of9;have k5:=K5.lt)
        | (with_reducible refine (CL1.out _).mono ?_;rintro x v6 ⟨rfl,hv6⟩;have B6:=B5.trans (hv6.mono (Kl k5));have K6:=K5.next hv6;have z_:=K6.o9;have y_:=K6.of9;have k6:=K6.lt;have U6:=A6.below B6 hUK;have u1:=U6.c 1 rfl;have u3:=U6.c 3 rfl)
        | (with_reducible refine (CA.out _).mono ?_;rintro x v7 ⟨rfl,hv7⟩;have B7:=B6.trans (hv7.mono (Kl k6));have K7:=K6.next hv7;have z_:=K7.o9;have y_:=K7.of9;have k7:=K7.lt)
        | (with_reducible refine (CKl.out _).mono ?_;rintro x v8 ⟨rfl,rfl⟩))
       go_roundw;case rel=>exact ⟨k+1,{ c with ex:=Cn+n * 1000 },by omega,by go_num,K7.set 7 _,B7.setCell (Zf K) _,hcd,HF.out⟩
       case measure=>simp [intOf];omega
    ·rw [e,attr_dom] at hf;obtain ⟨TT,hTT⟩:∃ T:ByteArray,T.data.toList=undot VV.data.toList:=⟨bs _,rfl⟩
     obtain ⟨L2,hL2⟩:∃ L:ByteArray,L=bs (lowL (undot VV.data.toList)):=⟨_,rfl⟩
     have hTs:TT.size<=100000:=by rw [<-size_len,hTT];have h1:=undot_len VV.data.toList;rw [size_len] at h1;omega
     have hLs:L2.size<=200000:=by rw [hL2,bs_size,low_len,<-hTT,size_len];omega
     have CTp:=Kb (fun w=>trimpre_is VV TT hTT w);have CL2:=Kb (fun w=>lowc_is TT L2 (by rw [hL2,hTT];rfl) w (by omega));have hE2:L2.toList.isEmpty=decide (lowL (undot VV.data.toList)=[]):=by
      rw [Kt,hL2,bs_list]
      cases lowL (undot VV.data.toList) with
      | nil=>rfl
      | cons b r=>simp
     rw [<-hL2] at hf;by_cases hd0:lowL (undot VV.data.toList)=[]
     ·rw [Kf hd0] at hf;rw [Kx hd0] at hE2;have HF:=Kb hf;clear hf e hd0 hL2 hTT
      exact N34
     ·rw [Ke hd0] at hf;rw [Kj hd0] at hE2;have HF:=Kb hf;clear hf e hd0 hL2 hTT
      exact N34
    ·rw [e,attr_path,bs_data] at hf;obtain ⟨H,hH⟩:=Ka (Lib.hasPrefix VV.data.toList [47]);have CHp:=Kb (fun w=>hasp_is VV H hH w);rw [hH] at hf;cases H
     ·rw [Ke Bool.false_ne_true] at hf;have HF:=Kb hf;clear hf e hH
      exact N41
     ·rw [Kf rfl] at hf;have HF:=Kb hf;clear hf e hH
      exact N41
    ·rw [e,attr_sec] at hf;have HF:=Kb hf;clear hf e
     exact N29
    ·rw [e,attr_hid] at hf;have HF:=Kb hf;clear hf e
     exact N29
    ·rw [attr_no _ _ _ _ _ _ n1 n2 n3 n4 n5] at hf;have HF:=Kb hf;clear hf n1 n2 n3 n4 n5
     exact N29
   ·obtain rfl:k=qs.length:=by omega
    rw [List.drop_length] at hf;have hf:lastC b.data.toList a.data.toList c=R:=hf;have hB7:Below w.heap.size w wr:=hB6.trans (hbw.mono (Kl hUK));clear AK A6 R6 HC HR HQ CD;obtain ⟨cn,cv,cd,cp,cho,cse,chi,cex,ccr⟩:=c;have hcd:cd.size<=200000:=hcd;obtain ⟨D,hD⟩:=Ka (domL b.data.toList cd.data.toList);have CDm:=Kb (fun w=>domi_is b cd D hD w (by have:=hz.b;omega) (by omega));obtain ⟨Kn,hKn⟩:=Ka (cd.data.toList.contains 46);have CKn:=Kb (fun w=>contains_is cd 46 Kn hKn w);unfold lastC at hf;rw [hD,hKn] at hf;have z_:=AK7.o9;have u0:=A7.c 0 rfl;have u1:=A7.c 1 rfl;cases D
    ·have HV:Hid (R=(ck0,15)):=by rw [<-hf,Kf (Or.inl rfl)];exact rfl
     clear hf hD hKn
     exact N2
    ·exact M5
theorem cparse_one (s a b c d e f:ByteArray)(now:Int)(w:World)(hs:s.size<=100000)(hz:USize 40000 a b c d e f)(hM:MaxAt w)(hT:takesB (u6 a b c d e f)=true)
 (q0:ByteArray) (qs:List ByteArray) (hq:lists (q0 :: qs)=segs 59 s.data.toList) (hne:qs=[])
 (CSp:Hid (∀ w,MaxAt w->Calls Tryz.prog 115 #[.string s,.string ⟨#[59]⟩] w fun e w'=>e = .returned (.slice (some ⟨w.heap.size,0,none⟩) (q0 :: qs).length (q0 :: qs).length)/\Below w.heap.size w w'/\w.heap.size<w'.heap.size/\w'.cell? ⟨w.heap.size,0,none⟩=some (.string q0)/\∀ j (h:j<qs.length),w'.cell? ⟨w.heap.size,1+j,none⟩=some (.string qs[j])))
 (hg1:q0.data.toList.contains 61=true) (hg2:trimC (pre 61 q0.data.toList)≠[]) (hg3:ctlL s.data.toList=false)
 (R:Ck × Int) (hR:lastC b.data.toList a.data.toList ((lists qs).foldl (stepC b (bs (defpL d.data.toList)) now) (firstC b (bs (defpL d.data.toList)) q0.data.toList))=R) :
 Calls Tryz.prog 117 #[.string s,urlA a b c d e f,.int .i64 now] w fun x w'=>x = .returned (resC R)/\Below w.heap.size w w':=by
 subst hne;have CT:=Kb (fun w hM=>takes_is a b c d e f true hT w hz hM);have hsz:=segs_sizes hq;have hq0:=hsz.2 q0 (by simp);obtain ⟨N,hN⟩:∃ N:ByteArray,N=bs (trimC (pre 61 q0.data.toList)):=⟨bs _,rfl⟩
 obtain ⟨V,hV⟩:∃ V:ByteArray,V=bs (trimC (post 61 q0.data.toList)):=⟨bs _,rfl⟩
 have CP:=Kb (fun w hM=>pair_is q0 N V true w (by omega) hM (by rw [hN];rfl) (by rw [hV];rfl) hg1);have CK:=Kb (fun w=>control_is s false hg3 w);have hNE:N.toList.isEmpty=false:=by rw [hN,trimC_nil_bs];exact Kj hg2
 obtain ⟨dp,hdp⟩:=Ka (bs (defpL d.data.toList));have cD:=fun w=>defp_is d w (by have:=hz.d;omega);rw [hdp] at cD hR;have CD:=Kb cD;have hF:firstC b dp q0.data.toList=⟨N,V,b,dp,true,false,false,-1,0⟩:=by rw [hN,hV];rfl
 rw [hF] at hR;have HR:=Kb hR;have A0:=AtL.new w (urlL a b c d e f) 37;have A1:=A0.alloc (.cells #[.string ⟨#[]⟩,.string ⟨#[]⟩,.string ⟨#[]⟩,.string ⟨#[]⟩,.bool false,.bool false,.bool false,.int .i64 0,.int .i64 0] 88);have R1:=AtL.new (w.alloc (.cells #[.string a,.string b,.string c,.string d,.string e,.string f] 37)) ck0V 88;have hB1:Below w.heap.size w ((w.alloc (.cells #[.string a,.string b,.string c,.string d,.string e,.string f] 37)).alloc (.cells #[.string ⟨#[]⟩,.string ⟨#[]⟩,.string ⟨#[]⟩,.string ⟨#[]⟩,.bool false,.bool false,.bool false,.int .i64 0,.int .i64 0] 88)):=((Kc w).alloc lr _).alloc (by simp) _;have hM1:=hM.below hB1 lr;have hk1:w.heap.size<((w.alloc (.cells #[.string a,.string b,.string c,.string d,.string e,.string f] 37)).alloc (.cells #[.string ⟨#[]⟩,.string ⟨#[]⟩,.string ⟨#[]⟩,.string ⟨#[]⟩,.bool false,.bool false,.bool false,.int .i64 0,.int .i64 0] 88)).heap.size:=(by simp;omega)
 rw [show (w.alloc (.cells #[.string a,.string b,.string c,.string d,.string e,.string f] 37)).heap.size=w.heap.size+1 by simp] at R1;clear hT hM hN hV hg1 hg2 hg3 hq hq0 hdp hF hR hsz cD;go_enter Tryz.func117,Tryz.ntmps117
 go_upto_region 7 with (first
  | (with_reducible refine (CT.out _ hM1).mono ?_;rintro x w1 ⟨rfl,hb1⟩;have hB2:=Kd hB1 hb1;have R2:=R1.next hb1;have A2:=A1.next hb1;have hM2:=hM1.below hb1 lr)
  | (with_reducible refine (CSp.out _ hM2).mono ?_;rintro x w2 ⟨rfl,hb2,hg2,hp0,hps⟩;have hB3:=Kd hB2 hb2;have R3:=R2.next hb2;have A3:=A2.next hb2;have hM3:=hM2.below hb2 lr;have HPS:=Kb hps;clear hps)
  | (with_reducible refine (CP.out _ hM3).mono ?_;rintro x w3 ⟨rfl,hb3⟩;have hB4:=Kd hB3 hb3;have R4:=R3.next hb3;have A4:=A3.next hb3;have hM4:=hM3.below hb3 lr)
  | (with_reducible refine (CK.out _).mono ?_;rintro x w4 ⟨rfl,hb4⟩;have hB5:=Kd hB4 hb4;have R5:=R4.next hb4;have A5:=A4.next hb4;have hM5:=hM4.below hb4 lr;have u1:=A5.c 1 rfl;have u3:=A5.c 3 rfl))
 have hz4:w4.heap.size=w4.heap.size:=rfl;go_cut [12] (fun p12 wx=>∃ K,p12 = .pointer (some ⟨K,0,none⟩)/\w4.heap.size<=K/\AtL wx K (ckL ⟨N,V,b,dp,true,false,false,-1,0⟩)/\Below w4.heap.size w4 wx);case first=>clear HPS A0 A1 A2 A3 A4 R1 R2 R3 R4;go_region_held3 (fun w'=>w'.cell? ⟨w.heap.size,1,none⟩=some (.string b)/\w'.cell? ⟨w.heap.size,3,none⟩=some (.string d)) (go_keep) (first | (with_reducible refine (CD.out _).mono ?_;rintro x w5 ⟨rfl,rfl⟩));all_goals go_wp2_with fail;go_meet;exact ⟨w4.heap.size,rfl,lr,(AtL.new w4 (ckL ⟨N,V,b,dp,true,false,false,-1,0⟩) 88).drew,((Kc w4).alloc lr _).drew⟩
 case rest=>
  obtain ⟨K,rfl,hK,AK,hBK⟩:=hcut;have A6:=A5.below hBK A5.lt;have R6:=R5.below hBK R5.lt;have hM6:=hM5.below hBK lr;have hB6:=Kd hB5 hBK;have hUK:w.heap.size<K:=Ko A5.lt hK;have hRK:w.heap.size+1<K:=Ko R5.lt hK;clear A0 A1 A2 A3 A4 A5 R1 R2 R3 R4 R5 hM1 hM2 hM3 hM4 hb1 hb2 hb3 hb4 HPS CT CSp CP CK u1 u3 hp0 hB1 hB2 hB3 hB4 hz4;have hf:lastC b.data.toList a.data.toList ⟨N,V,b,dp,true,false,false,-1,0⟩=R:=HR.out;obtain ⟨c,hc⟩:∃ c:Ck,c=⟨N,V,b,dp,true,false,false,-1,0⟩:=⟨_,rfl⟩
  rw [<-hc] at AK hf;have hcd:c.d.size<=200000:=by rw [hc];have:=hz.b;show b.size<=_;omega
  have AK7:=AK;have A7:=A6;have R7:=R6;have hB7:=hB6;clear hc HR AK A6 R6 hB6 CD;go_wp2_with fail;refine wp_loop_rounds 1 ?_;rw [rounds_succ];obtain ⟨cn,cv,cd,cp,cho,cse,chi,cex,ccr⟩:=c;have hcd:cd.size<=200000:=hcd;obtain ⟨D,hD⟩:=Ka (domL b.data.toList cd.data.toList);have CDm:=Kb (fun w=>domi_is b cd D hD w (by have:=hz.b;omega) (by omega));obtain ⟨Kn,hKn⟩:=Ka (cd.data.toList.contains 46);have CKn:=Kb (fun w=>contains_is cd 46 Kn hKn w);unfold lastC at hf;rw [hD,hKn] at hf;have z_:=AK7.o9;have u0:=A7.c 0 rfl;have u1:=A7.c 1 rfl;cases D
  ·have HV:Hid (R=(ck0,15)):=by rw [<-hf,Kf (Or.inl rfl)];exact rfl
   clear hf hD hKn
   exact N2
  ·exact M5
theorem cparse_is (s a b c d e f:ByteArray)(now:Int)(T:Bool)(hT:takesB (u6 a b c d e f)=T)(R:Ck × Int)(hR:parseC s.data.toList T a b d now=R)(w:World)(hs:s.size<=100000)(hz:USize 40000 a b c d e f)(hM:MaxAt w):
 Calls Tryz.prog 117 #[.string s,urlA a b c d e f,.int .i64 now] w fun x w'=>x = .returned (resC R)/\Below w.heap.size w w':=by
 subst hR
 cases T with
 | false=>rw [parseC_no];exact cparse_no s a b c d e f now w hz hM hT
 | true=>
   obtain ⟨q0,qs,hq,hc⟩:=split_at 59 s (by omega)
   rw [parseC_yes _ _ _ _ _ q0.data.toList (lists qs) hq.symm]
   by_cases hbad:q0.data.toList.contains 61=false\/trimC (pre 61 q0.data.toList)=[]\/ctlL s.data.toList=true
   ·rw [Kf hbad]
    exact cparse_syn s a b c d e f now w hs hz hM hT q0 qs hq (Kb hc) hbad
   ·rw [Ke hbad]
    have h1:q0.data.toList.contains 61=true:=by
     cases e:q0.data.toList.contains 61 with
     | true=>rfl
     | false=>exact absurd (.inl e) hbad
    have h2:trimC (pre 61 q0.data.toList)≠[]:=fun e=>hbad (.inr (.inl e))
    have h3:ctlL s.data.toList=false:=by
     cases e:ctlL s.data.toList with
     | false=>rfl
     | true=>exact absurd (.inr (.inr e)) hbad
    by_cases hne:qs=[]
    ·exact cparse_one s a b c d e f now w hs hz hM hT q0 qs hq hne (Kb hc) h1 h2 h3 _ rfl
    ·exact cparse_main s a b c d e f now w hs hz hM hT q0 qs hq hne (Kb hc) h1 h2 h3 _ rfl
end Go.Proofs.YtjdhaacmlpegoaaGreatDoor
