/- Part 10 of what the proof needs: C3 C4. -/
import Derived.Test.YtjdhaacmlpegoaaGreatDoorU09
set_option maxRecDepth 20000
set_option maxHeartbeats 16000000
set_option linter.unusedSimpArgs false
set_option linter.unusedVariables false
namespace Go.Proofs.YtjdhaacmlpegoaaGreatDoor
open Go.RowKit
theorem del_none (p:Ck->Bool)(g:Nat)(cb:Array Value)(eg:∀ args w,(callFunc g args).run Tryz.prog w = .ok (.enter g args) w)(l:List Ck)(v:Value)(w:World)
 (hv:SlK ckL 9 w v l) (hp:PredBelow Tryz.prog g cb ckA p w) (hn:l.length<=1000000) (hR:idxI p l = -1) :
 Calls Tryz.prog 180 #[v,.func (.func g) #[] cb] w fun e w'=>e = .returned v/\Below w.heap.size w w':=by
 have CX:=Kb (idxs_is p g cb eg l v w hv hp hn (-1) hR);clear hv hp hR;go_enter Tryz.func180,Tryz.ntmps180;go_wp2_with (with_reducible refine CX.out.mono ?_;rintro x w1 ⟨rfl,hb1⟩)
 go_ret;exact ⟨rfl,hb1⟩
theorem store_gone (c:Ck)(a b cc d e f:ByteArray)(now:Int)(w:World)(jb B:Nat)(v:Value)(l:List Ck)(nx:Int)(hJ:JarIn w jb B v l nx)
 (hno:idxI (sameB c) l = -1) (hex:exB c now=true) (hl:l.length<1000) :
 Calls Tryz.prog 118 #[.pointer (some ⟨jb,0,none⟩),ckA c,urlA a b cc d e f,.int .i64 now] w fun x w'=>x = .returned (.int .i64 0)/\JarIn w' jb B v l nx/\RowBut w.heap.size jb v.ownBlock w w':=by
 obtain ⟨sa,sc,rfl,_⟩:=hJ.reads.shape;have C0:=AtL.new w (ckL c) 88;have C1:=C0.alloc (.cells (urlL a b cc d e f).toArray 37);have hB1:Below w.heap.size w ((w.alloc (.cells (ckL c).toArray 88)).alloc (.cells (urlL a b cc d e f).toArray 37)):=((Kc w).alloc lr _).alloc (by simp) _;have J1:=hJ.below hB1 lr;have hjk:w.heap.size≠jb:=fun h=>by have:=hJ.at_.1;omega
 have hBw:=hJ.le;have CS:=Kb (fun w=>same_is c w);have CX:=Kb (fun (w:World) (v:Value) (k:Nat) (hv:SlK ckL 9 w v l) (hA:AtL w k (ckL c))=>idxs_is (sameB c) 238 #[.pointer (some ⟨k,0,none⟩)] (enters_of Tryz.func238 (by kernel_rfl) rfl) l v w hv (same_pred c k w hA) (by omega) (-1) hno);have CD:=Kb (fun (w:World) (v:Value) (k:Nat) (hv:SlK ckL 9 w v l) (hA:AtL w k (ckL c))=>del_none (sameB c) 238 #[.pointer (some ⟨k,0,none⟩)] (enters_of Tryz.func238 (by kernel_rfl) rfl) l v w hv (same_pred c k w hA) (by omega) hno);have CE:=Kb (fun w=>expired_is c now true hex w);clear C0 hno hex hJ;go_enter Tryz.func118,Tryz.ntmps118;go_wp2_with fail;obtain ⟨wA,hwA⟩:∃ wA:World,(w.alloc (.cells (ckL c).toArray 88)).alloc (.cells (urlL a b cc d e f).toArray 37)=wA:=⟨_,rfl⟩
 have C2:AtL wA w.heap.size (ckL c):=by rw [<-hwA];exact C1
 have J2:JarIn wA jb B (.slice sa l.length sc) l nx:=by rw [<-hwA];exact J1
 have hB2:Below w.heap.size w wA:=by rw [<-hwA];exact hB1
 have hwz:w.heap.size+1<wA.heap.size:=by rw [<-hwA];simp
 clear C1 J1 hB1;obtain ⟨K,hK⟩:=Ka w.heap.size;rw [hK] at C2 hB2 hjk hwz hBw;rw [hwA,hK];clear hwA;have S1:=s10_start J2.at_ C2;have hjl:=J2.at_.1;have hkl:=C2.1
 go_region_held3 (fun w'=>w'.cell? ⟨jb,0,none⟩=some (.slice sa l.length sc)/\w'.cell? ⟨K,0,none⟩=some (.string c.n)/\w'.cell? ⟨K,1,none⟩=some (.string c.v)/\w'.cell? ⟨K,2,none⟩=some (.string c.d)/\w'.cell? ⟨K,3,none⟩=some (.string c.p)/\w'.cell? ⟨K,4,none⟩=some (.bool c.ho)/\w'.cell? ⟨K,5,none⟩=some (.bool c.se)/\w'.cell? ⟨K,6,none⟩=some (.bool c.hi)/\w'.cell? ⟨K,7,none⟩=some (.int .i64 c.ex)/\w'.cell? ⟨K,8,none⟩=some (.int .i64 c.cr)/\Below wA.heap.size wA w') (first | exact s10_next hjl hkl S1 (Kc wA).drew | (apply s10_next hjl hkl;rotate_left;assumption;assumption) | go_keep)
  (first
    | (with_reducible refine (CS.out _).mono ?_;rintro x w1 ⟨rfl,hb1,hA1⟩)
    | (with_reducible refine (CX.out _ (.slice sa l.length sc) wA.heap.size ((J2.reads.below ((Kc wA).drew.trans hb1) lr)) (atL_drewk hA1)).mono ?_;rintro x w2 ⟨rfl,hb2⟩))
 have hB3:Below wA.heap.size wA w2:=s10_below (by assumption);have J3:=J2.below hB3 lr;have C3:=C2.below hB3 hkl;have hB4:=hB2.trans (hB3.mono (by omega));have hjl3:=J3.at_.1;have hkl3:=C3.1;have z_:=C3.o9;have y_:=C3.of9;clear hb1 hb2 hA1;go_wp2_with (with_reducible refine (CE.out _).mono ?_;rintro x w3 ⟨rfl,hb3⟩;have J4:=J3.below hb3 lr;have C4:=C3.next hb3;have kl4:=C4.lt;have S4:=s2_start J4.at_ C4;have j0:=J4.at_.c 0 rfl;have i0:=J4.at_.f 0 rfl;have jl4:=J4.at_.lt)
 clear y_ z_ j0 i0
 go_region_held3 (fun w'=>w'.cell? ⟨jb,0,none⟩=some (.slice sa l.length sc)/\w'.cell? ⟨K,0,none⟩=some (.string c.n)/\w'.cell? ⟨K,1,none⟩=some (.string c.v)/\w'.cell? ⟨K,2,none⟩=some (.string c.d)/\w'.cell? ⟨K,3,none⟩=some (.string c.p)/\w'.cell? ⟨K,4,none⟩=some (.bool c.ho)/\w'.cell? ⟨K,5,none⟩=some (.bool c.se)/\w'.cell? ⟨K,6,none⟩=some (.bool c.hi)/\w'.cell? ⟨K,7,none⟩=some (.int .i64 c.ex)/\w'.cell? ⟨K,8,none⟩=some (.int .i64 c.cr)) (first | exact s2_drew S4 | (exact s2_below (s2_drew S4) (by assumption)) | (exact s2_below (s2_below (s2_drew S4) hb5) hb6) | (exact s2_set (c:=c) (s2_below (s2_below (s2_drew S4) hb5) hb6) (Ne.symm hjk)) | go_keep)
  (first
    | (with_reducible refine (CS.out _).mono ?_;rintro x w5 ⟨rfl,hb5,hA5⟩;have J5:=J4.below ((Kc w3).drew.trans hb5) lr)
    | (with_reducible refine (CD.out _ (.slice sa l.length sc) w3.heap.size J5.reads (atL_drewk hA5)).mono ?_;rintro x w6 ⟨rfl,hb6⟩;have J6:=J5.below hb6 lr;have j0:=J6.at_.c 0 rfl;have i0:=J6.at_.f 0 rfl;have jl6:=J6.at_.lt))
 go_wp2_with fail;go_ret;have h1:=((RowBut.refl K jb (Value.slice sa l.length sc).ownBlock w).below hB4 lr).below hb3 (Kl hkl3);have h2:=(h1.below ((Kc w3).drew.trans hb5) (Kl kl4)).below hb6 (Kl (Ko kl4 ((Kc w3).drew.trans hb5).size));exact ⟨rfl,⟨J6.at_.set 0 _,ownsRow_setCell_other (a:=⟨jb,0,none⟩) J6.own J6.ne _,J6.ne,by rw [World.size_setCell];exact J6.le⟩,(by rw [hK];exact h2.setCell ⟨jb,0,none⟩ (Or.inl rfl) _)⟩
theorem cparse_ex (s a b cc d e f:ByteArray)(now:Int)(T:Bool)(hT:takesB (u6 a b cc d e f)=T)(c:Ck)(er:Int)(hR:parseC s.data.toList T a b d now=(c,er))(w:World)(hs:s.size<=100000)(hz:USize 40000 a b cc d e f)(hM:MaxAt w):
 Calls Tryz.prog 117 #[.string s,urlA a b cc d e f,.int .i64 now] w fun x w'=>x = .returned (.tuple #[ckA c,.int .i64 er])/\Below w.heap.size w w':=cparse_is s a b cc d e f now T hT (c,er) hR w hs hz hM
theorem set_err (s a b cc d e f:ByteArray)(now:Int)(T:Bool)(hT:takesB (u6 a b cc d e f)=T)(c:Ck)(er:Int)(hR:parseC s.data.toList T a b d now=(c,er))(hne:er≠0)(w:World)(hs:s.size<=100000)(hz:USize 40000 a b cc d e f)(hM:MaxAt w)(jb:Nat):
 Calls Tryz.prog 72 #[.pointer (some ⟨jb,0,none⟩),.string s,urlA a b cc d e f,.int .i64 now] w fun x w'=>x = .returned (.int .i64 er)/\Below w.heap.size w w':=by
 have CP:=Kb (fun w hM=>cparse_ex s a b cc d e f now T hT c er hR w hs hz hM);have HM:=Kb hM;obtain ⟨n,v,dd,p,ho,se,hi,ex,cr⟩:=c;clear hR hT hs hz hM;go_enter Tryz.func72,Tryz.ntmps72;go_wp2_with (with_reducible refine (CP.out _ (HM.out.below ((Kc w).alloc lr _) lr)).mono ?_;rintro x w1 ⟨rfl,hb1⟩)
 go_ret;exact ⟨rfl,((((Kc w).alloc lr _).trans (hb1.mono (by simp))).alloc (by have:=hb1.size;simp at this;omega) _)⟩
theorem set_ok (s a b cc d e f:ByteArray)(now:Int)(T:Bool)(hT:takesB (u6 a b cc d e f)=T)(c:Ck)(hR:parseC s.data.toList T a b d now=(c,0))(w:World)(hs:s.size<=100000)(hz:USize 40000 a b cc d e f)(hM:MaxAt w)(jb:Nat)
 (er:Int) (Q:World->Prop)
 (hst:∀ w',Below w.heap.size w w'->Calls Tryz.prog 118 #[.pointer (some ⟨jb,0,none⟩),ckA c,urlA a b cc d e f,.int .i64 now] w' fun x w''=>x = .returned (.int .i64 er)/\Q w'') :
 Calls Tryz.prog 72 #[.pointer (some ⟨jb,0,none⟩),.string s,urlA a b cc d e f,.int .i64 now] w fun x w'=>x = .returned (.int .i64 er)/\Q w':=by
 have CP:=Kb (fun w hM=>cparse_ex s a b cc d e f now T hT c 0 hR w hs hz hM);have HM:=Kb hM;have ST:=Kb hst;have U0:=AtL.new w (urlL a b cc d e f) 37;have hb0:Below w.heap.size w (w.alloc (.cells (urlL a b cc d e f).toArray 37)):=(Kc w).alloc lr _;obtain ⟨n,v,dd,p,ho,se,hi,ex,cr⟩:=c;clear hR hT hs hz hM hst;go_enter Tryz.func72,Tryz.ntmps72
 go_wp2_with (first
  | (with_reducible refine (CP.out _ (HM.out.below hb0 lr)).mono ?_;rintro x w1 ⟨rfl,hb1⟩;have U1:=(U0.next hb1).alloc (.cells (ckL ⟨n,v,dd,p,ho,se,hi,ex,cr⟩).toArray 88);have hb2:=(hb0.trans (hb1.mono (by simp))).alloc (Kl (U0.next hb1).lt) (.cells (ckL ⟨n,v,dd,p,ho,se,hi,ex,cr⟩).toArray 88);have z_:=U1.o6)
  | (with_reducible refine (ST.out _ hb2).mono ?_;rintro x w2 ⟨rfl,hq⟩))
 go_ret;exact ⟨rfl,hq⟩
def SortTo (hits out:List Ck):Prop:=∀ (W:World) (B:Nat) (v:Value),W.ownsRow B 88 9 v hits.length (cellsK ckL hits)->B<=W.heap.size ->
 Calls Tryz.prog 86 #[v,.func (.func 87) #[] #[]] W fun x W'=>x = .returned (.tuple #[])/\W'.ownsRow B 88 9 v out.length (cellsK ckL out)/\Below B W W'
theorem SortTo.run {hits out:List Ck}(h:SortTo hits out){W:World}{B:Nat}{v:Value}(hown:W.ownsRow B 88 9 v hits.length (cellsK ckL hits))(hB:B<=W.heap.size):
 Calls Tryz.prog 86 #[v,.func (.func 87) #[] #[]] W fun x W'=>x = .returned (.tuple #[])/\W'.ownsRow B 88 9 v out.length (cellsK ckL out)/\Below B W W':=h W B v hown hB
theorem ins_short (a:Option Addr)(n cap:Nat)(h:n<=1)(W:World):Calls Tryz.prog 201 #[.slice a n cap,.int .i64 0,.int .i64 n,.func (.func 87) #[] #[]] W fun x W'=>x = .returned (.tuple #[])/\W'=W:=by go_enter Tryz.func201,Tryz.ntmps201;go_wp2_with fail;refine wp_loop_rounds 1 ?_;rw [rounds_succ];go_wp2_with fail;go_end0;exact ⟨rfl,rfl⟩
theorem sort_short (hits:List Ck)(h:hits.length<=1):SortTo hits hits:=by
 intro W B v hown hB;have hO:=Kb hown;obtain ⟨a,cap,rfl,hc,hm,_⟩:=own_reads hown;clear hown;obtain ⟨n,hn⟩:=Ka hits.length;rw [hn] at hO hc h;rw [hn];have CI:∀ W:World,Calls Tryz.prog 136 #[.slice a n cap,.int .i64 n,.func (.func 87) #[] #[]] W fun x W'=>x = .returned (.tuple #[])/\W'=W:=by
  intro W;have CJ:=Kb (ins_short a n cap h);go_enter Tryz.func136,Tryz.ntmps136;go_wp2_with fail;refine wp_loop_rounds 1 ?_;rw [rounds_succ];go_wp2_with (with_reducible refine (CJ.out _).mono ?_;rintro x w1 ⟨rfl,rfl⟩)
  refine wp_loop_rounds 1 ?_;rw [rounds_succ];go_wp2_with fail;go_end0;exact ⟨rfl,rfl⟩
 have CII:=Kb CI;clear CI;go_enter Tryz.func86,Tryz.ntmps86;go_wp2_with (with_reducible refine (CII.out _).mono ?_;rintro x w1 ⟨rfl,rfl⟩)
 go_end0;exact ⟨rfl,hO.out,Kc _⟩
theorem N14{p:Prop}(h:p:=by
 go_wp2_with (first
  |
   (with_reducible refine (CE.out _).mono ?_;rintro x w3 ⟨rfl,hb3⟩;have hB3:=hB2.trans (hb3.mono hz2);have ho3:=own_below ho2 hb3 lr;have C3:=C2.next hb3;have U3:=U2.next hb3;have z_:=C3.o9;have u_:=U3.o6;have hk3:=C3.lt;have hu3:=U3.lt;have hz3:=hB3.size)
   | (with_reducible refine (CPa.out _).mono ?_;rintro x w4 ⟨rfl,rfl⟩)
   | (refine app2 slC _ (by rfl) (.tmp 60) (.tmp 62) (by rfl) w1.heap.size _ _ _ (by rfl) ho3 [_,_,_,_,_,_,_,_,_] 1 _ (by rfl) rfl (by rfl) (by intro u hu;simp at hu;rcases hu with rfl | rfl | rfl | rfl | rfl | rfl | rfl | rfl | rfl <;> rfl) (by decide) (by omega) (by omega) hz3 ?_;intro v2 w5 hA2 gA fA;have hB9:=below_own hB3 ho3 gA hz3 lr)
  )
 go_roundw;case rel=>exact ⟨kk+1,(l.take (kk+1)).filter pr,by omega,by go_num,own_eq hA2 (by rw [HS.out,<-HP.out];simp) (by rw [HS.out,<-HP.out,cellsK_app];rfl),rfl,hB9⟩
 case measure=>simp [intOf];omega
 ):p:=h
theorem N18{p:Prop}(h:p:=by
 go_wp2_with (first
  |
   (with_reducible refine (CE.out _).mono ?_;rintro x w3 ⟨rfl,hb3⟩;have hB3:=hB2.trans (hb3.mono hz2);have ho3:=own_below ho2 hb3 lr;have C3:=C2.next hb3;have U3:=U2.next hb3;have z_:=C3.o9;have u_:=U3.o6;have hk3:=C3.lt;have hu3:=U3.lt;have hz3:=hB3.size)
   | (with_reducible refine (CPa.out _).mono ?_;rintro x w4 ⟨rfl,rfl⟩)
  )
 have hown9:=ho3;have hB9:=hB3;go_roundw;case rel=>exact ⟨kk+1,ps,by omega,by go_num,hown9,by rw [HS.out,HP.out];simp,hB9⟩
 case measure=>simp [intOf];omega
 ):p:=h
theorem N49{p:Prop}(h:p:=by
 have HS:=Kb (hTK false (by rw [hBB];rfl));clear hTK hBB
 go_wp2_with
  (with_reducible refine (CE.out _).mono ?_;rintro x w3 ⟨rfl,hb3⟩;have hB3:=hB2.trans (hb3.mono hz2);have ho3:=own_below ho2 hb3 lr;have C3:=C2.next hb3;have U3:=U2.next hb3;have z_:=C3.o9;have u_:=U3.o6;have hk3:=C3.lt;have hu3:=U3.lt;have hz3:=hB3.size)
 have hown9:=ho3;have hB9:=hB3;go_roundw;case rel=>exact ⟨kk+1,ps,by omega,by go_num,hown9,by rw [HS.out,HP.out];simp,hB9⟩
 case measure=>simp [intOf];omega
 ):p:=h
theorem M10{p:Prop}(h:p:=by
 cases Pp
 ·have HS:=Kb (hTK false (by rw [hBB];rfl));clear hTK hBB
  exact N18
 ·cases yse
  ·have HS:=Kb (hTK true (by rw [hBB];rfl));clear hTK hBB
   exact N14
  ·by_cases hsc:a.toList=httpsL
   ·have HS:=Kb (hTK true (by rw [hBB,hsc];rfl));have hs2:a.toList=[104,116,116,112,115]:=hsc;clear hTK hBB hsc
    exact N14
   ·have HS:=Kb (hTK false (by rw [hBB,Ki.2 hsc];rfl));have hs2:¬ a.toList=[104,116,116,112,115]:=hsc;have hs3:(a.toList == [104,116,116,112,115])=false:=Ki.2 hs2;clear hTK hBB hsc
    exact N18
 ):p:=h
theorem match_yes (a b cc d e f:ByteArray)(now:Int)(hT:takesB (u6 a b cc d e f)=true)(l:List Ck){xs:List Value}(v nx:Value)(jb:Nat)(w:World)(hz:USize 40000 a b cc d e f)(hM:MaxAt w)(hv:SlK ckL 9 w v l)(hJ:AtL w jb (v :: nx :: xs))
 (hl:l.length<=1000) (hsz:∀ c∈l,c.d.size<=100000/\c.p.size<=100000) (hits out:List Ck) (hh:l.filter (hitB a b d now)=hits) (hS:SortTo hits out) :
 Calls Tryz.prog 39 #[.pointer (some ⟨jb,0,none⟩),urlA a b cc d e f,.int .i64 now] w fun x w'=>∃ v',x = .returned v'/\w'.ownsRow w.heap.size 88 9 v' out.length (cellsK ckL out)/\Below w.heap.size w w':=by
 have CT:=Kb (fun w hM=>takes_is a b cc d e f true hT w hz hM);have U0:=AtL.new w (urlL a b cc d e f) 37;have hb0:Below w.heap.size w (w.alloc (.cells (urlL a b cc d e f).toArray 37)):=(Kc w).alloc lr _;have hM0:=hM.below hb0 lr;have J0:=hJ.below hb0 hJ.1;have hv0:=hv.below hb0 lr;obtain ⟨sa,sc,rfl,_⟩:=hv.shape;have HZ:=Kb hsz;obtain ⟨pr,hpr⟩:=Ka (hitB a b d now);rw [hpr] at hh;have HPR:=Kb hpr;have HH:=Kb hh;have HS:=Kb hS;have hza:=hz.a;have hzb:=hz.b;have hzd:=hz.d;clear hT hz hM hsz hh hpr hS hv hJ;go_enter Tryz.func39,Tryz.ntmps39;go_wp2_with (with_reducible refine (CT.out _ hM0).mono ?_;rintro x w1 ⟨rfl,hb1⟩;have U1:=U0.next hb1;have J1:=J0.next hb1;have hv1:=hv0.below hb1 lr;have hB1:=hb0.trans (hb1.mono (by simp));have j0:=J1.c 0 rfl)
 obtain ⟨U,hU⟩:=Ka w.heap.size;rw [hU] at U1;rw [hU];have HU:=Kb hU;clear hU hM0 U0 J0 hv0 hb0 hb1 j0;have hul:=U1.lt;go_loopw [7,19] (fun pv iv wr=>∃ (k:Nat) (ps:List Ck),k<=l.length/\iv = .int .i64 k/\wr.ownsRow w1.heap.size 88 9 pv ps.length (cellsK ckL ps)/\ps=(l.take k).filter pr/\Below w1.heap.size w1 wr) (fun _ iv _=>l.length - (intOf iv).toNat);case atStart=>exact ⟨0,[],Kh _,rfl,World.ownsRow_nil _ _ _ _,rfl,Kc _⟩
 case round=>
  obtain ⟨kk,ps,hk,rfl,hown,hps,hbw⟩:=hrel;have hwz:=hbw.size;have HP:=Kb hps;have hpl:ps.length<=kk:=by rw [hps];exact Kg (Zj _ _) (by simp;omega)
  clear hps;by_cases hlt:kk<l.length
  ·rcases hv1 with ⟨rfl,_⟩ | ⟨_,b0,off,cap,he,hc1,hc2,hc3,hcell⟩
   ·simp at hlt
   injection he with e1 e2 e3;subst e1 e3;have cc:∀ j u,(ckL l[kk])[j]? = some u->wr.cell? ⟨b0,off+kk * 9+j,none⟩=some u:=fun j u hu=>(hbw.cell (p:=⟨b0,off+kk * 9+j,none⟩) hc3).trans (hcell kk hlt j u hu);have hsz:=HZ.out _ (Ky hlt);obtain ⟨y,hy⟩:=Ka (l[kk]);rw [hy] at cc hsz;have hTK:=take_hit pr l kk hlt y hy;clear hcell hy;obtain ⟨yn,yv,yd,yp,yho,yse,yhi,yex,ycr⟩:=y;have hsd:yd.size<=100000:=hsz.1;have hsp:yp.size<=100000:=hsz.2;clear hsz;have c0:=cc 0 _ rfl;have c1:=cc 1 _ rfl;have c2:=cc 2 _ rfl;have c3:=cc 3 _ rfl;have c4:=cc 4 _ rfl;have c5:=cc 5 _ rfl;have c6:=cc 6 _ rfl;have c7:=cc 7 _ rfl;have c8:=cc 8 _ rfl;simp only [Ku] at c0;clear cc;obtain ⟨E,hE⟩:=Ka (exB ⟨yn,yv,yd,yp,yho,yse,yhi,yex,ycr⟩ now);obtain ⟨D,hD⟩:=Ka (domL b.data.toList yd.data.toList);obtain ⟨Pp,hPp⟩:=Ka (pathL d.data.toList yp.data.toList);have CE:=Kb (fun w=>expired_is ⟨yn,yv,yd,yp,yho,yse,yhi,yex,ycr⟩ now E hE w);have cDm:=fun w=>dom_any b yd w (by omega) (by omega);have cPa:=fun w=>path_any d yp w (by omega) (by omega);have hBB:pr ⟨yn,yv,yd,yp,yho,yse,yhi,yex,ycr⟩=((if yho then yd.toList == b.toList else D) && !E && Pp && (!yse || a.toList == httpsL)):=by rw [<-HPR.out];unfold hitB;rw [hE];simp only [hD,hPp]
   rw [hD] at cDm;rw [hPp] at cPa;have CDm:=Kb cDm;have CPa:=Kb cPa;have CA:=AtL.new wr (ckL ⟨yn,yv,yd,yp,yho,yse,yhi,yex,ycr⟩) 88;have UA:=(U1.below hbw hul).alloc (.cells (ckL ⟨yn,yv,yd,yp,yho,yse,yhi,yex,ycr⟩).toArray 88);have hBa:=hbw.alloc hwz (.cells (ckL ⟨yn,yv,yd,yp,yho,yse,yhi,yex,ycr⟩).toArray 88);have hoa:=hown.alloc (.cells (ckL ⟨yn,yv,yd,yp,yho,yse,yhi,yex,ycr⟩).toArray 88);have v0:=UA.c 0 rfl;have v1:=UA.c 1 rfl;have v2:=UA.c 2 rfl;have v3:=UA.c 3 rfl;have v4:=UA.c 4 rfl;have v5:=UA.c 5 rfl;have hua:=UA.lt;have hki:(kk:Int)<(l.length:Int):=by omega
   clear hE hD hPp cDm cPa;cases yho
   ·cases D
    ·have HS:=Kb (hTK false (by rw [hBB];rfl));clear hTK hBB;go_wp2_with (with_reducible refine (CDm.out _).mono ?_;rintro x w2 ⟨rfl,hb2⟩;have hB9:=Kd hBa hb2;have hown9:=own_below hoa hb2 lr;have C2:=CA.next hb2;have U2:=UA.next hb2;have z_:=C2.o9;have u_:=U2.o6;have hk3:=C2.lt;have hu3:=U2.lt)
     go_roundw;case rel=>exact ⟨kk+1,ps,by omega,by go_num,hown9,by rw [HS.out,HP.out];simp,hB9⟩
     case measure=>simp [intOf];omega
    ·have hBB:=hBB;go_wp2_with (with_reducible refine (CDm.out _).mono ?_;rintro x w2 ⟨rfl,hb2⟩;have hB2:=Kd hBa hb2;have ho2:=own_below hoa hb2 lr;have C2:=CA.next hb2;have U2:=UA.next hb2;have y_:=C2.o9;have t_:=U2.o6;have hk2:=C2.lt;have hu2:=U2.lt)
     clear y_ t_;have y_:=C2.o9;have t_:=U2.o6;have hk2:=C2.lt;have hu2:=U2.lt;have hz2:=hB2.size;cases E
     ·exact M10
     ·exact N49
   ·by_cases hd:yd.toList=b.toList
    ·obtain rfl:yd=b:=ba_ext' (by rw [<-Kt,<-Kt];exact hd);have hBB:pr ⟨yn,yv,yd,yp,true,yse,yhi,yex,ycr⟩=((true:Bool) && !E && Pp && (!yse || a.toList == httpsL)):=by rw [hBB,Kf rfl,beq_self_eq_true]
     have C2:=CA;have U2:=UA;have ho2:=hoa;have hB2:=hBa;clear hd CA UA hoa hBa v0 v1 v2 v3 v4 v5;have y_:=C2.o9;have t_:=U2.o6;have hk2:=C2.lt;have hu2:=U2.lt;have hz2:=hB2.size;cases E
     ·exact M10
     ·exact N49
    ·have hd2:(yd.toList == b.toList)=false:=Ki.2 hd;have HS:=Kb (hTK false (by rw [hBB,Kf rfl,hd2];rfl));clear hTK hBB;go_wp2_with fail;have hown9:=hoa;have hB9:=hBa;go_roundw;case rel=>exact ⟨kk+1,ps,by omega,by go_num,hown9,by rw [HS.out,HP.out];simp,hB9⟩
     case measure=>simp [intOf];omega
  ·obtain rfl:kk=l.length:=by omega
   have hps:ps=hits:=by rw [HP.out,Jq];exact HH.out
   clear HP;subst hps;go_wp2_with (with_reducible refine (HS.out.run hown hwz).mono ?_;rintro x w2 ⟨rfl,hown2,hb2⟩)
   go_ret;obtain rfl:=HU.out;exact ⟨_,rfl,own_mono hown2 (Kl hul),hB1.trans ((hbw.trans hb2).mono (Kl hul))⟩
def joinL (l:List Ck):List UInt8:=Lib.join (l.map pairT) [59,32]
theorem joinT_bd (N:Nat):∀ xs:List (List UInt8),(∀ x∈xs,x.length<=N)->(Lib.join xs [59,32]).length<=xs.length * (N+2):=by
 intro xs
 induction xs with
 | nil=>intro _;simp [Lib.join]
 | cons x r ih=>
   intro h
   cases r with
   | nil=>rw [Lib.join_one];have:=h x (by simp);simp;omega
   | cons y r=>
     have e:Lib.join (x :: y :: r) [59,32]=x ++ 59 :: 32 :: Lib.join (y :: r) [59,32]:=by simp [Lib.join,List.intercalate]
     have h1:=h x (by simp)
     have h2:=ih (fun z hz=>h z (Jg _ hz))
     have hl:(x :: y :: r).length=(y :: r).length+1:=rfl
     rw [e,Kw,Kv,Kv,hl,Nat.add_mul]
     omega
theorem join_is (l:List Ck)(v:Value)(w:World)(hv:SlK ckL 9 w v l)(hl:l.length<=1000)(hsz:∀ c∈l,c.n.size<=100000/\c.v.size<=100000)(R:ByteArray)(hR:R.data.toList=joinL l):
 Calls Tryz.prog 38 #[v] w fun x w'=>x = .returned (.string R)/\Below w.heap.size w w':=by
 have HR:=Kb hR;have HZ:=Kb hsz;have hv1:=hv;obtain ⟨sa,sc,rfl,_⟩:=hv.shape;clear hR hsz hv;go_enter Tryz.func38,Tryz.ntmps38;go_wp2_with fail;go_loopw [3,8] (fun pv iv wr=>∃ (k:Nat) (ps:List ByteArray),k<=l.length/\iv = .int .i64 k/\wr.ownsRow w.heap.size 9 1 pv ps.length (strsV ps)/\lists ps=(l.take k).map pairT/\ps.length=k/\Below w.heap.size w wr) (fun _ iv _=>l.length - (intOf iv).toNat);case atStart=>exact ⟨0,[],Kh _,rfl,World.ownsRow_nil _ _ _ _,rfl,rfl,Kc _⟩
 case round=>
  obtain ⟨kk,ps,hk,rfl,hown,hps,hpl,hbw⟩:=hrel;have hwz:=hbw.size;have HP:=Kb hps;clear hps;by_cases hlt:kk<l.length
  ·rcases hv1 with ⟨rfl,_⟩ | ⟨_,b0,off,cap,he,hc1,hc2,hc3,hcell⟩
   ·simp at hlt
   injection he with e1 e2 e3;subst e1 e3;have cc:∀ j u,(ckL l[kk])[j]? = some u->wr.cell? ⟨b0,off+kk * 9+j,none⟩=some u:=fun j u hu=>(hbw.cell (p:=⟨b0,off+kk * 9+j,none⟩) hc3).trans (hcell kk hlt j u hu);have hsz:=HZ.out _ (Ky hlt);have hts:(l.take (kk+1)).map pairT=(l.take kk).map pairT ++ [pairT l[kk]]:=by rw [Jf hlt,Zi];rfl
   obtain ⟨y,hy⟩:=Ka (l[kk]);rw [hy] at cc hsz hts;clear hcell hy;obtain ⟨yn,yv,yd,yp,yho,yse,yhi,yex,ycr⟩:=y;have hsn:yn.size<=100000:=hsz.1;have hsv:yv.size<=100000:=hsz.2;have HS:=Kb hts;have c0:=cc 0 _ rfl;have c1:=cc 1 _ rfl;have c2:=cc 2 _ rfl;have c3:=cc 3 _ rfl;have c4:=cc 4 _ rfl;have c5:=cc 5 _ rfl;have c6:=cc 6 _ rfl;have c7:=cc 7 _ rfl;have c8:=cc 8 _ rfl;simp only [Ku] at c0;clear cc hsz hts;have hki:(kk:Int)<(l.length:Int):=by omega
   have o1:¬ 9223372036854775807<yn.size+1:=by omega
   have o2:¬ 9223372036854775807<yn.size+1+yv.size:=by omega
   have hBa:=hbw.alloc hwz (.cells (ckL ⟨yn,yv,yd,yp,yho,yse,yhi,yex,ycr⟩).toArray 88);have hoa:=hown.alloc (.cells (ckL ⟨yn,yv,yd,yp,yho,yse,yhi,yex,ycr⟩).toArray 88);have hza:=hBa.size;go_wp2_with (refine app2 slS2 _ (by rfl) (.tmp 12) (.tmp 19) (by rfl) w.heap.size _ _ _ (by rfl) hoa [_] 1 _ (by rfl) (by simp) (by rfl) (by intro u hu;simp at hu;subst hu;rfl) (by decide) (by omega) (by omega) hza ?_;intro v2 w8 hA2 gA fA;have hB8:=below_own hBa hoa gA hza lr)
   go_roundw;case rel=>exact ⟨kk+1,ps ++ [yn ++ ⟨#[61]⟩ ++ yv],by omega,by go_num,by simpa [strsV] using hA2,by rw [HS.out,<-HP.out];simp [lists,pairT,app_list],by simp [hpl],hB8⟩
   case measure=>simp [intOf];omega
  ·obtain rfl:kk=l.length:=by omega
   have hq:Lib.join (lists ps) [59,32]=R.data.toList:=by rw [HP.out,HR.out,joinL,Jq]
   have hjb:(Lib.join (lists ps) [59,32]).length<=140737488355328:=by
    have:=joinT_bd 200001 (lists ps) (fun z hz=>by rw [HP.out,Jq] at hz;obtain ⟨c,hc,rfl⟩:=List.mem_map.1 hz;have:=HZ.out c hc;rw [<-size_len,<-size_len] at this;unfold pairT;rw [Kw,Kv];omega);have hl:(lists ps).length=ps.length:=by simp [lists]
    omega
   obtain ⟨ad,cp,hpv,hcp,hcm,had⟩:=own_reads hown;subst hpv;have hpl2:ps.length<=1000:=by omega
   clear hpl;rcases had with ⟨rfl,h0⟩ | ⟨g,rfl,hg,hgw,hcell⟩
   ·have hE:ps=[]:=Ja h0;subst hE;have hRn:R=⟨#[]⟩:=ba_ext' (by rw [<-hq];rfl);subst hRn;clear hq hjb h0;go_wp2_with (with_reducible refine (Tryz.strings_Join_none _ _ _ _).mono ?_;rintro e w' ⟨rfl,rfl⟩)
    go_ret;exact ⟨rfl,hbw⟩
   ·have cJ:Calls Tryz.prog 81 #[.slice (some ⟨g,0,none⟩) ps.length cp,.string ⟨#[59,32]⟩] wr fun e w'=>e = .returned (.string R)/\Below wr.heap.size wr w':=by refine (Tryz.strings_Join g 0 cp ps ⟨#[59,32]⟩ wr (fun j x hj=>by rw [Jm];exact hcell j (.string x) (by simp [strsV,hj])) hgw (by omega) hcp hjb).mono ?_;rintro e w' ⟨rfl,hb⟩;refine ⟨?_,hb⟩;congr 2;exact ba_ext' hq
    have CJ:=Kb cJ;clear cJ hq hjb hcell;go_wp2_with (with_reducible refine CJ.out.mono ?_;rintro e w1 ⟨rfl,hb1⟩)
    go_ret;exact ⟨rfl,hbw.trans (hb1.mono hwz)⟩
theorem header_of (a b cc d e f:ByteArray)(now:Int)(w:World)(jb:Nat)(out:List Ck)(hl:out.length<=1000)(hsz:∀ c∈out,c.n.size<=100000/\c.v.size<=100000)(R:ByteArray)(hR:R.data.toList=joinL out)
 (hm:∀ w',Below w.heap.size w w'->Calls Tryz.prog 39 #[.pointer (some ⟨jb,0,none⟩),urlA a b cc d e f,.int .i64 now] w' fun x w''=>∃ v',x = .returned v'/\w''.ownsRow w'.heap.size 88 9 v' out.length (cellsK ckL out)/\Below w'.heap.size w' w'') :
 Calls Tryz.prog 14 #[.pointer (some ⟨jb,0,none⟩),urlA a b cc d e f,.int .i64 now] w fun x w'=>x = .returned (.string R)/\Below w.heap.size w w':=by
 have CM:=Kb hm;have CJ:=Kb (fun v w hv=>join_is out v w hv hl hsz R hR);have hb0:Below w.heap.size w (w.alloc (.cells (urlL a b cc d e f).toArray 37)):=(Kc w).alloc lr _;clear hm hsz hR;go_enter Tryz.func14,Tryz.ntmps14
 go_wp2_with (first
  | (with_reducible refine (CM.out _ hb0).mono ?_;rintro x w1 ⟨v',rfl,hown,hb1⟩;have hv:=SlK.of_own ckL_len hown;have hb2:=Kd hb0 hb1)
  | (with_reducible refine (CJ.out _ _ hv).mono ?_;rintro x w2 ⟨rfl,hb3⟩))
 go_ret;exact ⟨rfl,Kd hb2 hb3⟩
theorem match_no (a b cc d e f:ByteArray)(now:Int)(hT:takesB (u6 a b cc d e f)=false)(jb:Nat)(w:World)(hz:USize 40000 a b cc d e f)(hM:MaxAt w):
 Calls Tryz.prog 39 #[.pointer (some ⟨jb,0,none⟩),urlA a b cc d e f,.int .i64 now] w fun x w'=>x = .returned (.slice none 0 0)/\Below w.heap.size w w':=by
 have CT:=Kb (fun w hM=>takes_is a b cc d e f false hT w hz hM);have hb0:Below w.heap.size w (w.alloc (.cells (urlL a b cc d e f).toArray 37)):=(Kc w).alloc lr _;have hM0:=hM.below hb0 lr;clear hT hz hM;go_enter Tryz.func39,Tryz.ntmps39;go_wp2_with (with_reducible refine (CT.out _ hM0).mono ?_;rintro x w1 ⟨rfl,hb1⟩;have hB1:=hb0.trans (hb1.mono (by simp)))
 go_ret;exact ⟨rfl,hB1⟩
theorem header_yes (a b cc d e f:ByteArray)(now:Int)(hT:takesB (u6 a b cc d e f)=true)(l:List Ck){xs:List Value}(v nx:Value)(jb:Nat)(w:World)(hz:USize 40000 a b cc d e f)(hM:MaxAt w)(hv:SlK ckL 9 w v l)(hJ:AtL w jb (v :: nx :: xs))
 (hl:l.length<=1000) (hsz:∀ c∈l,c.d.size<=100000/\c.p.size<=100000) (hits out:List Ck) (hh:l.filter (hitB a b d now)=hits) (hS:SortTo hits out)
 (hol:out.length<=1000) (hos:∀ c∈out,c.n.size<=100000/\c.v.size<=100000) (R:ByteArray) (hR:R.data.toList=joinL out) :
 Calls Tryz.prog 14 #[.pointer (some ⟨jb,0,none⟩),urlA a b cc d e f,.int .i64 now] w fun x w'=>x = .returned (.string R)/\Below w.heap.size w w':=
 header_of a b cc d e f now w jb out hol hos R hR fun w' hb=>match_yes a b cc d e f now hT l v nx jb w' hz (hM.below hb lr) (hv.below hb lr) (hJ.below hb hJ.1) hl hsz hits out hh hS
theorem header_no (a b cc d e f:ByteArray)(now:Int)(hT:takesB (u6 a b cc d e f)=false)(jb:Nat)(w:World)(hz:USize 40000 a b cc d e f)(hM:MaxAt w):
 Calls Tryz.prog 14 #[.pointer (some ⟨jb,0,none⟩),urlA a b cc d e f,.int .i64 now] w fun x w'=>x = .returned (.string ⟨#[]⟩)/\Below w.heap.size w w':=
 header_of a b cc d e f now w jb [] (by decide) (by simp) ⟨#[]⟩ rfl fun w' hb=>(match_no a b cc d e f now hT jb w' hz (hM.below hb lr)).mono fun x w'' h=>⟨_,h.1,World.ownsRow_nil _ _ _ _,h.2⟩
theorem M24{p:Prop}(h:p:=by
 go_wp2_with fail;go_quiet (fail);go_wp2_with fail;go_roundw;case rel=>exact ⟨kk+1,by omega,by go_num,below_drewN hbw _⟩
 case measure=>simp [intOf];omega
 ):p:=h
theorem same_true (l:List Ck)(v v2:Value)(nx:Int)(w:World)(hv:SlK ckL 9 w v l)(hv2:SlK ckL 9 w v2 l)(hl:l.length<=1000000):
 Calls Tryz.prog 16 #[.agg #[v,.int .i64 nx],.agg #[v2,.int .i64 nx]] w fun x w'=>x = .returned (.bool true)/\Below w.heap.size w w':=by
 have hb0:Below w.heap.size w ((w.alloc (.cells #[v,.int .i64 nx] 50)).alloc (.cells #[v2,.int .i64 nx] 50)):=((Kc w).alloc lr _).alloc (by simp) _;have J0:=(AtL.new w [v,.int .i64 nx] 50).alloc (.cells #[v2,.int .i64 nx] 50);have I0:=AtL.new (w.alloc (.cells #[v,.int .i64 nx] 50)) [v2,.int .i64 nx] 50;rw [show (w.alloc (.cells #[v,.int .i64 nx] 50)).heap.size=w.heap.size+1 by simp] at I0;have hv1:=hv.below hb0 lr;have hv3:=hv2.below hb0 lr;obtain ⟨sa,sc,rfl,_⟩:=hv.shape;obtain ⟨sb,sd,rfl,_⟩:=hv2.shape;clear hv hv2;go_enter Tryz.func16,Tryz.ntmps16;go_wp2_with fail;obtain ⟨w1,hw1⟩:∃ w1:World,(w.alloc (.cells #[.slice sa l.length sc,.int .i64 nx] 50)).alloc (.cells #[.slice sb l.length sd,.int .i64 nx] 50)=w1:=⟨_,rfl⟩
 obtain ⟨I,hI⟩:=Ka (w.heap.size+1);obtain ⟨J,hJ⟩:=Ka w.heap.size;rw [hw1] at hb0 J0 I0 hv1 hv3;rw [hI] at I0;rw [hJ] at J0;rw [hw1,hI,hJ];have HJ:=Kb hJ;clear hw1 hI hJ;have HCC:∀ (hlt:0<l.length),∃ b0 off b2 off2:Nat,sa=some ⟨b0,off,none⟩/\sb=some ⟨b2,off2,none⟩/\∀ kk (h:kk<l.length) j u,(ckL l[kk])[j]? = some u->w1.cell? ⟨b0,off+kk * 9+j,none⟩=some u/\w1.cell? ⟨b2,off2+kk * 9+j,none⟩=some u:=by
  intro hlt;rcases hv1 with ⟨rfl,_⟩ | ⟨_,b0,off,cap,he,hc1,hc2,hc3,hcell⟩
  ·simp at hlt
  rcases hv3 with ⟨rfl,_⟩ | ⟨_,b2,off2,cap2,he2,hd1,hd2,hd3,hcell2⟩
  ·simp at hlt
  injection he with e1 e2 e3;injection he2 with f1 f2 f3;exact ⟨b0,off,b2,off2,e1,f1,fun kk h j u hu=>⟨hcell kk h j u hu,hcell2 kk h j u hu⟩⟩
 have HC:=Kb HCC;clear HCC hv1 hv3;go_loopw [5] (fun iv wr=>∃ k:Nat,k<=l.length/\iv = .int .i64 k/\Below w1.heap.size w1 wr) (fun iv _=>l.length - (intOf iv).toNat);case atStart=>exact ⟨0,Kh _,rfl,Kc _⟩
 case round=>
  obtain ⟨kk,hk,rfl,hbw⟩:=hrel;have J2:=J0.below hbw J0.lt;have I2:=I0.below hbw I0.lt;have j0:=J2.c 0 rfl;have j1:=J2.c 1 rfl;have i0:=I2.c 0 rfl;have i1:=I2.c 1 rfl;have hjl:=J2.lt;have hil:=I2.lt;by_cases hlt:kk<l.length
  ·obtain ⟨b0,off,b2,off2,rfl,rfl,hcell⟩:=HC.out (by omega);have cc:∀ j u,(ckL l[kk])[j]? = some u->wr.cell? ⟨b0,off+kk * 9+j,none⟩=some u:=fun j u hu=>(brl hbw _ _ (cell_lt (hcell kk hlt j u hu).1)).trans (hcell kk hlt j u hu).1;have dd:∀ j u,(ckL l[kk])[j]? = some u->wr.cell? ⟨b2,off2+kk * 9+j,none⟩=some u:=fun j u hu=>(brl hbw _ _ (cell_lt (hcell kk hlt j u hu).2)).trans (hcell kk hlt j u hu).2;obtain ⟨y,hy⟩:=Ka (l[kk]);rw [hy] at cc dd;clear hy hcell;obtain ⟨yn,yv,yd,yp,yho,yse,yhi,yex,ycr⟩:=y;have c0:=cc 0 _ rfl;have c1:=cc 1 _ rfl;have c2:=cc 2 _ rfl;have c3:=cc 3 _ rfl;have c4:=cc 4 _ rfl;have c5:=cc 5 _ rfl;have c6:=cc 6 _ rfl;have c7:=cc 7 _ rfl;have c8:=cc 8 _ rfl;have d0:=dd 0 _ rfl;have d1:=dd 1 _ rfl;have d2:=dd 2 _ rfl;have d3:=dd 3 _ rfl;have d4:=dd 4 _ rfl;have d5:=dd 5 _ rfl;have d6:=dd 6 _ rfl;have d7:=dd 7 _ rfl;have d8:=dd 8 _ rfl;simp only [Ku] at c0 d0;clear cc dd;have hki:(kk:Int)<(l.length:Int):=by omega
   exact M24
  ·obtain rfl:kk=l.length:=by omega
   go_wp2_with fail;go_ret;exact ⟨rfl,Kd hb0 hbw⟩
theorem store_sec (c:Ck)(a b cc d e f:ByteArray)(now:Int)(w:World)(jb B:Nat)(v:Value)(l:List Ck)(nx:Int)(hJ:JarIn w jb B v l nx)(kk:Nat)(hkl:kk<l.length)
 (hid:idxI (sameB c) l=kk) (hse:l[kk].se=true) (hsc:a.data.toList≠httpsL) (hl:l.length<1000) :
 Calls Tryz.prog 118 #[.pointer (some ⟨jb,0,none⟩),ckA c,urlA a b cc d e f,.int .i64 now] w fun x w'=>x = .returned (.int .i64 7)/\Below w.heap.size w w':=by
 have hrd:=hJ.reads;rcases hrd with ⟨rfl,_⟩ | ⟨_,b0,off,sc,rfl,hc1,hc2,hc3,hcell⟩
 ·simp at hkl
 have hc5:w.cell? ⟨b0,off+kk * 9+5,none⟩=some (.bool true):=hcell kk hkl 5 _ (by rw [<-hse];rfl);have C0:=AtL.new w (ckL c) 88;have C1:=C0.alloc (.cells (urlL a b cc d e f).toArray 37);have U1:=AtL.new (w.alloc (.cells (ckL c).toArray 88)) (urlL a b cc d e f) 37;rw [show (w.alloc (.cells (ckL c).toArray 88)).heap.size=w.heap.size+1 by simp] at U1;have hB1:Below w.heap.size w ((w.alloc (.cells (ckL c).toArray 88)).alloc (.cells (urlL a b cc d e f).toArray 37)):=((Kc w).alloc lr _).alloc (by simp) _;have J1:=hJ.below hB1 lr;have CS:=Kb (fun w=>same_is c w);have CX:=Kb (fun (w:World) (v:Value) (k:Nat) (hv:SlK ckL 9 w v l) (hA:AtL w k (ckL c))=>idxs_is (sameB c) 238 #[.pointer (some ⟨k,0,none⟩)] (enters_of Tryz.func238 (by kernel_rfl) rfl) l v w hv (same_pred c k w hA) (by omega) kk hid);have hs2:¬ a.toList=[104,116,116,112,115]:=by rw [Kt];exact hsc
 have hs3:(a.toList == [104,116,116,112,115])=false:=Ki.2 hs2;have hkz:(kk:Int)<(l.length:Int):=by omega
 have hk0:(0:Int)<=(kk:Int):=by omega
 clear C0 hid hJ hcell hse hsc;go_enter Tryz.func118,Tryz.ntmps118;go_wp2_with fail;obtain ⟨wA,hwA⟩:∃ wA:World,(w.alloc (.cells (ckL c).toArray 88)).alloc (.cells (urlL a b cc d e f).toArray 37)=wA:=⟨_,rfl⟩
 obtain ⟨I,hI⟩:=Ka (w.heap.size+1);obtain ⟨K,hK⟩:=Ka w.heap.size;rw [hwA] at C1 U1 J1 hB1;rw [hK] at C1;rw [hI] at U1;rw [hwA,hI,hK];have HK:=Kb hK;have hcA:wA.cell? ⟨b0,off+kk * 9+5,none⟩=some (.bool true):=(brl hB1 _ _ hc3).trans hc5;clear hwA hI hK hc5;have S1:=s10_start J1.at_ C1;have hjl:=J1.at_.1;have hkl1:=C1.1
 go_region_held3 (fun w'=>w'.cell? ⟨jb,0,none⟩=some (.slice (some ⟨b0,off,none⟩) l.length sc)/\w'.cell? ⟨K,0,none⟩=some (.string c.n)/\w'.cell? ⟨K,1,none⟩=some (.string c.v)/\w'.cell? ⟨K,2,none⟩=some (.string c.d)/\w'.cell? ⟨K,3,none⟩=some (.string c.p)/\w'.cell? ⟨K,4,none⟩=some (.bool c.ho)/\w'.cell? ⟨K,5,none⟩=some (.bool c.se)/\w'.cell? ⟨K,6,none⟩=some (.bool c.hi)/\w'.cell? ⟨K,7,none⟩=some (.int .i64 c.ex)/\w'.cell? ⟨K,8,none⟩=some (.int .i64 c.cr)/\Below wA.heap.size wA w') (first | exact s10_next hjl hkl1 S1 (Kc wA).drew | (apply s10_next hjl hkl1;rotate_left;assumption;assumption) | go_keep)
  (first
    | (with_reducible refine (CS.out _).mono ?_;rintro x w1 ⟨rfl,hb1,hA1⟩)
    | (with_reducible refine (CX.out _ (.slice (some ⟨b0,off,none⟩) l.length sc) wA.heap.size ((J1.reads.below ((Kc wA).drew.trans hb1) lr)) (atL_drewk hA1)).mono ?_;rintro x w2 ⟨rfl,hb2⟩))
 have hB3:Below wA.heap.size wA w2:=s10_below (by assumption);have hBA:=hB1.trans (hB3.mono (by rw [HK.out];omega));have J3:=J1.below hB3 lr;have U3:=U1.below hB3 U1.lt;have hc3':=(brl hB3 _ _ (cell_lt hcA)).trans hcA;have j0:=J3.at_.c 0 rfl;have u_:=U3.o6;have hjl3:=J3.at_.lt;have hul3:=U3.lt;go_wp2_with fail;go_ret;exact ⟨rfl,hBA⟩
end Go.Proofs.YtjdhaacmlpegoaaGreatDoor
