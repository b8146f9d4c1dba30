/- Part 18 of what the proof needs: XE TF XF XG XH XD XJ XL. -/
import Derived.Test.YtjdhaacmlpegoaaGreatDoorU17
set_option maxRecDepth 20000
set_option maxHeartbeats 16000000
set_option linter.unusedSimpArgs false
set_option linter.unusedVariables false
namespace Go.Proofs.YtjdhaacmlpegoaaGreatDoor
open Go.RowKit
theorem sidx (p:ByteArray->Bool)(g:Nat)(cb:Array Value)(eg:∀ args w,(callFunc g args).run Tryz.prog w = .ok (.enter g args) w)(l:List ByteArray)(b cap:Nat)(w:World)
 (hp:∀ W d,d∈l->Below w.heap.size w W->Calls Tryz.prog g (#[.string d] ++ cb) W fun e W'=>e = .returned (.bool (p d))/\Below W.heap.size W W') (hn:l.length<=1000000) (hb:b<w.heap.size) (hc:∀ i (h:i<l.length),w.cell? ⟨b,i,none⟩=some (.string l[i])) (R:Int) (hR:idxI p l=R) :
 Calls Tryz.prog 241 #[.slice (some ⟨b,0,none⟩) l.length cap,.func (.func g) #[] cb] w fun e w'=>e = .returned (.int .i64 R)/\Below w.heap.size w w':=by
 have HR:=Kb hR;have HC:=Kb hc;have HP:=Kb hp;clear hR hc hp;go_enter Tryz.func241,Tryz.ntmps241;go_wp2;go_loopw [5,8] (fun _ s8 wr=>∃ kk:Nat,kk<=l.length/\s8 = .int .i64 kk/\Below w.heap.size w wr/\∀ j (h:j<l.length),j<kk->p l[j]=false) (fun _ s8 _=>l.length - (intOf s8).toNat);case atStart=>exact ⟨0,Kh _,rfl,Kc w,fun j _ hj=>absurd hj (Nat.not_lt_zero _)⟩
 case round=>
  obtain ⟨kk,hkk,rfl,BW,A⟩:=hrel;have HA:=Kb A;clear A;by_cases hlt:kk<l.length
  ·have hltz:(kk:Int)<(l.length:Int):=by omega
   have c0:wr.cell? ⟨b,kk,none⟩=some (.string l[kk]):=(BW.cell (p:=⟨b,kk,none⟩) hb).trans (HC.out kk hlt);have hcall:=HP.out wr l[kk] (Ky hlt) BW;obtain ⟨y,hy⟩:=Ka (l[kk]);rw [hy] at c0 hcall;have HY:=Kb hy;clear hy;have hBs:=BW.size;cases hq:p y with
   | true =>
     exact N52
   | false =>
     exact N38
  ·exact M26
theorem M28{p:Prop}(h:p:=by
 go_enter Tryz.func186,Tryz.ntmps186
 go_wp2_with (with_reducible refine C.out.mono ?_;rintro e w1 ⟨rfl,hb1⟩)
 go_ret
 exact ⟨rfl,hb1⟩
 ):p:=h
theorem scont (p:ByteArray->Bool)(g:Nat)(cb:Array Value)(eg:∀ args w,(callFunc g args).run Tryz.prog w = .ok (.enter g args) w)(l:List ByteArray)(b cap:Nat)(w:World)
 (hp:∀ W d,d∈l->Below w.heap.size w W->Calls Tryz.prog g (#[.string d] ++ cb) W fun e W'=>e = .returned (.bool (p d))/\Below W.heap.size W W') (hn:l.length<=1000000) (hb:b<w.heap.size) (hc:∀ i (h:i<l.length),w.cell? ⟨b,i,none⟩=some (.string l[i])) (R:Bool) (hR:l.any p=R) :
 Calls Tryz.prog 186 #[.slice (some ⟨b,0,none⟩) l.length cap,.func (.func g) #[] cb] w fun e w'=>e = .returned (.bool R)/\Below w.heap.size w w':=by
 cases R with
 | true=>
   have e:idxI p l=((l.findIdx p:Nat):Int):=by unfold idxI;rw [Kf hR]
   obtain ⟨n,hn2⟩:=Ka (l.findIdx p)
   rw [hn2] at e
   have C:=Kb (sidx p g cb eg l b cap w hp hn hb hc _ e)
   clear e hn2 hR hp hc
   exact M28
 | false=>
   have e:idxI p l = -1:=by unfold idxI;rw [Ke (by rw [hR];simp)]
   have C:=Kb (sidx p g cb eg l b cap w hp hn hb hc _ e)
   clear e hR hp hc
   exact M28
theorem hdr_one (h:Hd)(n:List UInt8):(hdrL [h] n).isSome=(lowL h.1.data.toList == lowL n):=by unfold hdrL hitH;rw [List.find?_cons];cases (lowL h.1.data.toList == lowL n) <;> rfl
theorem is_is (h:Hd)(n:ByteArray)(w:World)(hz:h.1.size<=100000/\h.2.size<=100000)(hn:n.size<=100000)(R:Bool)(hR:isH h n=R):
 Calls Tryz.prog 71 #[hdA h,.string n] w fun e w'=>e = .returned (.bool R)/\Below w.heap.size w w':=by
 obtain ⟨hk,hv⟩:=h;have hal:=(Kc w).alloc lr (.cells (hdC (hk,hv)).toArray 70);have hal2:=hal.alloc (by simp) (.cells (hdC (hk,hv)).toArray 70);have A1:=(AtL.new (w.alloc (.cells (hdC (hk,hv)).toArray 70)) (hdC (hk,hv)) 70)
 have hsl:SlK hdC 2 ((w.alloc (.cells (hdC (hk,hv)).toArray 70)).alloc (.cells (hdC (hk,hv)).toArray 70)) (.slice (some ⟨(w.alloc (.cells (hdC (hk,hv)).toArray 70)).heap.size,0,none⟩) 1 1) [(hk,hv)]:=
  .inr ⟨by simp,_,0,1,rfl,lr,by unfold maxLen;decide,A1.lt,fun i hi j u hu=>by
   obtain rfl:i=0:=by simpa using hi
   rw [show 0+0 * 2+j=j by omega]
   exact A1.c j hu⟩
 obtain ⟨V,hV⟩:=Ka ((hdrL [(hk,hv)] n.data.toList).getD ⟨#[]⟩);have CH:=Kb (hdr_at [(hk,hv)] _ n _ hsl ⟨(by show 1<=1000000;decide),fun h hh=>by obtain rfl:=Jc.1 hh;exact hz⟩ hn V R hV ((hdr_one _ _).trans hR));rw [show (w.alloc (.cells (hdC (hk,hv)).toArray 70)).heap.size=w.heap.size+1 by simp] at CH;clear hV hR hsl A1;go_enter Tryz.func71,Tryz.ntmps71;go_wp2_with ((with_reducible refine CH.out.mono ?_);rintro e w1 ⟨rfl,hb1⟩)
 go_ret;exact ⟨rfl,hal2.trans (hb1.mono hal2.size)⟩
theorem woclos_is (h:Hd)(B:Nat)(n:ByteArray)(w:World)(hA:AtL w B (hdC h))(hz:h.1.size<=100000/\h.2.size<=100000)(hn:n.size<=100000)(R:Bool)(hR:isH h n=R):
 Calls Tryz.prog 187 #[.string n,.pointer (some ⟨B,0,none⟩)] w fun e w'=>e = .returned (.bool R)/\Below w.heap.size w w':=by
 have CI:=Kb (is_is h n w hz hn R hR);obtain ⟨hk,hv⟩:=h;have c0:=hA.c 0 rfl;have c1:=hA.c 1 rfl;have bl:=hA.lt;clear hA hR;go_enter Tryz.func187,Tryz.ntmps187;go_wp2_with ((with_reducible refine CI.out.mono ?_);rintro e w1 ⟨rfl,hb1⟩)
 go_ret;exact ⟨rfl,hb1⟩
theorem without_is (hs:List Hd)(v:Value)(ns:List ByteArray)(b0:Nat)(w:World)(hv:SlK hdC 2 w v hs)(hz:HdSz hs)(hn:ns.length<=10)(hns:∀ n∈ns,n.size<=100000)(hb0:b0<w.heap.size)(hc:∀ i (h:i<ns.length),w.cell? ⟨b0,i,none⟩=some (.string ns[i]))(L:List Hd)(hL:woL hs ns=L):
 Calls Tryz.prog 125 #[v,.slice (some ⟨b0,0,none⟩) ns.length ns.length] w (HdsQ w L):=by
 have HZ:=Kb hz.2;have hhl:=hz.1;obtain ⟨sa,sc,rfl,_⟩:=hv.shape;have HC:=Kb (hd_cells hv rfl)
 have CCo:=Kb (fun (w':World) (h:Hd) (K:Nat) (hb:Below w.heap.size w w') (hA:AtL w' K (hdC h)) (hzh:h.1.size<=100000/\h.2.size<=100000) (R:Bool) (hR:ns.any (isH h)=R)=>
  scont (isH h) 187 #[.pointer (some ⟨K,0,none⟩)] (enters_of Tryz.func187 (by kernel_rfl) rfl) ns b0 ns.length w' (fun W d hd hbW=>woclos_is h K d W (hA.next hbW) hzh (hns d hd) _ rfl) (by omega) (Ko hb0 hb.size) (fun i hi=>(hb.cell (p:=⟨b0,i,none⟩) hb0).trans (hc i hi)) R hR)
 have HLL:=Kb hL;clear hv hc hns hL hz;go_enter Tryz.func125,Tryz.ntmps125;go_wp2_with fail;go_loopw [5,10] (fun ov iv wr=>∃ (kk:Nat) (lo:List Hd),kk<=hs.length/\iv = .int .i64 kk/\Hid (lo=(hs.take kk).filter (fun h=>!(ns.any (isH h))))/\lo.length<=kk/\wr.ownsRow w.heap.size 70 2 ov lo.length (cellsK hdC lo)/\(lo=[]->ov = .slice none 0 0)/\Below w.heap.size w wr) (fun _ iv _=>hs.length - (intOf iv).toNat);case atStart=>exact ⟨0,[],Kh _,rfl,Kb rfl,lr,World.ownsRow_nil _ _ _ _,fun _=>rfl,Kc _⟩
 case round=>
  obtain ⟨kk,lo,hk,rfl,HL,hlk,hown,hnil,hbw⟩:=hrel;have HN:=Kb hnil;clear hnil;have hws:=hbw.size;by_cases hlt:kk<hs.length
  ·obtain ⟨b1,off,rfl,hb1,hcell⟩:=HC.out (by omega);have cc:∀ j u,(hdC hs[kk])[j]? = some u->wr.cell? ⟨b1,off+kk * 2+j,none⟩=some u:=fun j u hu=>(brl hbw _ _ hb1).trans (hcell kk hlt j u hu);have hst:=keepg_snoc hs (fun h=>!(ns.any (isH h))) kk hlt _ rfl;have hsz:=HZ.out _ (Ky hlt);obtain ⟨y,hy⟩:=Ka (hs[kk]);rw [hy] at cc hst hsz;rw [<-HL.out] at hst;clear hy hcell;obtain ⟨yn,yv⟩:=y;have c0:=cc 0 _ rfl;have c1:=cc 1 _ rfl;simp only [Ku] at c0;clear cc;have hki:(kk:Int)<(hs.length:Int):=by omega
   have hk0:(0:Int)<=(kk:Int):=by omega
   have hb1w:b1<wr.heap.size:=by omega
   obtain ⟨oa,oc,rfl,_⟩:=own_reads hown;obtain ⟨R,hR⟩:=Ka (ns.any (isH (yn,yv)));have hal:=(Kc wr).alloc lr (.cells (hdC (yn,yv)).toArray 70);have KA:=AtL.new wr (hdC (yn,yv)) 70;have hB1:=hbw.trans (hal.mono hws);have o1:=own_below hown hal lr;have CC:=Kb (CCo.out _ (yn,yv) _ hB1 KA hsz R hR);rw [hR] at hst;have HST:=Kb hst;clear hst hR hsz;cases R with
   | true=>
     go_wp2_with ((with_reducible refine CC.out.mono ?_);rintro e w4 ⟨rfl,hb4⟩;have o4:=own_below o1 hb4 lr;have hb4':=Kd hB1 hb4)
     go_roundw;case rel=>exact ⟨kk+1,lo,by omega,by go_num,Kb (by rw [HST.out];simp),by omega,o4,HN.out,hb4'⟩
     case measure=>simp [intOf];omega
   | false=>
     go_wp2_with (first
      | ((with_reducible refine CC.out.mono ?_);rintro e w4 ⟨rfl,hb4⟩;have o4:=own_below o1 hb4 lr;have hb4':=Kd hB1 hb4;have hz4:=hb4'.size;have K4:=KA.next hb4;have d0:=K4.c 0 rfl;have d1:=K4.c 1 rfl;have dl:=K4.lt)
      | (refine app2 slH w4 (by rfl) (.tmp 18) (.tmp 20) (by rfl) w.heap.size _ _ _ (by rfl) o4 [.string yn,.string yv] 1 w4.heap.size (by rfl) rfl (by rfl) (by intro u hu;simp at hu;rcases hu with rfl | rfl <;> rfl) (by decide) (by omega) (by omega) hz4 ?_;intro v5 w5 o5 g5 f5;obtain ⟨ub,uk,rfl,_,_,_⟩:=own_reads o5))
     go_roundw;case rel=>exact ⟨kk+1,lo ++ [(yn,yv)],by omega,by go_num,Kb (by rw [HST.out];simp),by simp;omega,own_eq o5 (by simp) (by rw [cellsK_app];rfl),(fun h=>absurd h (by simp)),below_own hb4' o4 g5 hz4 lr⟩
     case measure=>simp [intOf];omega
  ·obtain rfl:kk=hs.length:=by omega
   have hlo:lo=L:=by rw [HL.out,Jq,<-HLL.out];rfl
   obtain ⟨oa,oc,rfl,_⟩:=own_reads hown;go_wp2;go_ret;exact ⟨_,rfl,by rw [<-hlo];exact hown,fun h=>HN.out (by rw [hlo];exact h),hbw⟩
theorem s7_mk {W w':World}{s:Nat}{tk:Int}{me ur og:ByteArray}{mo:Int}{vh:Value}{bo:ByteArray}{ck:Bool}{ph:Int}{a b c d e f sm:ByteArray}{ho:Int}{ch hi:Bool}{st:Int}{wh:Value}{sb:ByteArray}{er:Int}(h:AtL W s (fsC tk me ur og mo vh bo ck ph a b c d e f sm ho ch hi st wh sb er))(hb:Below W.heap.size W w'):w'.cell? ⟨s,3,none⟩=some (.string og)/\w'.cell? ⟨s,9,none⟩=some (.string a)/\w'.cell? ⟨s,10,none⟩=some (.string b)/\w'.cell? ⟨s,11,none⟩=some (.string c)/\w'.cell? ⟨s,12,none⟩=some (.string d)/\w'.cell? ⟨s,13,none⟩=some (.string e)/\w'.cell? ⟨s,14,none⟩=some (.string f):=
 have h':=h.next hb
 ⟨h'.c 3 rfl,h'.c 9 rfl,h'.c 10 rfl,h'.c 11 rfl,h'.c 12 rfl,h'.c 13 rfl,h'.c 14 rfl⟩
theorem foreign_is (s0:Nat)(tk:Int)(me ur og:ByteArray)(mo:Int)(vh:Value)(bo:ByteArray)(ck:Bool)(ph:Int)(a b c d e f sm:ByteArray)(ho:Int)(ch hi:Bool)(st:Int)(wh:Value)(sb:ByteArray)(er:Int)(w:World)(hM:MaxAt w)(S0:AtL w s0 (fsC tk me ur og mo vh bo ck ph a b c d e f sm ho ch hi st wh sb er))(ha:a.size<=40000)(hb:b.size<=40000)(hc:c.size<=40000)(hdd:d.size<=40000)(he:e.size<=40000)(hf:f.size<=40000)(O:ByteArray)(hO:O.data.toList=orgL (a.data.toList,b.data.toList,c.data.toList,d.data.toList,e.data.toList,f.data.toList))(R:Bool)(hR:(O.toList != og.toList)=R):
 Calls Tryz.prog 126 #[.pointer (some ⟨s0,0,none⟩)] w fun x w'=>x = .returned (.bool R)/\Below w.heap.size w w':=by
 have CO:=Kb (fun (w':World) (hb':Below w.heap.size w w')=>origin_is a b c d e f O w' ha hb hc hdd he hf (hM.below hb' lr) hO);have HR:=Kb hR;clear hO hM hR;have z_:=S0.o23;have zl:=S0.lt;go_enter Tryz.func126,Tryz.ntmps126;go_wp2_with fail
 go_region_held3 (fun w'=>w'.cell? ⟨s0,3,none⟩=some (.string og)/\w'.cell? ⟨s0,9,none⟩=some (.string a)/\w'.cell? ⟨s0,10,none⟩=some (.string b)/\w'.cell? ⟨s0,11,none⟩=some (.string c)/\w'.cell? ⟨s0,12,none⟩=some (.string d)/\w'.cell? ⟨s0,13,none⟩=some (.string e)/\w'.cell? ⟨s0,14,none⟩=some (.string f))
  (first | exact s7_mk S0 (Kc w).drew | exact s7_mk S0 hb4 | go_keep)
  (first | ((with_reducible refine (CO.out _ (Kc w).drew).mono ?_);rintro e4 w4 ⟨rfl,hbb4⟩;have hb4:Below w.heap.size w w4:=(Below.refl w.heap.size w).drew.trans hbb4) | fail)
 go_wp2_with fail;go_ret;exact ⟨ret_bool (by rw [<-HR.out];rfl),hb4⟩
theorem text_is (s0:Nat)(tk:Int)(me ur og:ByteArray)(mo:Int)(vh:Value)(bo:ByteArray)(ck:Bool)(ph:Int)(a b c d e f sm:ByteArray)(ho:Int)(ch hi:Bool)(st:Int)(wh:Value)(sb:ByteArray)(er:Int)(w:World)(S0:AtL w s0 (fsC tk me ur og mo vh bo ck ph a b c d e f sm ho ch hi st wh sb er))(ha:a.size<=40000)(hb:b.size<=40000)(hc:c.size<=40000)(hdd:d.size<=40000)(he:e.size<=40000)(hf:f.size<=40000)(T:ByteArray)(hT:T.data.toList=formatL (a.data.toList,b.data.toList,c.data.toList,d.data.toList,e.data.toList,[])):
 Calls Tryz.prog 74 #[.pointer (some ⟨s0,0,none⟩)] w fun x w'=>x = .returned (.string T)/\Below w.heap.size w w':=by
 have CW:=Kb (fun (w':World)=>without_any a b c d e f w');have CF:=Kb (fun (w':World)=>format_is4 a b c d e ⟨#[]⟩ T w' (by omega) (by omega) (by omega) (by omega) (by omega) (by decide) hT);clear hT;have z_:=S0.o23;have zl:=S0.lt;go_enter Tryz.func74,Tryz.ntmps74
 go_wp2_with (first
  | ((with_reducible refine (CW.out _).mono ?_);rintro e1 w1 ⟨rfl,hb1⟩)
  | ((with_reducible refine (CF.out _).mono ?_);rintro e2 w2 ⟨rfl,hb2⟩)
  | fail)
 go_ret;exact ⟨rfl,Kd hb1 hb2⟩
section
variable {w : World} {s0 : Nat} {S : FSt} {vh wh : Value}
theorem fgn_is (hM:MaxAt w)(S0:AtL w s0 (fsV S vh wh))(hz:USize 40000 S.a S.b S.c S.d S.e S.f)(R:Bool)(hR:fgB S=R):
 Calls Tryz.prog 126 #[.pointer (some ⟨s0,0,none⟩)] w fun x w'=>x = .returned (.bool R)/\Below w.heap.size w w':=by refine foreign_is s0 S.tk S.me S.ur S.og S.mo vh S.qb S.ck S.ph S.a S.b S.c S.d S.e S.f S.sm S.ho S.ch S.hi S.st wh S.sb S.er w hM S0 hz.a hz.b hz.c hz.d hz.e hz.f (bs (orgL S.u)) rfl R ?_;rw [<-hR];unfold fgB;simp only [bne,Kt,bs_list]
theorem txt_is (S0:AtL w s0 (fsV S vh wh))(hz:USize 40000 S.a S.b S.c S.d S.e S.f)(T:ByteArray)(hT:txB S=T):
 Calls Tryz.prog 74 #[.pointer (some ⟨s0,0,none⟩)] w fun x w'=>x = .returned (.string T)/\Below w.heap.size w w':=
 text_is s0 S.tk S.me S.ur S.og S.mo vh S.qb S.ck S.ph S.a S.b S.c S.d S.e S.f S.sm S.ho S.ch S.hi S.st wh S.sb S.er w S0 hz.a hz.b hz.c hz.d hz.e hz.f T (by rw [<-hT];rfl)
end
theorem N13{p:Prop}(h:p:=by
 go_enter Tryz.func75,Tryz.ntmps75
 go_wp2_with (first
  | ((with_reducible refine CW.out.mono ?_);rintro e1 w1 hq1;obtain ⟨v1,rfl,o1,hn1,hb1⟩:=hq1;obtain ⟨oa,oc,rfl,_⟩:=own_reads o1;have S1:=S0a.next hb1;have hB1:=hal.trans (hb1.mono hal.size);have HN:=Kb hn1;clear hn1 z_)
  | ((with_reducible refine (CF.out _ hB1 S1).mono ?_);rintro e2 w2 ⟨rfl,hb2⟩;have S2:=S1.next hb2;have o2:=own_below o1 hb2 lr;have hB2:=Kd hB1 hb2;have hz2:=hB2.size;have hz3:w.heap.size+1<=w2.heap.size:=(by have h1:=hb1.size;have h2:=hb2.size;rw [hsz] at h1;omega);have z_:=S2.o23;have zl2:=S2.lt)
  | (refine app2 slH w2 (by rfl) (.tmp 27) (.tmp 34) (by rfl) _ _ _ _ (by rfl) o2 [.string ogN,.string og] 1 w2.heap.size (by rfl) rfl (by rfl) (by intro u hu;simp at hu;rcases hu with rfl | rfl <;> rfl) (by decide) (by omega) (by omega) (by rw [hsz];exact hz3) ?_;intro v5 w5 o5 g5 f5;obtain ⟨ub,uk,rfl,_,_,_⟩:=own_reads o5)
  | fail)
 go_ret
 first
  |have hLL:L0 ++ [(ogN,og)]=L:=by rw [<-HLL.out];simp
   exact ⟨_,rfl,by rw [<-hLL];exact own_eq (own_mono o5 (by rw [hsz];omega)) (by simp) (by rw [cellsK_app];rfl),fun h=>absurd h (by rw [<-hLL];simp),below_own hB2 (own_mono o2 (by rw [hsz];omega)) g5 hz2 lr⟩
  |have hLL:L0=L:=by rw [<-HLL.out];simp
   exact ⟨_,rfl,by rw [<-hLL];exact own_mono o2 (by rw [hsz];omega),fun h=>HN.out (by rw [hLL];exact h),hB2⟩
 ):p:=h
theorem headers_is (S:FSt)(s0:Nat)(vh wh:Value)(w:World)(hM:MaxAt w)(S0:AtL w s0 (fsV S vh wh))(hv:SlK hdC 2 w vh S.qh)(hzq:HdSz S.qh)(hz:USize 40000 S.a S.b S.c S.d S.e S.f)(L:List Hd)(hL:hdF S=L):
 Calls Tryz.prog 75 #[.pointer (some ⟨s0,0,none⟩)] w (HdsQ w L):=by
 obtain ⟨qa,qc,rfl,_⟩:=hv.shape
 obtain ⟨F,hF⟩:=Ka (fgB S)
 obtain ⟨L0,hL0⟩:=Ka (woL S.qh [ckN,ogN])
 have hal:=(Kc w).alloc lr (.cells [.string ckN,.string ogN].toArray 9)
 have hsz:(w.alloc (.cells [.string ckN,.string ogN].toArray 9)).heap.size=w.heap.size+1:=by simp
 have A0:=AtL.new w [.string ckN,.string ogN] 9
 have S0a:=S0.next hal
 have CW:=Kb (show Calls Tryz.prog 125 #[.slice qa S.qh.length qc,.slice (some ⟨w.heap.size,0,none⟩) 2 2] (w.alloc (.cells [.string ckN,.string ogN].toArray 9)) (HdsQ (w.alloc (.cells [.string ckN,.string ogN].toArray 9)) L0) from without_is S.qh _ [ckN,ogN] w.heap.size _ (hv.below hal lr) hzq (by decide) (by intro n hn;simp at hn;rcases hn with rfl | rfl <;> decide) A0.lt (fun i hi=>A0.c i (by
  match i,hi with
  | 0,_=>rfl
  | 1,_=>rfl)) L0 hL0)
 have CF:=Kb (fun (w':World) (hb:Below w.heap.size w w') (h:AtL w' s0 (fsV S (.slice qa S.qh.length qc) wh))=>fgn_is (hM.below hb lr) h hz F hF)
 obtain ⟨l,hl⟩:=Ka S.qh.length
 have hLl:L0.length<=1000000:=by rw [<-hL0];exact Kg (Zj _ _) hzq.1
 unfold hdF at hL
 rw [hL0,hF] at hL
 rw [hl] at S0 S0a CF CW
 clear hL0 hF hM hv hzq hz A0 hl
 obtain ⟨tk,me,ur,og,mo,qh,qb,ck,ph,a,b,c,d,e,f,sm,ho,ch,hi,st,hs,sb,er⟩:=S
 obtain ⟨g1,hg1⟩:=Ka (sm.toList == [71,69,84])
 obtain ⟨g2,hg2⟩:=Ka (sm.toList == [72,69,65,68])
 have hL:(L0 ++ if F || (!g1 && !g2) then [(ogN,og)] else [])=L:=by rw [<-hg1,<-hg2];exact hL
 have HLL:=Kb hL
 clear hL
 have z_:=S0.o23
 have zl:=S0.lt
 cases F with
 | true=>
   clear hg1 hg2
   exact N13
 | false=>
   cases g1 with
   | true=>
     clear hg2
     exact N13
   | false=>
     cases g2 with
     | true=>
       exact N13
     | false=>
       exact N13
theorem fail_is [Prot]{w:World}{s0 jb cb B:Nat}{vj:Value}{J:List Ck}{nx:Int}{vc:Value}{lx:List Ee}{S:FSt}(F:FIn w s0 jb cb B vj J nx vc lx S)(er0:Int):
 Calls Tryz.prog 76 #[.pointer (some ⟨s0,0,none⟩),.int .i64 er0] w (StepQ w s0 jb cb B vj J nx vc (failO S (lx.map (·.2)) er0)):=by
 obtain ⟨E,va,vk,wa,wk,S0,hq,hh⟩:=F;obtain ⟨tk,me,ur,og,mo,qh,qb,ck,ph,a,b,c,d,e,f,sm,ho,ch,hi,st,hs,sb,er⟩:=S;have S0:AtL w s0 (fsC tk me ur og mo (.slice va qh.length vk) qb ck ph a b c d e f sm ho ch hi st (.slice wa hs.length wk) sb er):=S0;have S1:AtL _ s0 (fsC tk me ur og mo (.slice va qh.length vk) qb ck 4 a b c d e f sm ho ch hi 0 (.slice none 0 0) ⟨#[]⟩ er0):=((((S0.set 8 (.int .i64 4)).set 22 (.int .i64 er0)).set 19 (.int .i64 0)).set 20 (.slice none 0 0)).set 21 (.string ⟨#[]⟩);have E1:=((((E.set 8 (.int .i64 4)).set 22 (.int .i64 er0)).set 19 (.int .i64 0)).set 20 (.slice none 0 0)).set 21 (.string ⟨#[]⟩);have K1:=(((((Kp.refl w.heap.size (Mu s0 jb cb vj vc) w).setCell ⟨s0,8,none⟩ (.inl E.ms) (.int .i64 4)).setCell ⟨s0,22,none⟩ (.inl E.ms) (.int .i64 er0)).setCell ⟨s0,19,none⟩ (.inl E.ms) (.int .i64 0)).setCell ⟨s0,20,none⟩ (.inl E.ms) (.slice none 0 0)).setCell ⟨s0,21,none⟩ (.inl E.ms) (.string ⟨#[]⟩);have St:StIn (Mu s0 jb cb vj vc) _ s0 (failS ⟨tk,me,ur,og,mo,qh,qb,ck,ph,a,b,c,d,e,f,sm,ho,ch,hi,st,hs,sb,er⟩ er0):=⟨va,vk,none,0,S1,hq.same K1 lr,Hs.nil _ _⟩
 have HE:=Kb (StepQ.one (w:=w) (o:=failO ⟨tk,me,ur,og,mo,qh,qb,ck,ph,a,b,c,d,e,f,sm,ho,ch,hi,st,hs,sb,er⟩ (lx.map (·.2)) er0) E1 St rfl K1 (fun _ _ e=>e) (.slice none 0 0) (failV er0) rfl (Hs.nil _ _) w.heap.size (by simp only [World.size_setCell]));have z_:=S0.o23;have y_:=S0.of23;have zl:=S0.lt;clear hq hh S1 E1 K1 St E;go_enter Tryz.func76,Tryz.ntmps76;go_wp2_with fail;go_ret;exact HE.out
theorem N70{p:Prop}(h:p:=by
 
 go_enter Tryz.func80,Tryz.ntmps80
 go_wp2_with ((with_reducible refine CF.out.mono ?_);rintro e1 w1 hq1;have HQ:=Kb hq1;obtain ⟨v1,l1,vc1,lx1,rfl,-,-,hv1,-,-⟩:=hq1;obtain ⟨oa,oc,rfl,_⟩:=own_reads hv1.own)
 go_ret
 exact HQ.out
 ):p:=h
theorem stop_is [Prot]{w:World}{s0 jb cb B:Nat}{vj:Value}{J:List Ck}{nx:Int}{vc:Value}{lx:List Ee}{S:FSt}(F:FIn w s0 jb cb B vj J nx vc lx S)(er0:Int):
 Calls Tryz.prog 80 #[.pointer (some ⟨s0,0,none⟩),.int .i64 er0] w (StepQ w s0 jb cb B vj J nx vc ⟨(stopF er0 S).1,lx.map (·.2),(stopF er0 S).2⟩):=by
 have CF:=Kb (fail_is F er0);by_cases h:S.ph=1\/S.ph=2
 ·have e:(⟨(stopF er0 S).1,lx.map (·.2),(stopF er0 S).2⟩:Out)=failO S (lx.map (·.2)) er0:=by unfold stopF;rw [Kf h];rfl
  rw [e];obtain ⟨E,va,vk,wa,wk,S0,hq,hh⟩:=F;clear E hq hh e;obtain ⟨tk,me,ur,og,mo,qh,qb,ck,ph,a,b,c,d,e,f,sm,ho,ch,hi,st,hs,sb,er⟩:=S;have S0:AtL w s0 (fsC tk me ur og mo (.slice va qh.length vk) qb ck ph a b c d e f sm ho ch hi st (.slice wa hs.length wk) sb er):=S0;have h:ph=1\/ph=2:=h;have z_:=S0.o23;have zl:=S0.lt;rcases h with rfl | rfl
  ·exact N70
  ·exact N70
 ·have e:(⟨(stopF er0 S).1,lx.map (·.2),(stopF er0 S).2⟩:Out)=⟨S,lx.map (·.2),[]⟩:=by unfold stopF;rw [Ke h]
  rw [e];have HE:=Kb (StepQ.none (w:=w) (o:=⟨S,lx.map (·.2),[]⟩) F.env F.st rfl (Kp.refl _ _ _) (fun _ _ e=>e) rfl);obtain ⟨E,va,vk,wa,wk,S0,hq,hh⟩:=F;clear E hq hh e;obtain ⟨tk,me,ur,og,mo,qh,qb,ck,ph,a,b,c,d,e,f,sm,ho,ch,hi,st,hs,sb,er⟩:=S;have S0:AtL w s0 (fsC tk me ur og mo (.slice va qh.length vk) qb ck ph a b c d e f sm ho ch hi st (.slice wa hs.length wk) sb er):=S0;have h:¬ (ph=1\/ph=2):=h;have z_:=S0.o23;have zl:=S0.lt;have h1:(ph == 1)=false:=Ki.2 fun e=>h (.inl e);have h2:(ph == 2)=false:=Ki.2 fun e=>h (.inr e);have h1n:(ph != 1)=true:=by simp only [bne];rw [h1];rfl
  have h2n:(ph != 2)=true:=by simp only [bne];rw [h2];rfl
  clear h;go_enter Tryz.func80,Tryz.ntmps80;go_wp2_with fail;go_ret;exact HE.out
theorem drewn_below (B:Nat)(w:World)(n:Nat):Below B w (w.drewN n):=⟨rfl,rfl,rfl,lr,fun _ _=>rfl⟩
theorem rs3_mk {W w':World}{R s:Nat}{r0 r1 r2 r3 r4 r5 r6 r7:Value}{tk:Int}{me ur og:ByteArray}{mo:Int}{vh:Value}{bo:ByteArray}{ck:Bool}{ph:Int}{a b c d e f sm:ByteArray}{ho:Int}{ch hi:Bool}{st:Int}{wh:Value}{sb:ByteArray}{er:Int}(h:AtL W R [r0,r1,r2,r3,r4,r5,r6,r7])(h2:AtL W s (fsC tk me ur og mo vh bo ck ph a b c d e f sm ho ch hi st wh sb er))(hb:Below W.heap.size W w'):w'.cell? ⟨R,4,none⟩=some r4/\w'.cell? ⟨R,3,none⟩=some r3/\w'.cell? ⟨R,7,none⟩=some r7/\w'.cell? ⟨s,9,none⟩=some (.string a)/\w'.cell? ⟨s,10,none⟩=some (.string b)/\w'.cell? ⟨s,11,none⟩=some (.string c)/\w'.cell? ⟨s,12,none⟩=some (.string d)/\w'.cell? ⟨s,13,none⟩=some (.string e)/\w'.cell? ⟨s,14,none⟩=some (.string f):=
 have h':=h.next hb
 have k':=h2.next hb
 ⟨h'.c 4 rfl,h'.c 3 rfl,h'.c 7 rfl,k'.c 9 rfl,k'.c 10 rfl,k'.c 11 rfl,k'.c 12 rfl,k'.c 13 rfl,k'.c 14 rfl⟩
theorem rdb_is (S:FSt)(s0:Nat)(va:Option Addr)(vk:Nat)(wh:Value)(w:World)(hM:MaxAt w)(S0:AtL w s0 (fsV S (.slice va S.qh.length vk) wh))(hz:USize 40000 S.a S.b S.c S.d S.e S.f)(u:Value)(hd:List Hd)(hu:SlK hdC 2 w u hd)(hzh:HdSz hd)(R:Bool)(hR:rdF S hd=R):
 Calls Tryz.prog 129 #[.pointer (some ⟨s0,0,none⟩),u] w fun e w'=>e = .returned (.bool R)/\Below w.heap.size w w':=by
 obtain ⟨ua,uk,rfl,_⟩:=hu.shape;obtain ⟨tk,me,ur,og,mo,qh,qb,ck,ph,a,b,c,d,e,f,sm,ho,ch,hi,st,hs,sb,er⟩:=S;have S0:AtL w s0 (fsC tk me ur og mo (.slice va qh.length vk) qb ck ph a b c d e f sm ho ch hi st wh sb er):=S0;obtain ⟨ha,hb,hc,hdd,he,hf⟩:USize 40000 a b c d e f:=hz;have hal:=(Kc w).alloc lr (.cells [.int .i64 tk,.string me,.string ur,.string og,.int .i64 mo,.slice va qh.length vk,.string qb,.bool ck].toArray 30);have A1:=AtL.new w [.int .i64 tk,.string me,.string ur,.string og,.int .i64 mo,.slice va qh.length vk,.string qb,.bool ck] 30;have S1:=S0.next hal;have z_:=S0.o23;have zl:=S0.lt;by_cases h4:mo=4
 ·obtain rfl:true=R:=by rw [<-hR];unfold rdF;rw [Kx h4];rfl
  subst h4;clear hR hM hu hzh;go_enter Tryz.func129,Tryz.ntmps129;go_upto_region 2 with fail;obtain ⟨w1,hw1⟩:∃ w1:World,w.alloc (.cells [.int .i64 tk,.string me,.string ur,.string og,.int .i64 4,.slice va qh.length vk,.string qb,.bool ck].toArray 30)=w1:=⟨_,rfl⟩
  obtain ⟨R1,hR1⟩:=Ka w.heap.size;rw [hw1] at hal A1 S1;rw [hR1] at A1;rw [show w.alloc (.cells #[.int .i64 tk,.string me,.string ur,.string og,.int .i64 4,.slice va qh.length vk,.string qb,.bool ck] 30)=w1 from hw1,hR1];have HAL:Hid (Below w.heap.size w w1):=Kb hal;clear hw1 hR1 hal;have r_:=A1.o8;clear z_;have z_:=S1.o23;have rl:=A1.lt;have sl:=S1.lt;go_quiet (fail);go_wp2_with fail;go_ret;exact ⟨rfl,HAL.out.trans (drewn_below _ _ _)⟩
 ·have hR2:readB og mo ck (bs (orgL (u6 a b c d e f))) hd=R:=by rw [<-hR];unfold rdF;rw [Kj h4];rfl
  have h4':(mo == 4)=false:=Ki.2 h4;have CR:=Kb (fun (w':World) (hb':Below w.heap.size w w')=>readable_is og mo ck a b c d e f (.slice ua hd.length uk) hd w' (hM.below hb' lr) (hu.below hb' lr) hzh ha hb hc hdd he hf (bs (orgL (u6 a b c d e f))) rfl R hR2);clear hR hR2 hM h4 hu hzh;go_enter Tryz.func129,Tryz.ntmps129;go_upto_region 2 with fail;obtain ⟨w1,hw1⟩:∃ w1:World,w.alloc (.cells [.int .i64 tk,.string me,.string ur,.string og,.int .i64 mo,.slice va qh.length vk,.string qb,.bool ck].toArray 30)=w1:=⟨_,rfl⟩
  obtain ⟨R1,hR1⟩:=Ka w.heap.size;rw [hw1] at hal A1 S1;rw [hR1] at A1;rw [show w.alloc (.cells #[.int .i64 tk,.string me,.string ur,.string og,.int .i64 mo,.slice va qh.length vk,.string qb,.bool ck] 30)=w1 from hw1,hR1];have HAL:Hid (Below w.heap.size w w1):=Kb hal;clear hw1 hR1 hal;have r_:=A1.o8;clear z_;have z_:=S1.o23;have rl:=A1.lt;have sl:=S1.lt
  go_region_held3 (fun w'=>w'.cell? ⟨R1,4,none⟩=some (.int .i64 mo)/\w'.cell? ⟨R1,3,none⟩=some (.string og)/\w'.cell? ⟨R1,7,none⟩=some (.bool ck)/\w'.cell? ⟨s0,9,none⟩=some (.string a)/\w'.cell? ⟨s0,10,none⟩=some (.string b)/\w'.cell? ⟨s0,11,none⟩=some (.string c)/\w'.cell? ⟨s0,12,none⟩=some (.string d)/\w'.cell? ⟨s0,13,none⟩=some (.string e)/\w'.cell? ⟨s0,14,none⟩=some (.string f))
   (first | exact rs3_mk A1 S1 (Kc w1).drew | exact rs3_mk A1 S1 hb2 | go_keep)
   (first | ((with_reducible refine (CR.out _ HAL.out.drew).mono ?_);rintro e2 w2 ⟨rfl,hbb2⟩;have hb2:Below w1.heap.size w1 w2:=(Below.refl w1.heap.size w1).drew.trans hbb2) | fail)
  go_wp2_with fail;go_ret;exact ⟨rfl,HAL.out.trans (hb2.mono HAL.out.size)⟩
theorem empty_size (p:ByteArray):p.toList.isEmpty=decide (p.size=0):=by rw [Zm,Jb,Zv,Kt,<-size_len];exact List.length_eq_zero_iff.symm
theorem data_is [Prot]{w:World}{s0 jb cb B:Nat}{vj:Value}{J:List Ck}{nx:Int}{vc:Value}{lx:List Ee}{S:FSt}(F:FIn w s0 jb cb B vj J nx vc lx S)(p:ByteArray)(hp:p.size<=10000000)(hsb:S.sb.size<=10000000)(now:Int):
 Calls Tryz.prog 34 #[.pointer (some ⟨s0,0,none⟩),.string p,envA jb cb now] w (StepQ w s0 jb cb B vj J nx vc ⟨(dataF p S).1,lx.map (·.2),(dataF p S).2⟩):=by
 have hal:=(Kc w).alloc lr (.cells (envL jb cb now).toArray 83);have F1:=F.below hal;have CF:=Kb (fail_is F1 5);by_cases hph:S.ph=2
 ·by_cases hlim:1048576<S.sb.size+p.size
  ·have ee:(⟨(dataF p S).1,lx.map (·.2),(dataF p S).2⟩:Out)=failO S (lx.map (·.2)) 5:=by unfold dataF;rw [Kf hph,Kf hlim];rfl
   rw [ee];clear ee;obtain ⟨E,va,vk,wa,wk,S0,hq,hh⟩:=F1;obtain ⟨tk,me,ur,og,mo,qh,qb,ck,ph,a,b,c,d,e,f,sm,ho,ch,hi,st,hs,sb,er⟩:=S;have S0:AtL (w.alloc (.cells (envL jb cb now).toArray 83)) s0 (fsC tk me ur og mo (.slice va qh.length vk) qb ck ph a b c d e f sm ho ch hi st (.slice wa hs.length wk) sb er):=S0;obtain rfl:ph=2:=hph;have hsb:sb.size<=10000000:=hsb;have hl1:(1048576:Int)<(sb.size:Int)+(p.size:Int):=by have h:1048576<sb.size+p.size:=hlim;omega
   clear hq hh E hlim F;have z_:=S0.o23;have y_:=S0.of23;have zl:=S0.lt;go_enter Tryz.func34,Tryz.ntmps34;go_wp2_with ((with_reducible refine CF.out.mono ?_);rintro e1 w1 hq1;have HQ:=Kb hq1;obtain ⟨v1,l1,vc1,lx1,rfl,-,-,hv1,-,-⟩:=hq1;obtain ⟨oa,oc,rfl,_⟩:=own_reads hv1.own)
   go_ret;exact HQ.out.below hal
  ·by_cases hem:p.size=0\/S.hi=true
   ·have ee:(⟨(dataF p S).1,lx.map (·.2),(dataF p S).2⟩:Out)=⟨{ S with sb:=S.sb ++ p },lx.map (·.2),[]⟩:=by unfold dataF;rw [Kf hph,Ke hlim,Kf hem]
    rw [ee];clear ee;obtain ⟨E,va,vk,wa,wk,S0,hq,hh⟩:=F1;obtain ⟨tk,me,ur,og,mo,qh,qb,ck,ph,a,b,c,d,e,f,sm,ho,ch,hi,st,hs,sb,er⟩:=S;have S0:AtL (w.alloc (.cells (envL jb cb now).toArray 83)) s0 (fsC tk me ur og mo (.slice va qh.length vk) qb ck ph a b c d e f sm ho ch hi st (.slice wa hs.length wk) sb er):=S0;obtain rfl:ph=2:=hph;have hsb:sb.size<=10000000:=hsb;have hl1:¬ (1048576:Int)<(sb.size:Int)+(p.size:Int):=by have h:¬ 1048576<sb.size+p.size:=hlim;omega
    have S2:AtL _ s0 (fsC tk me ur og mo (.slice va qh.length vk) qb ck 2 a b c d e f sm ho ch hi st (.slice wa hs.length wk) (sb ++ p) er):=S0.set 21 (.string (sb ++ p));have K2:=((Kp.refl w.heap.size (Mu s0 jb cb vj vc) w).below hal lr).setCell ⟨s0,21,none⟩ (.inl E.ms) (.string (sb ++ p));have K3:=(Kp.refl (w.alloc (.cells (envL jb cb now).toArray 83)).heap.size (Mu s0 jb cb vj vc) (w.alloc (.cells (envL jb cb now).toArray 83))).setCell ⟨s0,21,none⟩ (.inl E.ms) (.string (sb ++ p));have HE:=Kb (StepQ.none (w:=w) (o:=⟨⟨tk,me,ur,og,mo,qh,qb,ck,2,a,b,c,d,e,f,sm,ho,ch,hi,st,hs,sb ++ p,er⟩,lx.map (·.2),[]⟩) (E.set 21 (.string (sb ++ p))) ⟨va,vk,wa,wk,S2,hq.same K3 lr,hh.same K3 lr⟩ rfl K2 (fun _ _ e=>e) rfl);have hpe:=empty_size p;have hem:p.size=0\/hi=true:=hem;clear hq hh E hlim F S2 K2 K3;by_cases hp0:p.size=0
    ·have hpe1:p.toList.isEmpty=true:=by rw [hpe,Kx hp0]
     clear hpe hem hp0;have z_:=S0.o23;have y_:=S0.of23;have zl:=S0.lt;go_enter Tryz.func34,Tryz.ntmps34;go_wp2_with fail;go_ret;exact HE.out
    ·have hpe1:p.toList.isEmpty=false:=by rw [hpe,Kj hp0]
     obtain rfl:hi=true:=hem.resolve_left hp0;clear hpe hem hp0;have z_:=S0.o23;have y_:=S0.of23;have zl:=S0.lt;go_enter Tryz.func34,Tryz.ntmps34;go_wp2_with fail;go_ret;exact HE.out
   ·have ee:(⟨(dataF p S).1,lx.map (·.2),(dataF p S).2⟩:Out)=⟨{ S with sb:=S.sb ++ p },lx.map (·.2),[⟨3,eS,eS,[],p,0,0⟩]⟩:=by unfold dataF;rw [Kf hph,Ke hlim,Ke hem]
    rw [ee];clear ee;obtain ⟨E,va,vk,wa,wk,S0,hq,hh⟩:=F1;obtain ⟨tk,me,ur,og,mo,qh,qb,ck,ph,a,b,c,d,e,f,sm,ho,ch,hi,st,hs,sb,er⟩:=S;have S0:AtL (w.alloc (.cells (envL jb cb now).toArray 83)) s0 (fsC tk me ur og mo (.slice va qh.length vk) qb ck ph a b c d e f sm ho ch hi st (.slice wa hs.length wk) sb er):=S0;obtain rfl:ph=2:=hph;have hsb:sb.size<=10000000:=hsb;have hl1:¬ (1048576:Int)<(sb.size:Int)+(p.size:Int):=by have h:¬ 1048576<sb.size+p.size:=hlim;omega
    have S2:AtL _ s0 (fsC tk me ur og mo (.slice va qh.length vk) qb ck 2 a b c d e f sm ho ch hi st (.slice wa hs.length wk) (sb ++ p) er):=S0.set 21 (.string (sb ++ p));have K2:=((Kp.refl w.heap.size (Mu s0 jb cb vj vc) w).below hal lr).setCell ⟨s0,21,none⟩ (.inl E.ms) (.string (sb ++ p));have K3:=(Kp.refl (w.alloc (.cells (envL jb cb now).toArray 83)).heap.size (Mu s0 jb cb vj vc) (w.alloc (.cells (envL jb cb now).toArray 83))).setCell ⟨s0,21,none⟩ (.inl E.ms) (.string (sb ++ p));have HE:=Kb (StepQ.one (w:=w) (o:=⟨⟨tk,me,ur,og,mo,qh,qb,ck,2,a,b,c,d,e,f,sm,ho,ch,hi,st,hs,sb ++ p,er⟩,lx.map (·.2),[⟨3,eS,eS,[],p,0,0⟩]⟩) (E.set 21 (.string (sb ++ p))) ⟨va,vk,wa,wk,S2,hq.same K3 lr,hh.same K3 lr⟩ rfl K2 (fun _ _ e=>e) (.slice none 0 0) ⟨3,eS,eS,[],p,0,0⟩ rfl (Hs.nil _ _) (w.heap.size+1) (by simp only [World.size_setCell];simp));have hpe1:p.toList.isEmpty=false:=by rw [empty_size,Kj (fun h=>hem (.inl h))]
    obtain rfl:hi=false:=by
     cases hi
     ·rfl
     ·exact absurd (.inr rfl) hem
    clear hq hh E hlim F S2 K2 K3 hem;have z_:=S0.o23;have y_:=S0.of23;have zl:=S0.lt;go_enter Tryz.func34,Tryz.ntmps34;go_wp2_with fail;go_ret;exact HE.out
 ·have ee:(⟨(dataF p S).1,lx.map (·.2),(dataF p S).2⟩:Out)=⟨S,lx.map (·.2),[]⟩:=by unfold dataF;rw [Ke hph]
  rw [ee];clear ee;have HE:=Kb (StepQ.none (w:=w) (o:=⟨S,lx.map (·.2),[]⟩) F1.env F1.st rfl (Kp.of_below hal lr) (fun _ _ e=>e) rfl);obtain ⟨E,va,vk,wa,wk,S0,hq,hh⟩:=F1;obtain ⟨tk,me,ur,og,mo,qh,qb,ck,ph,a,b,c,d,e,f,sm,ho,ch,hi,st,hs,sb,er⟩:=S;have S0:AtL (w.alloc (.cells (envL jb cb now).toArray 83)) s0 (fsC tk me ur og mo (.slice va qh.length vk) qb ck ph a b c d e f sm ho ch hi st (.slice wa hs.length wk) sb er):=S0;have h2:(ph == 2)=false:=Ki.2 hph;have h2n:(ph != 2)=true:=by simp only [bne];rw [h2];rfl
  clear hq hh E F hph;have z_:=S0.o23;have y_:=S0.of23;have zl:=S0.lt;go_enter Tryz.func34,Tryz.ntmps34;go_wp2_with fail;go_ret;exact HE.out
def lastR (o:Option Nat):Int:=match o with
 | none=>-1
 | some k=>(k:Nat)
theorem lastI_at {α:Type}(p:α->Bool):∀ l:List α,LastAt p l (lastR (lastI p l))
 | []=>.inl ⟨rfl,fun j hj=>absurd hj (Nat.not_lt_zero _)⟩
 | x :: l=>by
   have ih:=lastI_at p l
   unfold lastI
   cases e:lastI p l with
   | some k=>
     rw [e] at ih
     rcases ih with ⟨h,_⟩ | ⟨i,hi,h1,h2,h3⟩
     ·exact absurd h (by show ((k:Nat):Int) ≠ -1;omega)
     ·obtain rfl:k=i:=by have h1:((k:Nat):Int)=i:=h1;omega
      refine .inr ⟨k+1,by simp;omega,rfl,by simpa using h2,fun j hj hlt=>?_⟩
      cases j with
      | zero=>omega
      | succ j=>simpa using h3 j (by simpa using hj) (by omega)
   | none =>
     rw [e] at ih
     have hn:∀ j (h:j<l.length),p l[j]=false:=by
      rcases ih with ⟨_,h⟩ | ⟨i,hi,h1,_⟩
      ·exact h
      ·exact absurd h1 (by show (-1:Int)≠i;omega)
     cases hx:p x with
     | true=>
       refine .inr ⟨0,by simp,rfl,by simpa using hx,fun j hj hlt=>?_⟩
       cases j with
       | zero=>omega
       | succ j=>simpa using hn j (by simpa using hj)
     | false =>
       refine .inl ⟨rfl,fun j hj=>?_⟩
       cases j with
       | zero=>simpa using hx
       | succ j=>simpa using hn j (by simpa using hj)
theorem lastI_map {α β:Type}(f:α->β)(p:β->Bool):∀ l:List α,lastI p (l.map f)=lastI (fun x=>p (f x)) l
 | []=>rfl
 | x :: l=>by simp only [Jw,lastI,lastI_map f p l]
theorem lastAt_none {α:Type}{p:α->Bool}{l:List α}(h:lastI p l=none):LastAt p l (-1):=by have:=lastI_at p l;rwa [h] at this
theorem lastAt_some {α:Type}{p:α->Bool}{l:List α}{k:Nat}(h:lastI p l=some k):LastAt p l (k:Int)/\k<l.length:=by
 have:=lastI_at p l;rw [h] at this;refine ⟨this,?_⟩;rcases this with ⟨h1,_⟩ | ⟨i,hi,h1,_⟩
 ·exact absurd h1 (by show ((k:Nat):Int) ≠ -1;omega)
 ·have h1:((k:Nat):Int)=i:=h1;omega
def AskE (w:World)(cb B:Nat)(v:Value)(l:List Ee)(p:Plan)(e:Ending)(w':World):Prop:=
 ∃ (u:ByteArray) (a1:Option Addr) (n1 k1:Nat) (st:Int) (a2:Option Addr) (n2 k2:Nat) (bo:ByteArray) (ti:Int) (ua:Option Addr) (uc:Nat) (l':List Ee),e = .returned (.agg #[.int .i64 p.k,.string u,.slice a1 n1 k1,.int .i64 st,.slice a2 n2 k2,.string bo,.int .i64 ti,.slice ua p.hs.length uc])/\Rd w' (⟨u,.slice a1 n1 k1,st,.slice a2 n2 k2,bo,ti⟩:Er) p.e/\SlK hdC 2 w' (.slice ua p.hs.length uc) p.hs/\CaTo w cb B v l' w'/\l'.map (·.2)=p.c/\(∀ y∈l',y∈l)/\NewE (⟨u,.slice a1 n1 k1,st,.slice a2 n2 k2,bo,ti⟩,p.e) w.heap.size/\∀ b off n k,Value.slice ua p.hs.length uc = .slice (some ⟨b,off,none⟩) n k->w.heap.size<=b
theorem aske_of {w:World}{cb B:Nat}{v:Value}{l l':List Ee}{k:Int}{en:En}{hs:List Hd}{c:List En}(hc:l'.map (·.2)=c)(hm:∀ y∈l',y∈l){e:Ending}{w':World}(h:AskQ w cb B v k en hs l' e w'):AskE w cb B v l ⟨k,en,hs,c⟩ e w':=by obtain ⟨r,u,h1,h2,h3,h4,h5,h6⟩:=h;have hs2:=Rd.shp (x:=(r,en)) h2;obtain ⟨⟨a1,n1,k1,e1⟩,a2,n2,k2,e2⟩:=hs2;obtain ⟨ua,uc,rfl,_⟩:=h3.shape;obtain ⟨u,vv,st,hh,bo,ti⟩:=r;have e1:vv = .slice a1 n1 k1:=e1;have e2:hh = .slice a2 n2 k2:=e2;subst e1 e2;exact ⟨u,a1,n1,k1,st,a2,n2,k2,bo,ti,ua,uc,l',h1,h2,h3,h4,hc,hm,h5,h6⟩
theorem ask_all (cb B:Nat)(v:Value)(l:List Ee)(w:World)(hM:MaxAt w)(hJ:CaIn w cb B v l)(hz:∀ x∈l,HdSz x.2.va/\HdSz x.2.hd)(hl:l.length<=1000)(url:ByteArray)(rq:List Hd)(vr:Value)(hq:SlK hdC 2 w vr rq)(hzq:HdSz rq)(now:Int)(p:Plan)(hp:askF (l.map (·.2)) url rq now=p):
 Calls Tryz.prog 169 #[.pointer (some ⟨cb,0,none⟩),.string url,vr,.int .i64 now] w (AskE w cb B v l p):=by
 unfold askF at hp
 rw [lastI_map] at hp
 have hno:∀ R,LastAt (fun x:Ee=>ansB x.2 url rq) l R->(R = -1\/(dirL rq).ns=true)->(⟨1,en0,[],l.map (·.2)⟩:Plan)=p->Calls Tryz.prog 169 #[.pointer (some ⟨cb,0,none⟩),.string url,vr,.int .i64 now] w (AskE w cb B v l p):=by
  rintro R hR h rfl
  exact (ask_no cb B v l w hM hJ hz hl url rq vr hq hzq now R hR _ rfl h).mono fun e w' h=>aske_of rfl (fun y hy=>hy) h
 cases hi:lastI (fun x:Ee=>ansB x.2 url rq) l with
 | none=>rw [hi] at hp;exact hno _ (lastAt_none hi) (.inl rfl) hp
 | some i=>
   rw [hi] at hp
   obtain ⟨hR,hil⟩:=lastAt_some hi
   simp only at hp
   cases hns:(dirL rq).ns with
   | true=>rw [hns,Kf rfl] at hp;exact hno _ hR (.inr hns) hp
   | false=>
     rw [hns,Ke (by decide),Zh,Jd hil] at hp
     simp only [Option.map_some] at hp
     obtain ⟨x,hx⟩:=Ka (l[i])
     rw [hx] at hp
     obtain ⟨D,hD⟩:=Ka (dirL rq)
     rw [hD] at hp hns
     obtain ⟨d1,d2,d3,d4⟩:=D
     obtain rfl:d1=false:=hns
     cases hU:useB ⟨false,d2,d3,d4⟩ x.2 now with
     | true =>
       rw [hU,Kf rfl] at hp
       subst hp
       refine (ask_use cb B v l w hM hJ hz hl url rq vr hq hzq now i hil x hx hR d2 d3 d4 hD hU).mono fun e w' h=>aske_of ?_ ?_ h
       ·rw [Zi,erase_map];rfl
       ·rw [<-hx];exact erase_mem l i hil
     | false =>
       rw [hU,Ke (by decide)] at hp
       by_cases hc:chkL x.2.hd=[]
       ·rw [Kf hc] at hp
        subst hp
        exact (ask_chk0 cb B v l w hM hJ hz hl url rq vr hq hzq now i hil x hx hR d2 d3 d4 hD hU hc).mono fun e w' h=>aske_of rfl (fun y hy=>hy) h
       ·rw [Ke hc] at hp
        subst hp
        exact (ask_chk1 cb B v l w hM hJ hz hl url rq vr hq hzq now i hil x hx hR d2 d3 d4 hD hU _ rfl hc).mono fun e w' h=>aske_of rfl (fun y hy=>hy) h
def PutE (w:World)(cb B:Nat)(v:Value)(l:List Ee)(S:Bool)(es:List En)(e:Ending)(w':World):Prop:=e = .returned (.bool S)/\∃ l':List Ee,CaTo w cb B v l' w'/\l'.map (·.2)=es/\∀ y∈l',y∈l\/NewE y w.heap.size
theorem put_all (cb B:Nat)(v:Value)(l:List Ee)(w:World)(hM:MaxAt w)(hG:0<B)(hjB:B<=cb)(hJ:CaIn w cb B v l)(hz:∀ x∈l,HdSz x.2.va)(hl:l.length<=1000)(url:ByteArray)(rq hs:List Hd)(vr vh:Value)(hq:SlK hdC 2 w vr rq)(hh:SlK hdC 2 w vh hs)(hzq:HdSz rq)(hzh:HdSz hs)(hfq:FarV rq vr cb v.ownBlock)(hfh:FarV hs vh cb v.ownBlock)(st:Int)(body:ByteArray)(now:Int)(S:Bool)(hS:storL st rq hs=S)(es:List En)(hes:putEs (l.map (·.2)) url rq st hs body now S=es):
 Calls Tryz.prog 130 #[.pointer (some ⟨cb,0,none⟩),.string url,vr,.int .i64 st,vh,.string body,.int .i64 now] w (PutE w cb B v l S es):=by
 have hk:(keepL l url rq).map (·.2)=keepE (l.map (·.2)) url rq:=map_filter_en l _ rfl (fun e=>!ansB e url rq)
 have hsub:∀ y∈keepL l url rq,y∈l:=fun y hy=>(Zp.1 hy).1
 cases S with
 | false=>
   refine (put_no cb B v l w hM hG hjB hJ hz hl url rq hs vr vh hq hh hzq hzh hfq hfh st body now hS).mono ?_
   rintro e w' ⟨h1,h2⟩
   exact ⟨h1,_,h2,by rw [hk,<-hes];simp,fun y hy=>.inl (hsub y hy)⟩
 | true=>
   refine (put_yes cb B v l w hM hG hjB hJ hz hl url rq hs vr vh hq hh hzq hzh hfq hfh st body now hS).mono ?_
   rintro e w' ⟨h1,r,h2,h3⟩
   refine ⟨h1,_,h2,by rw [Zi,hk,<-hes];simp,fun y hy=>?_⟩
   rcases Kz.1 hy with h | h
   ·exact .inl (hsub y h)
   ·obtain rfl:=Jc.1 h;exact .inr h3
theorem conf_all (cb B:Nat)(v:Value)(l:List Ee)(w:World)(hJ:CaIn w cb B v l)(hz:∀ x∈l,HdSz x.2.va/\HdSz x.2.hd)(hl:l.length<=1000)(url:ByteArray)(rq hs:List Hd)(vr vh:Value)(hq:SlK hdC 2 w vr rq)(hh:SlK hdC 2 w vh hs)(hzq:HdSz rq)(hzh:HdSz hs)(hhl:hs.length<=100)(hxl:∀ x∈l,x.2.hd.length<=800)(now:Int)(o:Option (En × List En))(ho:confF (l.map (·.2)) url rq hs now=o):
 Calls Tryz.prog 73 #[.pointer (some ⟨cb,0,none⟩),.string url,vr,vh,.int .i64 now] w (match o with | none=>ConfR w cb B v l false en0 (l.map (·.2)) | some (e,c)=>ConfR w cb B v l true e c):=by
 unfold confF at ho
 rw [lastI_map] at ho
 have hcall:=fun R hR=>conf_any l url rq hs now hz hl hzq hzh hhl hxl R hR
 cases hi:lastI (fun x:Ee=>ansB x.2 url rq) l with
 | none=>
   rw [hi] at ho
   subst ho
   obtain ⟨ok,en,es,h1,_,_,hC⟩:=hcall _ (lastAt_none hi)
   rcases h1 with ⟨_,rfl,rfl,rfl⟩ | ⟨i,_,h,_⟩
   ·exact hC l rfl hz cb B v w vr vh hJ hq hh
   ·exact absurd h (by show (-1:Int)≠i;omega)
 | some i=>
   rw [hi] at ho
   obtain ⟨hR,hil⟩:=lastAt_some hi
   simp only [Zh,Jd hil,Option.map_some] at ho
   subst ho
   obtain ⟨ok,en,es,h1,_,_,hC⟩:=hcall _ hR
   rcases h1 with ⟨h,_⟩ | ⟨j,hj,h,rfl,rfl,rfl⟩
   ·exact absurd h (by show (i:Int) ≠ -1;omega)
   ·obtain rfl:i=j:=by omega
    exact hC l rfl hz cb B v w vr vh hJ hq hh
theorem insRev_mem (x y:Ck):∀ l:List Ck,y∈insRev ltC x l->y=x\/y∈l
 | [],h=>.inl (by simpa [insRev] using h)
 | z :: r,h=>by
   unfold insRev at h
   split at h
   ·rcases Ji.1 h with h | h
    ·exact .inr (by rw [h];exact Jz)
    ·exact (insRev_mem x y r h).imp id (fun h=>Jg _ h)
   ·rcases Ji.1 h with h | h
    ·exact .inl h
    ·exact .inr h
theorem insS_mem (y:Ck)(l:List Ck)(h:y∈insS ltC l):y∈l:=by
 have:∀ (l acc:List Ck),y∈l.foldl (fun acc x=>insR ltC x acc) acc->y∈acc\/y∈l:=by
  intro l
  induction l with
  | nil=>intro acc h;exact .inl h
  | cons x r ih=>
    intro acc h
    rw [Xc] at h
    rcases ih _ h with h1 | h1
    ·have h2:y=x\/y∈acc.reverse:=insRev_mem x y _ (by unfold insR at h1;exact List.mem_reverse.1 h1)
     rcases h2 with h2 | h2
     ·exact .inr (by rw [h2];exact Jz)
     ·exact .inl (List.mem_reverse.1 h2)
    ·exact .inr (Jg _ h1)
 rcases this l [] h with h1 | h1
 ·cases h1
 ·exact h1
theorem cook_is (J:List Ck)(now:Int)(S:FSt)(T:ByteArray)(hT:cookF J now S=T)(w:World)(jb:Nat){xs:List Value}(v nx:Value)(hz:USize 40000 S.a S.b S.c S.d S.e S.f)(hM:MaxAt w)(hv:SlK ckL 9 w v J)(hJ:AtL w jb (v :: nx :: xs))(hl:J.length<=1000)(hsz:∀ c∈J,(c.d.size<=100000/\c.p.size<=100000)/\c.n.size<=100000/\c.v.size<=100000):
 Calls Tryz.prog 14 #[.pointer (some ⟨jb,0,none⟩),urlA S.a S.b S.c S.d S.e S.f,.int .i64 now] w fun x w'=>x = .returned (.string T)/\Below w.heap.size w w':=by
 subst hT
 unfold cookF FSt.u
 cases hK:takesB (u6 S.a S.b S.c S.d S.e S.f) with
 | false=>exact header_no S.a S.b S.c S.d S.e S.f now hK jb w hz hM
 | true=>
   have hfl:(J.filter (hitB S.a S.b S.d now)).length<=1000:=Kg (Zj _ _) hl
   have hfm:∀ c∈J.filter (hitB S.a S.b S.d now),c.n.size<=100000/\c.v.size<=100000:=fun c hc=>(hsz c (Zp.1 hc).1).2
   exact header_yes S.a S.b S.c S.d S.e S.f now hK J v nx jb w hz hM hv hJ hl (fun c hc=>(hsz c hc).1) _ _ rfl (sort_long _ hfl) (by rw [insS_length];exact hfl) (fun c hc=>hfm c (insS_mem c _ hc)) _ rfl
theorem e2_mk {W:World}{Q:Nat}{a b c:Value}(h:AtL W Q [a,b,c]):W.cell? ⟨Q,1,none⟩=some b/\W.cell? ⟨Q,2,none⟩=some c:=⟨h.c 1 rfl,h.c 2 rfl⟩
theorem own_nw {w:World}{b e n:Nat}{sa:Option Addr}{c:Nat}{xs:List Value}(h:w.ownsRow b e 2 (.slice sa n c) n xs):∀ b2 off n' k,Value.slice sa n c = .slice (some ⟨b2,off,none⟩) n' k->b<=b2:=fun b2 off n' k e2=>by
 injection e2 with e1 _ _
 exact own_base h (by rw [e1];rfl)
theorem own_farv {w3:World}{b e n cb:Nat}{sa:Option Addr}{c:Nat}{xs:List Value}{L:List Hd}{o:Option Nat}(h:w3.ownsRow b e 2 (.slice sa n c) n xs)(hc:cb<b)(hl:∀ g,o=some g->g<b):FarV L (.slice sa n c) cb o:=fun _ b2 off n' k e2=>by
 have h1:=own_nw h b2 off n' k e2
 exact ⟨by omega,fun e3=>by have:=hl b2 e3;omega⟩
def KeepQ [Prot](w:World)(s0 jb cb B:Nat)(vj:Value)(J:List Ck)(nx:Int)(vc:Value)(S:FSt)(C:List En)(x:Ending)(w':World):Prop:=
 x = .returned (.tuple #[])/\(∀ vh wh,AtL w s0 (fsV S vh wh)->AtL w' s0 (fsV S vh wh))/\∃ (vc':Value) (lx:List Ee),FIn w' s0 jb cb B vj J nx vc' lx S/\lx.map (·.2)=C/\Kp w.heap.size (Mu s0 jb cb vj vc) w w'/\(∀ b,b<w.heap.size->Mu s0 jb cb vj vc' b->Mu s0 jb cb vj vc b)
theorem hs_farv [Prot]{s0 jb cb:Nat}{vj vc u:Value}{w:World}{hs:List Hd}(h:Hs (Mu s0 jb cb vj vc) w u hs):FarV hs u cb vc.ownBlock:=fun h0 b off n c e=>
 ⟨fun e2=>h.2 h0 b off n c e (.inl (.inr (.inr (.inl e2)))),fun e2=>h.2 h0 b off n c e (.inl (.inr (.inr (.inr (.inr e2)))))⟩
theorem KeepQ.of_put [Prot]{w w3 w4:World}{s0 jb cb B:Nat}{vj:Value}{J:List Ck}{nx:Int}{vc:Value}{lx:List Ee}{S:FSt}{C:List En}{b:Bool}{e:Ending}(F:FIn w3 s0 jb cb B vj J nx vc lx S)(hb:Below w.heap.size w w3)(h:PutE w3 cb B vc lx b C e w4):
 KeepQ w s0 jb cb B vj J nx vc S C (.returned (.tuple #[])) w4:=by
 obtain ⟨_,l',h1,h2,h3⟩:=h;obtain ⟨a,c,E,hM,K⟩:=F.env.caTo h1 h3;have hM2:∀ b,b<w.heap.size->Mu s0 jb cb vj (.slice a l'.length c) b->Mu s0 jb cb vj vc b:=fun b hb2=>hM b (Ko hb2 hb.size);have hns:¬ (fun b=>b=cb\/vc.ownBlock=some b) s0:=by
  rintro (e | e)
  ·exact F.env.sc e
  ·exact F.env.cs e
 have hr:=h1.2;have hkp:Kp w3.heap.size (fun b=>b=cb\/vc.ownBlock=some b) w3 w4:=⟨hr.os,hr.tape,hr.output,hr.size,fun i hi hne=>hr.block i hi (fun e=>hne (.inl e)) (fun e=>hne (.inr e))⟩
 refine ⟨rfl,fun vh wh h=>(h.next hb).kp hkp F.env.ls hns,_,l',⟨E,?_⟩,h2,(Kp.of_below hb lr).trans K hb.size (fun _ _ e=>e),hM2⟩;obtain ⟨va,vk,wa,wk,S0,hq,hh⟩:=F.st;exact ⟨va,vk,wa,wk,S0.kp hkp S0.lt hns,hq.kp K lr hM,hh.kp K lr hM⟩
theorem keep_is [Prot]{w:World}{s0 jb cb B:Nat}{vj:Value}{J:List Ck}{nx:Int}{vc:Value}{lx:List Ee}{S:FSt}(F:FIn w s0 jb cb B vj J nx vc lx S)(hz:USize 40000 S.a S.b S.c S.d S.e S.f)(hzq:HdSz S.qh)(hzr:HdSz (hdF S))(hzl:∀ x∈lx,HdSz x.2.va)(hll:lx.length<=1000)
 (st:Int) (u:Value) (hd:List Hd) (body:ByteArray) (now:Int) (hu:Hs (Mu s0 jb cb vj vc) w u hd) (hzd:HdSz hd) :
 Calls Tryz.prog 79 #[.pointer (some ⟨s0,0,none⟩),.int .i64 st,u,.string body,envA jb cb now] w (KeepQ w s0 jb cb B vj J nx vc S (keepF S st hd body now (lx.map (·.2)))):=by
 have hal:=(Kc w).alloc lr (.cells (envL jb cb now).toArray 83);have V1:=AtL.new w (envL jb cb now) 83;have F1:=F.below hal;obtain ⟨ua,uk,rfl⟩:=hu.shape;by_cases hg:(S.sm.toList == getT)=true
 ·obtain ⟨T,hT⟩:=Ka (txB S);obtain ⟨L,hL⟩:=Ka (hdF S);obtain ⟨SB,hSB⟩:=Ka (storL st L hd);have ek:keepF S st hd body now (lx.map (·.2))=putEs (lx.map (·.2)) T L st hd body now SB:=by unfold keepF;rw [Kf hg,hT,hL,hSB]
  rw [ek];rw [hL] at hzr;obtain ⟨es,hes⟩:=Ka (putEs (lx.map (·.2)) T L st hd body now SB);rw [hes];have CT:=Kb (fun (w':World) (F':FIn w' s0 jb cb B vj J nx vc lx S)=>(show Calls Tryz.prog 74 #[.pointer (some ⟨s0,0,none⟩)] w' fun x w''=>x = .returned (.string T)/\Below w'.heap.size w' w'' by obtain ⟨va,vk,wa,wk,S',_,_⟩:=F'.st;exact txt_is S' hz T hT));have CH:=Kb (fun (w':World) (F':FIn w' s0 jb cb B vj J nx vc lx S)=>(show Calls Tryz.prog 75 #[.pointer (some ⟨s0,0,none⟩)] w' (HdsQ w' L) by obtain ⟨va,vk,wa,wk,S',hq',_⟩:=F'.st;exact headers_is S s0 _ _ w' F'.env.mx S' hq'.1 hzq hz L hL));have CP:=Kb (fun (w':World) (F':FIn w' s0 jb cb B vj J nx vc lx S) (vr:Value) (hq:SlK hdC 2 w' vr L) (hfq:FarV L vr cb vc.ownBlock) (hh:Hs (Mu s0 jb cb vj vc) w' (.slice ua hd.length uk) hd)=>put_all cb B vc lx w' F'.env.mx F'.env.gm F'.env.bc F'.env.ca hzl hll T L hd vr (.slice ua hd.length uk) hq hh.1 hzr hzd hfq (hs_farv hh) st body now SB hSB es hes);have HF1:=Kb F1;have HU:=Kb hu;obtain ⟨E,va,vk,wa,wk,S0,hq,hh⟩:=F;have hg2:(S.sm.toList == [71,69,84])=true:=hg;have z15:w.cell? ⟨s0,15,none⟩=some (.string S.sm):=S0.c 15 rfl;have zl:=S0.lt;clear hq hh ek hes hSB hT hL hzr hzd hzl hu F1 S0;have hcl:=E.lc;have HCL:Hid (∀ g,vc.ownBlock=some g->g<w.heap.size):=Kb (fun g hg=>E.cl hg);obtain ⟨sm,hsm⟩:∃ sm,S.sm=sm:=⟨_,rfl⟩
  rw [hsm] at hg2 z15;clear hsm hg E;go_enter Tryz.func79,Tryz.ntmps79;go_upto_region 2 with fail;obtain ⟨w1,hw1⟩:∃ w1:World,w.alloc (.cells (envL jb cb now).toArray 83)=w1:=⟨_,rfl⟩
  obtain ⟨V,hV⟩:=Ka w.heap.size;rw [hw1] at hal V1 HF1;rw [hV] at V1;rw [show w.alloc (.cells #[.pointer (some ⟨jb,0,none⟩),.pointer (some ⟨cb,0,none⟩),.int .i64 now] 83)=w1 from hw1,hV];have HAL:=Kb hal;have HVV:=Kb hV;clear hw1 hV hal;have v_:=V1.o3;have vl:=V1.lt
  go_region_held3 (fun w'=>w'.cell? ⟨V,1,none⟩=some (.pointer (some ⟨cb,0,none⟩))/\w'.cell? ⟨V,2,none⟩=some (.int .i64 now))
   (first | with_reducible exact e2_mk V1.drew | with_reducible exact e2_mk V2 | with_reducible exact e2_mk V3 | with_reducible exact e2_mk V4 | go_keep)
   (first
     | ((with_reducible refine (CT.out w1.drew (HF1.out.below (Kc w1).drew)).mono ?_);rintro e2 w2 ⟨rfl,hbb2⟩;have h12:Below w1.heap.size w1 w2:=(Below.refl w1.heap.size w1).drew.trans hbb2;have V2:=V1.next h12;have HF2:=Kb (HF1.out.below h12))
     | ((with_reducible refine (CH.out w2 HF2.out).mono ?_);rintro e3 w3 hq3;obtain ⟨v3,rfl,o3,_,h23⟩:=hq3;obtain ⟨oa,oc,rfl,_⟩:=own_reads o3;have V3:=V2.next h23;have HF3:=Kb (HF2.out.below h23);have B3:=Kb (HAL.out.trans ((h12.trans (h23.mono h12.size)).mono HAL.out.size));have CP3:=Kb (CP.out w3 HF3.out _ (SlK.of_own hdC_len o3) (own_farv o3 (by have h2:=h12.size;have h3:=HAL.out.size;omega) (fun g hg=>by have h2:=h12.size;have h3:=HAL.out.size;have:=HCL.out g hg;omega)) (HU.out.below B3.out)))
     | ((with_reducible refine CP3.out.mono ?_);rintro e4 w4 hq4;have HQ:=Kb (KeepQ.of_put HF3.out B3.out hq4);obtain ⟨rfl,l4,hc4,-,-⟩:=hq4;have V4:=V3.row hc4.2 V3.lt (by have:=HVV.out;omega) (fun e=>by have:=HCL.out _ e;have:=HVV.out;omega))
     | fail)
  go_wp2_with fail;go_end0;exact HQ.out
 ·have ek:keepF S st hd body now (lx.map (·.2))=lx.map (·.2):=by unfold keepF;rw [Ke hg]
  rw [ek];have HE:Hid (KeepQ w s0 jb cb B vj J nx vc S (lx.map (·.2)) (.returned (.tuple #[])) _):=Kb ⟨rfl,fun vh wh h=>h.next hal,vc,lx,F1,rfl,Kp.of_below hal lr,fun _ _ e=>e⟩;obtain ⟨E,va,vk,wa,wk,S0,hq,hh⟩:=F;have hg2:(S.sm.toList == [71,69,84])=false:=by simpa using hg
  have z15:w.cell? ⟨s0,15,none⟩=some (.string S.sm):=S0.c 15 rfl;have zl:=S0.lt;obtain ⟨sm,hsm⟩:∃ sm,S.sm=sm:=⟨_,rfl⟩
  rw [hsm] at hg2 z15;clear hq hh ek hg E hzl hu F1 S0 hzr hzd hzq hz hsm;go_enter Tryz.func79,Tryz.ntmps79;go_wp2_with fail;go_end0;exact HE.out
section
variable {w w' : World} {s0 jb cb B : Nat} {vj : Value} {J : List Ck} {nx : Int} {vc : Value} {lx : List Ee} {S S' : FSt}
theorem FIn.set [Prot](h:FIn w s0 jb cb B vj J nx vc lx S)(i:Nat)(v:Value)(e:∀ vh wh,(fsV S vh wh).set i v=fsV S' vh wh)(e1:S'.qh=S.qh)(e2:S'.hs=S.hs):FIn (w.setCell ⟨s0,i,none⟩ v) s0 jb cb B vj J nx vc lx S':=by
 obtain ⟨E,va,vk,wa,wk,S0,hq,hh⟩:=h;have K:=(Kp.refl w.heap.size (Mu s0 jb cb vj vc) w).setCell ⟨s0,i,none⟩ (.inl E.ms) v;refine ⟨E.set i v,va,vk,wa,wk,?_,?_,?_⟩
 ·have:=S0.set i v;rw [e] at this;rw [e1,e2];exact this
 ·rw [e1];exact hq.same K lr
 ·rw [e2];exact hh.same K lr
abbrev setU6 (w:World)(s0:Nat)(a b c d e f:ByteArray):World:=(((((w.setCell ⟨s0,9,none⟩ (.string a)).setCell ⟨s0,10,none⟩ (.string b)).setCell ⟨s0,11,none⟩ (.string c)).setCell ⟨s0,12,none⟩ (.string d)).setCell ⟨s0,13,none⟩ (.string e)).setCell ⟨s0,14,none⟩ (.string f)
theorem FIn.url [Prot](h:FIn w s0 jb cb B vj J nx vc lx S)(a b c d e f:ByteArray):FIn (setU6 w s0 a b c d e f) s0 jb cb B vj J nx vc lx { S with a:=a,b:=b,c:=c,d:=d,e:=e,f:=f }:=
 (((((h.set (S':={ S with a:=a }) 9 (.string a) (fun _ _=>rfl) rfl rfl).set (S':={ S with a:=a,b:=b }) 10 (.string b) (fun _ _=>rfl) rfl rfl).set (S':={ S with a:=a,b:=b,c:=c }) 11 (.string c) (fun _ _=>rfl) rfl rfl).set (S':={ S with a:=a,b:=b,c:=c,d:=d }) 12 (.string d) (fun _ _=>rfl) rfl rfl).set (S':={ S with a:=a,b:=b,c:=c,d:=d,e:=e }) 13 (.string e) (fun _ _=>rfl) rfl rfl).set (S':={ S with a:=a,b:=b,c:=c,d:=d,e:=e,f:=f }) 14 (.string f) (fun _ _=>rfl) rfl rfl
theorem Kp.url {n:Nat}{M:Nat->Prop}{w1:World}(h:Kp n M w1 w)(hM:M s0)(a b c d e f:ByteArray):Kp n M w1 (setU6 w s0 a b c d e f):=
 (((((h.setCell ⟨s0,9,none⟩ (.inl hM) _).setCell ⟨s0,10,none⟩ (.inl hM) _).setCell ⟨s0,11,none⟩ (.inl hM) _).setCell ⟨s0,12,none⟩ (.inl hM) _).setCell ⟨s0,13,none⟩ (.inl hM) _).setCell ⟨s0,14,none⟩ (.inl hM) _
theorem AtL.url {k:Nat}{vs:List Value}(h:AtL w k vs)(hk:s0≠k)(a b c d e f:ByteArray):AtL (setU6 w s0 a b c d e f) k vs:=
 (((((h.far ⟨s0,9,none⟩ _ hk).far ⟨s0,10,none⟩ _ hk).far ⟨s0,11,none⟩ _ hk).far ⟨s0,12,none⟩ _ hk).far ⟨s0,13,none⟩ _ hk).far ⟨s0,14,none⟩ _ hk
theorem FIn.cells [Prot](h:FIn w s0 jb cb B vj J nx vc lx S):∃ vh wh,AtL w s0 (fsV S vh wh)/\SlK hdC 2 w vh S.qh/\SlK hdC 2 w wh S.hs:=by obtain ⟨va,vk,wa,wk,S0,hq,hh⟩:=h.st;exact ⟨_,_,S0,hq.1,hh.1⟩
structure RedA [Prot](w0:World)(s0 jb cb B:Nat)(vj:Value)(J:List Ck)(nx:Int)(vc:Value)(S:FSt)(C:List En)(V:Nat)(now:Int)(vc1:Value)(lx1:List Ee)(wx:World):Prop where
 f:FIn wx s0 jb cb B vj J nx vc1 lx1 S
 c:lx1.map (·.2)=C
 k:Kp w0.heap.size (Mu s0 jb cb vj vc) w0 wx
 m:∀ b,b<w0.heap.size->Mu s0 jb cb vj vc1 b->Mu s0 jb cb vj vc b
 v:AtL wx V (envL jb cb now)
theorem RedA.below [Prot]{w0:World}{C:List En}{V:Nat}{now:Int}{vc1:Value}{lx1:List Ee}(h:RedA w0 s0 jb cb B vj J nx vc S C V now vc1 lx1 w)(hb:Below w.heap.size w w'):RedA w0 s0 jb cb B vj J nx vc S C V now vc1 lx1 w':=
 ⟨h.f.below hb,h.c,h.k.below hb h.k.size,h.m,h.v.next hb⟩
theorem RedA.set [Prot]{w0:World}{C:List En}{V:Nat}{now:Int}{vc1:Value}{lx1:List Ee}(h:RedA w0 s0 jb cb B vj J nx vc S C V now vc1 lx1 w)(hV:s0≠V)(i:Nat)(v:Value)(e:∀ vh wh,(fsV S vh wh).set i v=fsV S' vh wh)(e1:S'.qh=S.qh)(e2:S'.hs=S.hs):RedA w0 s0 jb cb B vj J nx vc S' C V now vc1 lx1 (w.setCell ⟨s0,i,none⟩ v):=
 ⟨h.f.set i v e e1 e2,h.c,h.k.setCell ⟨s0,i,none⟩ (.inl (.inl rfl)) v,h.m,h.v.far ⟨s0,i,none⟩ v hV⟩
theorem RedA.url [Prot]{w0:World}{C:List En}{V:Nat}{now:Int}{vc1:Value}{lx1:List Ee}(h:RedA w0 s0 jb cb B vj J nx vc S C V now vc1 lx1 w)(hV:s0≠V)(a b c d e f:ByteArray):RedA w0 s0 jb cb B vj J nx vc { S with a:=a,b:=b,c:=c,d:=d,e:=e,f:=f } C V now vc1 lx1 (setU6 w s0 a b c d e f):=
 ⟨h.f.url a b c d e f,h.c,h.k.url (.inl rfl) a b c d e f,h.m,h.v.url hV a b c d e f⟩
theorem RedA.fin [Prot]{w0:World}{C:List En}{V:Nat}{now:Int}{vc1:Value}{lx1:List Ee}{o:Out}{x:Ending}(h:RedA w0 s0 jb cb B vj J nx vc S C V now vc1 lx1 w)(q:StepQ w s0 jb cb B vj J nx vc1 o x w'):StepQ w0 s0 jb cb B vj J nx vc o x w':=q.pre h.k h.m
end
theorem stepq_shape [Prot]{w w':World}{s0 jb cb B:Nat}{vj:Value}{J:List Ck}{nx:Int}{vc:Value}{o:Out}{x:Ending}(h:StepQ w s0 jb cb B vj J nx vc o x w'):∃ a n c,x = .returned (.slice a n c):=by obtain ⟨v,l,vc',lx,h1,h2,h3,h4,h5,h6⟩:=h;obtain ⟨a,c,rfl,_⟩:=own_reads h4.own;exact ⟨a,_,c,h1⟩
theorem rslv_none (S:FSt)(hS:USize 40000 S.a S.b S.c S.d S.e S.f)(loc:ByteArray)(hl:loc.size<=40000)(h:resolveL S.u (validB S.u) (trimL loc.data.toList)=none)(w:World)(hM:MaxAt w):
 Calls Tryz.prog 189 #[.agg #[.string S.a,.string S.b,.string S.c,.string S.d,.string S.e,.string S.f],.string loc] w fun x w'=>x = .returned (.tuple #[.agg #[.string ⟨#[]⟩,.string ⟨#[]⟩,.string ⟨#[]⟩,.string ⟨#[]⟩,.string ⟨#[]⟩,.string ⟨#[]⟩],.int .i64 4])/\Below w.heap.size w w':=by have:=resolve_any S.a S.b S.c S.d S.e S.f loc w hM hS.a hS.b hS.c hS.d hS.e hS.f hl;rw [show resolveL (S.a.data.toList,S.b.data.toList,S.c.data.toList,S.d.data.toList,S.e.data.toList,S.f.data.toList) (validB (S.a.data.toList,S.b.data.toList,S.c.data.toList,S.d.data.toList,S.e.data.toList,S.f.data.toList)) (trimL loc.data.toList)=none from h] at this;exact this
theorem rslv_some (S:FSt)(hS:USize 40000 S.a S.b S.c S.d S.e S.f)(loc:ByteArray)(hl:loc.size<=40000)(ra rb rc rd re rf:List UInt8)(h:resolveL S.u (validB S.u) (trimL loc.data.toList)=some (ra,rb,rc,rd,re,rf))(w:World)(hM:MaxAt w):
 Calls Tryz.prog 189 #[.agg #[.string S.a,.string S.b,.string S.c,.string S.d,.string S.e,.string S.f],.string loc] w fun x w'=>x = .returned (.tuple #[.agg #[.string (bs ra),.string (bs rb),.string (bs rc),.string (bs rd),.string (bs re),.string (bs rf)],.int .i64 0])/\Below w.heap.size w w':=by have:=resolve_any S.a S.b S.c S.d S.e S.f loc w hM hS.a hS.b hS.c hS.d hS.e hS.f hl;rw [show resolveL (S.a.data.toList,S.b.data.toList,S.c.data.toList,S.d.data.toList,S.e.data.toList,S.f.data.toList) (validB (S.a.data.toList,S.b.data.toList,S.c.data.toList,S.d.data.toList,S.e.data.toList,S.f.data.toList)) (trimL loc.data.toList)=some (ra,rb,rc,rd,re,rf) from h] at this;exact this
theorem u6_cells {W w':World}{s U:Nat}{a b c d e f m o:Value}(h2:AtL W U [a,b,c,d,e,f])(hm:W.cell? ⟨s,4,none⟩=some m)(ho:W.cell? ⟨s,3,none⟩=some o)(hb:Below W.heap.size W w'):w'.cell? ⟨s,4,none⟩=some m/\w'.cell? ⟨s,3,none⟩=some o/\w'.cell? ⟨U,0,none⟩=some a/\w'.cell? ⟨U,1,none⟩=some b/\w'.cell? ⟨U,2,none⟩=some c/\w'.cell? ⟨U,3,none⟩=some d/\w'.cell? ⟨U,4,none⟩=some e/\w'.cell? ⟨U,5,none⟩=some f:=
 have k':=h2.next hb
 ⟨(brl hb _ _ (cell_lt hm)).trans hm,(brl hb _ _ (cell_lt ho)).trans ho,k'.c 0 rfl,k'.c 1 rfl,k'.c 2 rfl,k'.c 3 rfl,k'.c 4 rfl,k'.c 5 rfl⟩
end Go.Proofs.YtjdhaacmlpegoaaGreatDoor
