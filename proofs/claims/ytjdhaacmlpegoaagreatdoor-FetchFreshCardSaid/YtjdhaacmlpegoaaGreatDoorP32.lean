/- Part 32 of what the proof needs: XH. -/
import Derived.Test.YtjdhaacmlpegoaaGreatDoorP31
import Derived.Test.YtjdhaacmlpegoaaGreatDoorP13
import Derived.Test.YtjdhaacmlpegoaaGreatDoorP01
set_option maxRecDepth 20000
set_option maxHeartbeats 16000000
namespace Go.Proofs.YtjdhaacmlpegoaaGreatDoor
open Go.RowKit
set_option linter.unusedSimpArgs false
set_option linter.unusedVariables false
theorem drewn_below (B:Nat)(w:World)(n:Nat):Below B w (w.drewN n):=⟨rfl,rfl,rfl,lr,fun _ _=>rfl⟩
theorem rs3_mk {W w':World}{R s:Nat}{r0 r1 r2 r3 r4 r5 r6 r7:Value}{tk:Int}{me ur og:ByteArray}{mo:Int}{vh:Value}{bo:ByteArray}{ck:Bool}{ph:Int}{a b c d e f sm:ByteArray}{ho:Int}{ch hi:Bool}{st:Int}{wh:Value}{sb:ByteArray}{er:Int}(h:AtL W R [r0,r1,r2,r3,r4,r5,r6,r7])(h2:AtL W s (fsC tk me ur og mo vh bo ck ph a b c d e f sm ho ch hi st wh sb er))(hb:Below W.heap.size W w'):w'.cell? ⟨R,4,none⟩=some r4/\w'.cell? ⟨R,3,none⟩=some r3/\w'.cell? ⟨R,7,none⟩=some r7/\w'.cell? ⟨s,9,none⟩=some (.string a)/\w'.cell? ⟨s,10,none⟩=some (.string b)/\w'.cell? ⟨s,11,none⟩=some (.string c)/\w'.cell? ⟨s,12,none⟩=some (.string d)/\w'.cell? ⟨s,13,none⟩=some (.string e)/\w'.cell? ⟨s,14,none⟩=some (.string f):=
 have h':=h.next hb
 have k':=h2.next hb
 ⟨h'.c 4 rfl,h'.c 3 rfl,h'.c 7 rfl,k'.c 9 rfl,k'.c 10 rfl,k'.c 11 rfl,k'.c 12 rfl,k'.c 13 rfl,k'.c 14 rfl⟩
theorem rdb_is (S:FS)(s0:Nat)(va:Option Addr)(vk:Nat)(wh:Value)(w:World)(hM:MaxAt w)(S0:AtL w s0 (fsV S (.slice va S.qh.length vk) wh))(hz:USize 40000 S.a S.b S.c S.d S.e S.f)(u:Value)(hd:List Hd)(hu:SlK hdC 2 w u hd)(hzh:HdSz hd)(R:Bool)(hR:rdF S hd=R):
 Calls Tryz.prog 129 #[.pointer (some ⟨s0,0,none⟩),u] w fun e w'=>e = .returned (.bool R)/\Below w.heap.size w w':=by
 obtain ⟨ua,uk,rfl,_⟩:=hu.shape
 obtain ⟨tk,me,ur,og,mo,qh,qb,ck,ph,a,b,c,d,e,f,sm,ho,ch,hi,st,hs,sb,er⟩:=S
 have S0:AtL w s0 (fsC tk me ur og mo (.slice va qh.length vk) qb ck ph a b c d e f sm ho ch hi st wh sb er):=S0
 obtain ⟨ha,hb,hc,hdd,he,hf⟩:USize 40000 a b c d e f:=hz
 have hal:=(Below.refl _ w).alloc lr (.cells [.int .i64 tk,.string me,.string ur,.string og,.int .i64 mo,.slice va qh.length vk,.string qb,.bool ck].toArray 30)
 have A1:=AtL.new w [.int .i64 tk,.string me,.string ur,.string og,.int .i64 mo,.slice va qh.length vk,.string qb,.bool ck] 30
 have S1:=S0.next hal
 have z_:=S0.o23
 have zl:=S0.lt
 by_cases h4:mo=4
 ·obtain rfl:true=R:=by rw [<-hR];unfold rdF;rw [decide_eq_true h4];rfl
  subst h4
  clear hR hM hu hzh
  go_enter Tryz.func129,Tryz.ntmps129
  go_upto_region 2 with fail
  obtain ⟨w1,hw1⟩:∃ w1:World,w.alloc (.cells [.int .i64 tk,.string me,.string ur,.string og,.int .i64 4,.slice va qh.length vk,.string qb,.bool ck].toArray 30)=w1:=⟨_,rfl⟩
  obtain ⟨R1,hR1⟩:∃ R1,w.heap.size=R1:=⟨_,rfl⟩
  rw [hw1] at hal A1 S1
  rw [hR1] at A1
  rw [show w.alloc (.cells #[.int .i64 tk,.string me,.string ur,.string og,.int .i64 4,.slice va qh.length vk,.string qb,.bool ck] 30)=w1 from hw1,hR1]
  have HAL:Hid (Below w.heap.size w w1):=Lib.hid hal
  clear hw1 hR1 hal
  have r_:=A1.o8
  clear z_
  have z_:=S1.o23
  have rl:=A1.lt
  have sl:=S1.lt
  go_quiet (fail)
  go_wp2_with fail
  go_ret
  exact ⟨rfl,HAL.out.trans (drewn_below _ _ _)⟩
 ·have hR2:readB og mo ck (bs (orgL (u6 a b c d e f))) hd=R:=by rw [<-hR];unfold rdF;rw [decide_eq_false h4];rfl
  have h4':(mo == 4)=false:=beq_eq_false_iff_ne.2 h4
  have CR:=Lib.hid (fun (w':World) (hb':Below w.heap.size w w')=>readable_is og mo ck a b c d e f (.slice ua hd.length uk) hd w' (hM.below hb' lr) (hu.below hb' lr) hzh ha hb hc hdd he hf (bs (orgL (u6 a b c d e f))) rfl R hR2)
  clear hR hR2 hM h4 hu hzh
  go_enter Tryz.func129,Tryz.ntmps129
  go_upto_region 2 with fail
  obtain ⟨w1,hw1⟩:∃ w1:World,w.alloc (.cells [.int .i64 tk,.string me,.string ur,.string og,.int .i64 mo,.slice va qh.length vk,.string qb,.bool ck].toArray 30)=w1:=⟨_,rfl⟩
  obtain ⟨R1,hR1⟩:∃ R1,w.heap.size=R1:=⟨_,rfl⟩
  rw [hw1] at hal A1 S1
  rw [hR1] at A1
  rw [show w.alloc (.cells #[.int .i64 tk,.string me,.string ur,.string og,.int .i64 mo,.slice va qh.length vk,.string qb,.bool ck] 30)=w1 from hw1,hR1]
  have HAL:Hid (Below w.heap.size w w1):=Lib.hid hal
  clear hw1 hR1 hal
  have r_:=A1.o8
  clear z_
  have z_:=S1.o23
  have rl:=A1.lt
  have sl:=S1.lt
  go_region_held3 (fun w'=>w'.cell? ⟨R1,4,none⟩=some (.int .i64 mo)/\w'.cell? ⟨R1,3,none⟩=some (.string og)/\w'.cell? ⟨R1,7,none⟩=some (.bool ck)/\w'.cell? ⟨s0,9,none⟩=some (.string a)/\w'.cell? ⟨s0,10,none⟩=some (.string b)/\w'.cell? ⟨s0,11,none⟩=some (.string c)/\w'.cell? ⟨s0,12,none⟩=some (.string d)/\w'.cell? ⟨s0,13,none⟩=some (.string e)/\w'.cell? ⟨s0,14,none⟩=some (.string f))
   (first | exact rs3_mk A1 S1 (Below.refl _ w1).drew | exact rs3_mk A1 S1 hb2 | go_keep)
   (first | (go_at_call 24;(with_reducible refine (CR.out _ HAL.out.drew).mono ?_);rintro e2 w2 ⟨rfl,hbb2⟩;have hb2:Below w1.heap.size w1 w2:=(Below.refl w1.heap.size w1).drew.trans hbb2) | fail)
  go_wp2_with fail
  go_ret
  exact ⟨rfl,HAL.out.trans (hb2.mono HAL.out.size)⟩
theorem empty_size (p:ByteArray):p.toList.isEmpty=decide (p.size=0):=by
 rw [Bool.eq_iff_iff,decide_eq_true_eq,List.isEmpty_iff,ByteArray.toList_eq,<-size_len]
 exact List.length_eq_zero_iff.symm
theorem data_is [Prot]{w:World}{s0 jb cb B:Nat}{vj:Value}{J:List Ck}{nx:Int}{vc:Value}{lx:List Ee}{S:FS}(F:FIn w s0 jb cb B vj J nx vc lx S)(p:ByteArray)(hp:p.size<=10000000)(hsb:S.sb.size<=10000000)(now:Int):
 Calls Tryz.prog 34 #[.pointer (some ⟨s0,0,none⟩),.string p,envA jb cb now] w (StepQ w s0 jb cb B vj J nx vc ⟨(dataF p S).1,lx.map (·.2),(dataF p S).2⟩):=by
 have hal:=(Below.refl _ w).alloc lr (.cells (envL jb cb now).toArray 83)
 have F1:=F.below hal
 have CF:=Lib.hid (fail_is F1 5)
 by_cases hph:S.ph=2
 ·by_cases hlim:1048576<S.sb.size+p.size
  ·have ee:(⟨(dataF p S).1,lx.map (·.2),(dataF p S).2⟩:Out)=failO S (lx.map (·.2)) 5:=by unfold dataF;rw [if_pos hph,if_pos hlim];rfl
   rw [ee]
   clear ee
   obtain ⟨E,va,vk,wa,wk,S0,hq,hh⟩:=F1
   obtain ⟨tk,me,ur,og,mo,qh,qb,ck,ph,a,b,c,d,e,f,sm,ho,ch,hi,st,hs,sb,er⟩:=S
   have S0:AtL (w.alloc (.cells (envL jb cb now).toArray 83)) s0 (fsC tk me ur og mo (.slice va qh.length vk) qb ck ph a b c d e f sm ho ch hi st (.slice wa hs.length wk) sb er):=S0
   obtain rfl:ph=2:=hph
   have hsb:sb.size<=10000000:=hsb
   have hl1:(1048576:Int)<(sb.size:Int)+(p.size:Int):=by have h:1048576<sb.size+p.size:=hlim;omega
   clear hq hh E hlim F
   have z_:=S0.o23;have y_:=S0.of23
   have zl:=S0.lt
   go_enter Tryz.func34,Tryz.ntmps34
   go_wp2_with (go_at_call 76;(with_reducible refine CF.out.mono ?_);rintro e1 w1 hq1;have HQ:=Lib.hid hq1;obtain ⟨v1,l1,vc1,lx1,rfl,-,-,hv1,-,-⟩:=hq1;obtain ⟨oa,oc,rfl,_⟩:=own_reads hv1.own)
   go_ret
   exact HQ.out.below hal
  ·by_cases hem:p.size=0\/S.hi=true
   ·have ee:(⟨(dataF p S).1,lx.map (·.2),(dataF p S).2⟩:Out)=⟨{ S with sb:=S.sb ++ p },lx.map (·.2),[]⟩:=by unfold dataF;rw [if_pos hph,if_neg hlim,if_pos hem]
    rw [ee]
    clear ee
    obtain ⟨E,va,vk,wa,wk,S0,hq,hh⟩:=F1
    obtain ⟨tk,me,ur,og,mo,qh,qb,ck,ph,a,b,c,d,e,f,sm,ho,ch,hi,st,hs,sb,er⟩:=S
    have S0:AtL (w.alloc (.cells (envL jb cb now).toArray 83)) s0 (fsC tk me ur og mo (.slice va qh.length vk) qb ck ph a b c d e f sm ho ch hi st (.slice wa hs.length wk) sb er):=S0
    obtain rfl:ph=2:=hph
    have hsb:sb.size<=10000000:=hsb
    have hl1:¬ (1048576:Int)<(sb.size:Int)+(p.size:Int):=by have h:¬ 1048576<sb.size+p.size:=hlim;omega
    have S2:AtL _ s0 (fsC tk me ur og mo (.slice va qh.length vk) qb ck 2 a b c d e f sm ho ch hi st (.slice wa hs.length wk) (sb ++ p) er):=S0.set 21 (.string (sb ++ p))
    have K2:=((Kp.refl w.heap.size (Mu s0 jb cb vj vc) w).below hal lr).setCell ⟨s0,21,none⟩ (.inl E.ms) (.string (sb ++ p))
    have K3:=(Kp.refl (w.alloc (.cells (envL jb cb now).toArray 83)).heap.size (Mu s0 jb cb vj vc) (w.alloc (.cells (envL jb cb now).toArray 83))).setCell ⟨s0,21,none⟩ (.inl E.ms) (.string (sb ++ p))
    have HE:=Lib.hid (StepQ.none (w:=w) (o:=⟨⟨tk,me,ur,og,mo,qh,qb,ck,2,a,b,c,d,e,f,sm,ho,ch,hi,st,hs,sb ++ p,er⟩,lx.map (·.2),[]⟩) (E.set 21 (.string (sb ++ p))) ⟨va,vk,wa,wk,S2,hq.same K3 lr,hh.same K3 lr⟩ rfl K2 (fun _ _ e=>e) rfl)
    have hpe:=empty_size p
    have hem:p.size=0\/hi=true:=hem
    clear hq hh E hlim F S2 K2 K3
    by_cases hp0:p.size=0
    ·have hpe1:p.toList.isEmpty=true:=by rw [hpe,decide_eq_true hp0]
     clear hpe hem hp0
     have z_:=S0.o23;have y_:=S0.of23
     have zl:=S0.lt
     go_enter Tryz.func34,Tryz.ntmps34
     go_wp2_with fail
     go_ret
     exact HE.out
    ·have hpe1:p.toList.isEmpty=false:=by rw [hpe,decide_eq_false hp0]
     obtain rfl:hi=true:=hem.resolve_left hp0
     clear hpe hem hp0
     have z_:=S0.o23;have y_:=S0.of23
     have zl:=S0.lt
     go_enter Tryz.func34,Tryz.ntmps34
     go_wp2_with fail
     go_ret
     exact HE.out
   ·have ee:(⟨(dataF p S).1,lx.map (·.2),(dataF p S).2⟩:Out)=⟨{ S with sb:=S.sb ++ p },lx.map (·.2),[⟨3,eS,eS,[],p,0,0⟩]⟩:=by unfold dataF;rw [if_pos hph,if_neg hlim,if_neg hem]
    rw [ee]
    clear ee
    obtain ⟨E,va,vk,wa,wk,S0,hq,hh⟩:=F1
    obtain ⟨tk,me,ur,og,mo,qh,qb,ck,ph,a,b,c,d,e,f,sm,ho,ch,hi,st,hs,sb,er⟩:=S
    have S0:AtL (w.alloc (.cells (envL jb cb now).toArray 83)) s0 (fsC tk me ur og mo (.slice va qh.length vk) qb ck ph a b c d e f sm ho ch hi st (.slice wa hs.length wk) sb er):=S0
    obtain rfl:ph=2:=hph
    have hsb:sb.size<=10000000:=hsb
    have hl1:¬ (1048576:Int)<(sb.size:Int)+(p.size:Int):=by have h:¬ 1048576<sb.size+p.size:=hlim;omega
    have S2:AtL _ s0 (fsC tk me ur og mo (.slice va qh.length vk) qb ck 2 a b c d e f sm ho ch hi st (.slice wa hs.length wk) (sb ++ p) er):=S0.set 21 (.string (sb ++ p))
    have K2:=((Kp.refl w.heap.size (Mu s0 jb cb vj vc) w).below hal lr).setCell ⟨s0,21,none⟩ (.inl E.ms) (.string (sb ++ p))
    have K3:=(Kp.refl (w.alloc (.cells (envL jb cb now).toArray 83)).heap.size (Mu s0 jb cb vj vc) (w.alloc (.cells (envL jb cb now).toArray 83))).setCell ⟨s0,21,none⟩ (.inl E.ms) (.string (sb ++ p))
    have HE:=Lib.hid (StepQ.one (w:=w) (o:=⟨⟨tk,me,ur,og,mo,qh,qb,ck,2,a,b,c,d,e,f,sm,ho,ch,hi,st,hs,sb ++ p,er⟩,lx.map (·.2),[⟨3,eS,eS,[],p,0,0⟩]⟩) (E.set 21 (.string (sb ++ p))) ⟨va,vk,wa,wk,S2,hq.same K3 lr,hh.same K3 lr⟩ rfl K2 (fun _ _ e=>e) (.slice none 0 0) ⟨3,eS,eS,[],p,0,0⟩ rfl (Hs.nil _ _) (w.heap.size+1) (by simp only [World.size_setCell];simp))
    have hpe1:p.toList.isEmpty=false:=by rw [empty_size,decide_eq_false (fun h=>hem (.inl h))]
    obtain rfl:hi=false:=by
     cases hi
     ·rfl
     ·exact absurd (.inr rfl) hem
    clear hq hh E hlim F S2 K2 K3 hem
    have z_:=S0.o23;have y_:=S0.of23
    have zl:=S0.lt
    go_enter Tryz.func34,Tryz.ntmps34
    go_wp2_with fail
    go_ret
    exact HE.out
 ·have ee:(⟨(dataF p S).1,lx.map (·.2),(dataF p S).2⟩:Out)=⟨S,lx.map (·.2),[]⟩:=by unfold dataF;rw [if_neg hph]
  rw [ee]
  clear ee
  have HE:=Lib.hid (StepQ.none (w:=w) (o:=⟨S,lx.map (·.2),[]⟩) F1.env F1.st rfl (Kp.of_below hal lr) (fun _ _ e=>e) rfl)
  obtain ⟨E,va,vk,wa,wk,S0,hq,hh⟩:=F1
  obtain ⟨tk,me,ur,og,mo,qh,qb,ck,ph,a,b,c,d,e,f,sm,ho,ch,hi,st,hs,sb,er⟩:=S
  have S0:AtL (w.alloc (.cells (envL jb cb now).toArray 83)) s0 (fsC tk me ur og mo (.slice va qh.length vk) qb ck ph a b c d e f sm ho ch hi st (.slice wa hs.length wk) sb er):=S0
  have h2:(ph == 2)=false:=beq_eq_false_iff_ne.2 hph
  have h2n:(ph != 2)=true:=by simp only [bne];rw [h2];rfl
  clear hq hh E F hph
  have z_:=S0.o23;have y_:=S0.of23
  have zl:=S0.lt
  go_enter Tryz.func34,Tryz.ntmps34
  go_wp2_with fail
  go_ret
  exact HE.out
end Go.Proofs.YtjdhaacmlpegoaaGreatDoor
