/- Part 31 of what the proof needs: TF XF XG. -/
import Derived.Test.YtjdhaacmlpegoaaGreatDoorP13
import Derived.Test.YtjdhaacmlpegoaaGreatDoorP16
import Derived.Test.YtjdhaacmlpegoaaGreatDoorP01
import Derived.Test.YtjdhaacmlpegoaaGreatDoorP30
set_option maxRecDepth 20000
set_option maxHeartbeats 16000000
namespace Go.Proofs.YtjdhaacmlpegoaaGreatDoor
open Go.RowKit
set_option linter.unusedSimpArgs false
set_option linter.unusedVariables false
theorem s7_mk {W w':World}{s:Nat}{tk:Int}{me ur og:ByteArray}{mo:Int}{vh:Value}{bo:ByteArray}{ck:Bool}{ph:Int}{a b c d e f sm:ByteArray}{ho:Int}{ch hi:Bool}{st:Int}{wh:Value}{sb:ByteArray}{er:Int}(h:AtL W s (fsC tk me ur og mo vh bo ck ph a b c d e f sm ho ch hi st wh sb er))(hb:Below W.heap.size W w'):w'.cell? ⟨s,3,none⟩=some (.string og)/\w'.cell? ⟨s,9,none⟩=some (.string a)/\w'.cell? ⟨s,10,none⟩=some (.string b)/\w'.cell? ⟨s,11,none⟩=some (.string c)/\w'.cell? ⟨s,12,none⟩=some (.string d)/\w'.cell? ⟨s,13,none⟩=some (.string e)/\w'.cell? ⟨s,14,none⟩=some (.string f):=
 have h':=h.next hb
 ⟨h'.c 3 rfl,h'.c 9 rfl,h'.c 10 rfl,h'.c 11 rfl,h'.c 12 rfl,h'.c 13 rfl,h'.c 14 rfl⟩
theorem foreign_is (s0:Nat)(tk:Int)(me ur og:ByteArray)(mo:Int)(vh:Value)(bo:ByteArray)(ck:Bool)(ph:Int)(a b c d e f sm:ByteArray)(ho:Int)(ch hi:Bool)(st:Int)(wh:Value)(sb:ByteArray)(er:Int)(w:World)(hM:MaxAt w)(S0:AtL w s0 (fsC tk me ur og mo vh bo ck ph a b c d e f sm ho ch hi st wh sb er))(ha:a.size<=40000)(hb:b.size<=40000)(hc:c.size<=40000)(hdd:d.size<=40000)(he:e.size<=40000)(hf:f.size<=40000)(O:ByteArray)(hO:O.data.toList=orgL (a.data.toList,b.data.toList,c.data.toList,d.data.toList,e.data.toList,f.data.toList))(R:Bool)(hR:(O.toList != og.toList)=R):
 Calls Tryz.prog 126 #[.pointer (some ⟨s0,0,none⟩)] w fun x w'=>x = .returned (.bool R)/\Below w.heap.size w w':=by
 have CO:=Lib.hid (fun (w':World) (hb':Below w.heap.size w w')=>origin_is a b c d e f O w' ha hb hc hdd he hf (hM.below hb' lr) hO)
 have HR:=Lib.hid hR
 clear hO hM hR
 have z_:=S0.o23
 have zl:=S0.lt
 go_enter Tryz.func126,Tryz.ntmps126
 go_wp2_with fail
 go_region_held3 (fun w'=>w'.cell? ⟨s0,3,none⟩=some (.string og)/\w'.cell? ⟨s0,9,none⟩=some (.string a)/\w'.cell? ⟨s0,10,none⟩=some (.string b)/\w'.cell? ⟨s0,11,none⟩=some (.string c)/\w'.cell? ⟨s0,12,none⟩=some (.string d)/\w'.cell? ⟨s0,13,none⟩=some (.string e)/\w'.cell? ⟨s0,14,none⟩=some (.string f))
  (first | exact s7_mk S0 (Below.refl _ w).drew | exact s7_mk S0 hb4 | go_keep)
  (first | (go_at_call 29;(with_reducible refine (CO.out _ (Below.refl _ w).drew).mono ?_);rintro e4 w4 ⟨rfl,hbb4⟩;have hb4:Below w.heap.size w w4:=(Below.refl w.heap.size w).drew.trans hbb4) | fail)
 go_wp2_with fail
 go_ret
 exact ⟨ret_bool (by rw [<-HR.out];rfl),hb4⟩
theorem text_is (s0:Nat)(tk:Int)(me ur og:ByteArray)(mo:Int)(vh:Value)(bo:ByteArray)(ck:Bool)(ph:Int)(a b c d e f sm:ByteArray)(ho:Int)(ch hi:Bool)(st:Int)(wh:Value)(sb:ByteArray)(er:Int)(w:World)(S0:AtL w s0 (fsC tk me ur og mo vh bo ck ph a b c d e f sm ho ch hi st wh sb er))(ha:a.size<=40000)(hb:b.size<=40000)(hc:c.size<=40000)(hdd:d.size<=40000)(he:e.size<=40000)(hf:f.size<=40000)(T:ByteArray)(hT:T.data.toList=formatL (a.data.toList,b.data.toList,c.data.toList,d.data.toList,e.data.toList,[])):
 Calls Tryz.prog 74 #[.pointer (some ⟨s0,0,none⟩)] w fun x w'=>x = .returned (.string T)/\Below w.heap.size w w':=by
 have CW:=Lib.hid (fun (w':World)=>without_any a b c d e f w')
 have CF:=Lib.hid (fun (w':World)=>format_is4 a b c d e ⟨#[]⟩ T w' (by omega) (by omega) (by omega) (by omega) (by omega) (by decide) hT)
 clear hT
 have z_:=S0.o23
 have zl:=S0.lt
 go_enter Tryz.func74,Tryz.ntmps74
 go_wp2_with (first
  | (go_at_call 124;(with_reducible refine (CW.out _).mono ?_);rintro e1 w1 ⟨rfl,hb1⟩)
  | (go_at_call 104;(with_reducible refine (CF.out _).mono ?_);rintro e2 w2 ⟨rfl,hb2⟩)
  | fail)
 go_ret
 exact ⟨rfl,hb1.trans (hb2.mono hb1.size)⟩
section
variable {w : World} {s0 : Nat} {S : FS} {vh wh : Value}
theorem fgn_is (hM:MaxAt w)(S0:AtL w s0 (fsV S vh wh))(hz:USize 40000 S.a S.b S.c S.d S.e S.f)(R:Bool)(hR:fgB S=R):
 Calls Tryz.prog 126 #[.pointer (some ⟨s0,0,none⟩)] w fun x w'=>x = .returned (.bool R)/\Below w.heap.size w w':=by
 refine foreign_is s0 S.tk S.me S.ur S.og S.mo vh S.qb S.ck S.ph S.a S.b S.c S.d S.e S.f S.sm S.ho S.ch S.hi S.st wh S.sb S.er w hM S0 hz.a hz.b hz.c hz.d hz.e hz.f (bs (orgL S.u)) rfl R ?_
 rw [<-hR];unfold fgB
 simp only [bne,ByteArray.toList_eq,bs_list]
theorem txt_is (S0:AtL w s0 (fsV S vh wh))(hz:USize 40000 S.a S.b S.c S.d S.e S.f)(T:ByteArray)(hT:txB S=T):
 Calls Tryz.prog 74 #[.pointer (some ⟨s0,0,none⟩)] w fun x w'=>x = .returned (.string T)/\Below w.heap.size w w':=
 text_is s0 S.tk S.me S.ur S.og S.mo vh S.qb S.ck S.ph S.a S.b S.c S.d S.e S.f S.sm S.ho S.ch S.hi S.st wh S.sb S.er w S0 hz.a hz.b hz.c hz.d hz.e hz.f T (by rw [<-hT];rfl)
end
theorem headers_is (S:FS)(s0:Nat)(vh wh:Value)(w:World)(hM:MaxAt w)(S0:AtL w s0 (fsV S vh wh))(hv:SlK hdC 2 w vh S.qh)(hzq:HdSz S.qh)(hz:USize 40000 S.a S.b S.c S.d S.e S.f)(L:List Hd)(hL:hdF S=L):
 Calls Tryz.prog 75 #[.pointer (some ⟨s0,0,none⟩)] w (HdsQ w L):=by
 obtain ⟨qa,qc,rfl,_⟩:=hv.shape
 obtain ⟨F,hF⟩:∃ F,fgB S=F:=⟨_,rfl⟩
 obtain ⟨L0,hL0⟩:∃ L0,woL S.qh [ckN,ogN]=L0:=⟨_,rfl⟩
 have hal:=(Below.refl _ w).alloc lr (.cells [.string ckN,.string ogN].toArray 9)
 have hsz:(w.alloc (.cells [.string ckN,.string ogN].toArray 9)).heap.size=w.heap.size+1:=by simp
 have A0:=AtL.new w [.string ckN,.string ogN] 9
 have S0a:=S0.next hal
 have CW:=Lib.hid (show Calls Tryz.prog 125 #[.slice qa S.qh.length qc,.slice (some ⟨w.heap.size,0,none⟩) 2 2] (w.alloc (.cells [.string ckN,.string ogN].toArray 9)) (HdsQ (w.alloc (.cells [.string ckN,.string ogN].toArray 9)) L0) from without_is S.qh _ [ckN,ogN] w.heap.size _ (hv.below hal lr) hzq (by decide) (by intro n hn;simp at hn;rcases hn with rfl | rfl <;> decide) A0.lt (fun i hi=>A0.c i (by
  match i,hi with
  | 0,_=>rfl
  | 1,_=>rfl)) L0 hL0)
 have CF:=Lib.hid (fun (w':World) (hb:Below w.heap.size w w') (h:AtL w' s0 (fsV S (.slice qa S.qh.length qc) wh))=>fgn_is (hM.below hb lr) h hz F hF)
 obtain ⟨l,hl⟩:∃ l,S.qh.length=l:=⟨_,rfl⟩
 have hLl:L0.length<=1000000:=by rw [<-hL0];exact Nat.le_trans (List.length_filter_le _ _) hzq.1
 unfold hdF at hL
 rw [hL0,hF] at hL
 rw [hl] at S0 S0a CF CW
 clear hL0 hF hM hv hzq hz A0 hl
 obtain ⟨tk,me,ur,og,mo,qh,qb,ck,ph,a,b,c,d,e,f,sm,ho,ch,hi,st,hs,sb,er⟩:=S
 obtain ⟨g1,hg1⟩:∃ g1,(sm.toList == [71,69,84])=g1:=⟨_,rfl⟩
 obtain ⟨g2,hg2⟩:∃ g2,(sm.toList == [72,69,65,68])=g2:=⟨_,rfl⟩
 have hL:(L0 ++ if F || (!g1 && !g2) then [(ogN,og)] else [])=L:=by rw [<-hg1,<-hg2];exact hL
 have HLL:=Lib.hid hL
 clear hL
 have z_:=S0.o23
 have zl:=S0.lt
 cases F with
 | true=>
   clear hg1 hg2
   go_enter Tryz.func75,Tryz.ntmps75
   go_wp2_with (first
    | (go_at_call 125;(with_reducible refine CW.out.mono ?_);rintro e1 w1 hq1;obtain ⟨v1,rfl,o1,hn1,hb1⟩:=hq1;obtain ⟨oa,oc,rfl,_⟩:=own_reads o1;have S1:=S0a.next hb1;have hB1:=hal.trans (hb1.mono hal.size);have HN:=Lib.hid hn1;clear hn1 z_)
    | (go_at_call 126;(with_reducible refine (CF.out _ hB1 S1).mono ?_);rintro e2 w2 ⟨rfl,hb2⟩;have S2:=S1.next hb2;have o2:=own_below o1 hb2 lr;have hB2:=hB1.trans (hb2.mono hB1.size);have hz2:=hB2.size;have hz3:w.heap.size+1<=w2.heap.size:=(by have h1:=hb1.size;have h2:=hb2.size;rw [hsz] at h1;omega);have z_:=S2.o23;have zl2:=S2.lt)
    | (refine app2 slH w2 (by rfl) (.tmp 27) (.tmp 34) (by rfl) _ _ _ _ (by rfl) o2 [.string ogN,.string og] 1 w2.heap.size (by rfl) rfl (by rfl) (by intro u hu;simp at hu;rcases hu with rfl | rfl <;> rfl) (by decide) (by omega) (by omega) (by rw [hsz];exact hz3) ?_;intro v5 w5 o5 g5 f5;obtain ⟨ub,uk,rfl,_,_,_⟩:=own_reads o5)
    | fail)
   go_ret
   have hLL:L0 ++ [(ogN,og)]=L:=by rw [<-HLL.out];simp
   exact ⟨_,rfl,by rw [<-hLL];exact own_eq (own_mono o5 (by rw [hsz];omega)) (by simp) (by rw [cellsK_app];rfl),fun h=>absurd h (by rw [<-hLL];simp),below_own hB2 (own_mono o2 (by rw [hsz];omega)) g5 hz2 lr⟩
 | false=>
   cases g1 with
   | true=>
     clear hg2
     go_enter Tryz.func75,Tryz.ntmps75
     go_wp2_with (first
      | (go_at_call 125;(with_reducible refine CW.out.mono ?_);rintro e1 w1 hq1;obtain ⟨v1,rfl,o1,hn1,hb1⟩:=hq1;obtain ⟨oa,oc,rfl,_⟩:=own_reads o1;have S1:=S0a.next hb1;have hB1:=hal.trans (hb1.mono hal.size);have HN:=Lib.hid hn1;clear hn1 z_)
      | (go_at_call 126;(with_reducible refine (CF.out _ hB1 S1).mono ?_);rintro e2 w2 ⟨rfl,hb2⟩;have S2:=S1.next hb2;have o2:=own_below o1 hb2 lr;have hB2:=hB1.trans (hb2.mono hB1.size);have hz2:=hB2.size;have hz3:w.heap.size+1<=w2.heap.size:=(by have h1:=hb1.size;have h2:=hb2.size;rw [hsz] at h1;omega);have z_:=S2.o23;have zl2:=S2.lt)
      | (refine app2 slH w2 (by rfl) (.tmp 27) (.tmp 34) (by rfl) _ _ _ _ (by rfl) o2 [.string ogN,.string og] 1 w2.heap.size (by rfl) rfl (by rfl) (by intro u hu;simp at hu;rcases hu with rfl | rfl <;> rfl) (by decide) (by omega) (by omega) (by rw [hsz];exact hz3) ?_;intro v5 w5 o5 g5 f5;obtain ⟨ub,uk,rfl,_,_,_⟩:=own_reads o5)
      | fail)
     go_ret
     have hLL:L0=L:=by rw [<-HLL.out];simp
     exact ⟨_,rfl,by rw [<-hLL];exact own_mono o2 (by rw [hsz];omega),fun h=>HN.out (by rw [hLL];exact h),hB2⟩
   | false=>
     cases g2 with
     | true=>
       go_enter Tryz.func75,Tryz.ntmps75
       go_wp2_with (first
        | (go_at_call 125;(with_reducible refine CW.out.mono ?_);rintro e1 w1 hq1;obtain ⟨v1,rfl,o1,hn1,hb1⟩:=hq1;obtain ⟨oa,oc,rfl,_⟩:=own_reads o1;have S1:=S0a.next hb1;have hB1:=hal.trans (hb1.mono hal.size);have HN:=Lib.hid hn1;clear hn1 z_)
        | (go_at_call 126;(with_reducible refine (CF.out _ hB1 S1).mono ?_);rintro e2 w2 ⟨rfl,hb2⟩;have S2:=S1.next hb2;have o2:=own_below o1 hb2 lr;have hB2:=hB1.trans (hb2.mono hB1.size);have hz2:=hB2.size;have hz3:w.heap.size+1<=w2.heap.size:=(by have h1:=hb1.size;have h2:=hb2.size;rw [hsz] at h1;omega);have z_:=S2.o23;have zl2:=S2.lt)
        | (refine app2 slH w2 (by rfl) (.tmp 27) (.tmp 34) (by rfl) _ _ _ _ (by rfl) o2 [.string ogN,.string og] 1 w2.heap.size (by rfl) rfl (by rfl) (by intro u hu;simp at hu;rcases hu with rfl | rfl <;> rfl) (by decide) (by omega) (by omega) (by rw [hsz];exact hz3) ?_;intro v5 w5 o5 g5 f5;obtain ⟨ub,uk,rfl,_,_,_⟩:=own_reads o5)
        | fail)
       go_ret
       have hLL:L0=L:=by rw [<-HLL.out];simp
       exact ⟨_,rfl,by rw [<-hLL];exact own_mono o2 (by rw [hsz];omega),fun h=>HN.out (by rw [hLL];exact h),hB2⟩
     | false=>
       go_enter Tryz.func75,Tryz.ntmps75
       go_wp2_with (first
        | (go_at_call 125;(with_reducible refine CW.out.mono ?_);rintro e1 w1 hq1;obtain ⟨v1,rfl,o1,hn1,hb1⟩:=hq1;obtain ⟨oa,oc,rfl,_⟩:=own_reads o1;have S1:=S0a.next hb1;have hB1:=hal.trans (hb1.mono hal.size);have HN:=Lib.hid hn1;clear hn1 z_)
        | (go_at_call 126;(with_reducible refine (CF.out _ hB1 S1).mono ?_);rintro e2 w2 ⟨rfl,hb2⟩;have S2:=S1.next hb2;have o2:=own_below o1 hb2 lr;have hB2:=hB1.trans (hb2.mono hB1.size);have hz2:=hB2.size;have hz3:w.heap.size+1<=w2.heap.size:=(by have h1:=hb1.size;have h2:=hb2.size;rw [hsz] at h1;omega);have z_:=S2.o23;have zl2:=S2.lt)
        | (refine app2 slH w2 (by rfl) (.tmp 27) (.tmp 34) (by rfl) _ _ _ _ (by rfl) o2 [.string ogN,.string og] 1 w2.heap.size (by rfl) rfl (by rfl) (by intro u hu;simp at hu;rcases hu with rfl | rfl <;> rfl) (by decide) (by omega) (by omega) (by rw [hsz];exact hz3) ?_;intro v5 w5 o5 g5 f5;obtain ⟨ub,uk,rfl,_,_,_⟩:=own_reads o5)
        | fail)
       go_ret
       have hLL:L0 ++ [(ogN,og)]=L:=by rw [<-HLL.out];simp
       exact ⟨_,rfl,by rw [<-hLL];exact own_eq (own_mono o5 (by rw [hsz];omega)) (by simp) (by rw [cellsK_app];rfl),fun h=>absurd h (by rw [<-hLL];simp),below_own hB2 (own_mono o2 (by rw [hsz];omega)) g5 hz2 lr⟩
theorem fail_is [Prot]{w:World}{s0 jb cb B:Nat}{vj:Value}{J:List Ck}{nx:Int}{vc:Value}{lx:List Ee}{S:FS}(F:FIn w s0 jb cb B vj J nx vc lx S)(er0:Int):
 Calls Tryz.prog 76 #[.pointer (some ⟨s0,0,none⟩),.int .i64 er0] w (StepQ w s0 jb cb B vj J nx vc (failO S (lx.map (·.2)) er0)):=by
 obtain ⟨E,va,vk,wa,wk,S0,hq,hh⟩:=F
 obtain ⟨tk,me,ur,og,mo,qh,qb,ck,ph,a,b,c,d,e,f,sm,ho,ch,hi,st,hs,sb,er⟩:=S
 have S0:AtL w s0 (fsC tk me ur og mo (.slice va qh.length vk) qb ck ph a b c d e f sm ho ch hi st (.slice wa hs.length wk) sb er):=S0
 have S1:AtL _ s0 (fsC tk me ur og mo (.slice va qh.length vk) qb ck 4 a b c d e f sm ho ch hi 0 (.slice none 0 0) ⟨#[]⟩ er0):=((((S0.set 8 (.int .i64 4)).set 22 (.int .i64 er0)).set 19 (.int .i64 0)).set 20 (.slice none 0 0)).set 21 (.string ⟨#[]⟩)
 have E1:=((((E.set 8 (.int .i64 4)).set 22 (.int .i64 er0)).set 19 (.int .i64 0)).set 20 (.slice none 0 0)).set 21 (.string ⟨#[]⟩)
 have K1:=(((((Kp.refl w.heap.size (Mu s0 jb cb vj vc) w).setCell ⟨s0,8,none⟩ (.inl E.ms) (.int .i64 4)).setCell ⟨s0,22,none⟩ (.inl E.ms) (.int .i64 er0)).setCell ⟨s0,19,none⟩ (.inl E.ms) (.int .i64 0)).setCell ⟨s0,20,none⟩ (.inl E.ms) (.slice none 0 0)).setCell ⟨s0,21,none⟩ (.inl E.ms) (.string ⟨#[]⟩)
 have St:StIn (Mu s0 jb cb vj vc) _ s0 (failS ⟨tk,me,ur,og,mo,qh,qb,ck,ph,a,b,c,d,e,f,sm,ho,ch,hi,st,hs,sb,er⟩ er0):=⟨va,vk,none,0,S1,hq.same K1 lr,Hs.nil _ _⟩
 have HE:=Lib.hid (StepQ.one (w:=w) (o:=failO ⟨tk,me,ur,og,mo,qh,qb,ck,ph,a,b,c,d,e,f,sm,ho,ch,hi,st,hs,sb,er⟩ (lx.map (·.2)) er0) E1 St rfl K1 (fun _ _ e=>e) (.slice none 0 0) (failV er0) rfl (Hs.nil _ _) w.heap.size (by simp only [World.size_setCell]))
 have z_:=S0.o23;have y_:=S0.of23
 have zl:=S0.lt
 clear hq hh S1 E1 K1 St E
 go_enter Tryz.func76,Tryz.ntmps76
 go_wp2_with fail
 go_ret
 exact HE.out
theorem stop_is [Prot]{w:World}{s0 jb cb B:Nat}{vj:Value}{J:List Ck}{nx:Int}{vc:Value}{lx:List Ee}{S:FS}(F:FIn w s0 jb cb B vj J nx vc lx S)(er0:Int):
 Calls Tryz.prog 80 #[.pointer (some ⟨s0,0,none⟩),.int .i64 er0] w (StepQ w s0 jb cb B vj J nx vc ⟨(stopF er0 S).1,lx.map (·.2),(stopF er0 S).2⟩):=by
 have CF:=Lib.hid (fail_is F er0)
 by_cases h:S.ph=1\/S.ph=2
 ·have e:(⟨(stopF er0 S).1,lx.map (·.2),(stopF er0 S).2⟩:Out)=failO S (lx.map (·.2)) er0:=by unfold stopF;rw [if_pos h];rfl
  rw [e]
  obtain ⟨E,va,vk,wa,wk,S0,hq,hh⟩:=F
  clear E hq hh e
  obtain ⟨tk,me,ur,og,mo,qh,qb,ck,ph,a,b,c,d,e,f,sm,ho,ch,hi,st,hs,sb,er⟩:=S
  have S0:AtL w s0 (fsC tk me ur og mo (.slice va qh.length vk) qb ck ph a b c d e f sm ho ch hi st (.slice wa hs.length wk) sb er):=S0
  have h:ph=1\/ph=2:=h
  have z_:=S0.o23
  have zl:=S0.lt
  rcases h with rfl | rfl
  ·
   go_enter Tryz.func80,Tryz.ntmps80
   go_wp2_with (go_at_call 76;(with_reducible refine CF.out.mono ?_);rintro e1 w1 hq1;have HQ:=Lib.hid hq1;obtain ⟨v1,l1,vc1,lx1,rfl,-,-,hv1,-,-⟩:=hq1;obtain ⟨oa,oc,rfl,_⟩:=own_reads hv1.own)
   go_ret
   exact HQ.out
  ·
   go_enter Tryz.func80,Tryz.ntmps80
   go_wp2_with (go_at_call 76;(with_reducible refine CF.out.mono ?_);rintro e1 w1 hq1;have HQ:=Lib.hid hq1;obtain ⟨v1,l1,vc1,lx1,rfl,-,-,hv1,-,-⟩:=hq1;obtain ⟨oa,oc,rfl,_⟩:=own_reads hv1.own)
   go_ret
   exact HQ.out
 ·have e:(⟨(stopF er0 S).1,lx.map (·.2),(stopF er0 S).2⟩:Out)=⟨S,lx.map (·.2),[]⟩:=by unfold stopF;rw [if_neg h]
  rw [e]
  have HE:=Lib.hid (StepQ.none (w:=w) (o:=⟨S,lx.map (·.2),[]⟩) F.env F.st rfl (Kp.refl _ _ _) (fun _ _ e=>e) rfl)
  obtain ⟨E,va,vk,wa,wk,S0,hq,hh⟩:=F
  clear E hq hh e
  obtain ⟨tk,me,ur,og,mo,qh,qb,ck,ph,a,b,c,d,e,f,sm,ho,ch,hi,st,hs,sb,er⟩:=S
  have S0:AtL w s0 (fsC tk me ur og mo (.slice va qh.length vk) qb ck ph a b c d e f sm ho ch hi st (.slice wa hs.length wk) sb er):=S0
  have h:¬ (ph=1\/ph=2):=h
  have z_:=S0.o23
  have zl:=S0.lt
  have h1:(ph == 1)=false:=beq_eq_false_iff_ne.2 fun e=>h (.inl e)
  have h2:(ph == 2)=false:=beq_eq_false_iff_ne.2 fun e=>h (.inr e)
  have h1n:(ph != 1)=true:=by simp only [bne];rw [h1];rfl
  have h2n:(ph != 2)=true:=by simp only [bne];rw [h2];rfl
  clear h
  go_enter Tryz.func80,Tryz.ntmps80
  go_wp2_with fail
  go_ret
  exact HE.out
end Go.Proofs.YtjdhaacmlpegoaaGreatDoor
