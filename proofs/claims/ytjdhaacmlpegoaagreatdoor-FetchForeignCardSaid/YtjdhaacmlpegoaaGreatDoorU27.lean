/- Part 27 of what the proof needs: Y1. -/
import Derived.Test.YtjdhaacmlpegoaaGreatDoorU25
set_option maxRecDepth 20000
set_option maxHeartbeats 16000000
set_option linter.unusedSimpArgs false
set_option linter.unusedVariables false
namespace Go.Proofs.YtjdhaacmlpegoaaGreatDoor
open Go.RowKit
theorem parse_none4 (t:ByteArray)(w:World)(hs:t.size<=300000)(hM:MaxAt w)(h:parseL t.data.toList=none):
 Calls Tryz.prog 28 #[.string t] w fun x w'=>x = .returned (.tuple #[.agg #[.string ⟨#[]⟩,.string ⟨#[]⟩,.string ⟨#[]⟩,.string ⟨#[]⟩,.string ⟨#[]⟩,.string ⟨#[]⟩],.int .i64 4])/\Below w.heap.size w w':=by have:=parse_any t w hs hM;rw [h] at this;exact this
theorem fr_mk {W w':World}{Q U O:Nat}{q0 q1 q2 q3 q4 q5 q6 q7 a b c d e f o0 o1 o2 o3:Value}(h:AtL W Q [q0,q1,q2,q3,q4,q5,q6,q7])(h2:AtL W U [a,b,c,d,e,f])(h3:AtL W O [o0,o1,o2,o3])(hb:Below W.heap.size W w'):w'.cell? ⟨Q,3,none⟩=some q3/\w'.cell? ⟨Q,4,none⟩=some q4/\w'.cell? ⟨Q,7,none⟩=some q7/\w'.cell? ⟨U,0,none⟩=some a/\w'.cell? ⟨U,1,none⟩=some b/\w'.cell? ⟨U,2,none⟩=some c/\w'.cell? ⟨U,3,none⟩=some d/\w'.cell? ⟨U,4,none⟩=some e/\w'.cell? ⟨U,5,none⟩=some f/\w'.cell? ⟨O,2,none⟩=some o2:=
 have h':=h.next hb
 have h2':=h2.next hb
 have h3':=h3.next hb
 ⟨h'.c 3 rfl,h'.c 4 rfl,h'.c 7 rfl,h2'.c 0 rfl,h2'.c 1 rfl,h2'.c 2 rfl,h2'.c 3 rfl,h2'.c 4 rfl,h2'.c 5 rfl,h3'.c 2 rfl⟩
theorem evh_at {r:Rn}{l:List (Value × Ev)}(hle:l.map (·.2)=r.ev)(h:∀ e∈r.ev,EvH e){kk:Nat}(hk:kk<l.length):EvH l[kk].2:=h _ (by rw [<-hle];exact Zc (Ky hk))
theorem N33{p:Prop}(h:p:=by
 refine skH 10 ?_
 refine skH 11 ?_
 refine skH 12 ?_
 refine skH 13 ?_
 refine skH 14 ?_
 refine skH 15 ?_
 refine skH 16 ?_
 refine skH 17 ?_
 refine skH 18 ?_
 refine skH 19 ?_
 first
  |refine tkH 20 ?_
   simp only [Act.put,Kr,Km,Ks]
   refine wpAnyH_done (by kernel_rfl) ?_ _
   go_wp2_with fail
   go_ret
   exact ⟨rfl,hB7.drew⟩
  |refine tkH 20 ?_
   simp only [Act.put,Kr,Km,Ks]
   refine wpAnyH_done (by kernel_rfl) ?_ _
   go_wp2_with fail
   go_ret
   exact ⟨rfl,Kd hB7 hb8⟩
 ):p:=h
theorem N48{p:Prop}(h:p:=by
 go_wp2_with (first
  | ((with_reducible refine (CW.out _ w3.heap.size (hB4 _) (AtL.new w3 [.int .u8 0,.int .i64 os,.slice ha oh.length hc,.string ob] _)).mono ?_);rintro e5 w5 ⟨rfl,hb5⟩;have hB5:=(hB4 _).trans (hb5.mono (hB4 _).size);have W5:=(W3.alloc _).next hb5;have Q5:=(Q3.alloc _).next hb5;have O5:=(O3.alloc _).next hb5;clear a_ q_ o_;have a_:=W5.o4;have q_:=Q5.o8;have o_:=O5.o4;have al5:=W5.lt;have ql5:=Q5.lt;have ol5:=O5.lt)
  | fail)
 go_ret
 exact ⟨rfl,hB5⟩
 ):p:=h
theorem M35{p:Prop}(h:p:=by
 go_wp2_with fail
 go_roundw
 case rel=>exact ⟨kk+1,by omega,by go_num,hbn.out _⟩
 case measure=>simp [intOf];omega
 ):p:=h
theorem fetchforeign_law (tk:Int)(me ur og:ByteArray)(mo:Int)(vq:Value)(qh:List Hd)(qb:ByteArray)(ck:Bool)(st:Int)(ok0:Nat)(os:Int)(vh:Value)(oh:List Hd)(ob:ByteArray)(w:World)(hM:MaxAt w)(hG:0<w.heap.size)(HQ:QIn w ur og vq qh qb)(hoh:SlK hdC 2 w vh oh)(hzo:WtH oh):
 Calls Tryz.prog 8 #[.agg #[.int .i64 tk,.string me,.string ur,.string og,.int .i64 mo,vq,.string qb,.bool ck],.int .i64 st,.agg #[.int .u8 ok0,.int .i64 os,vh,.string ob]] w fun e w'=>e = .returned (.bool true)/\Below w.heap.size w w':=by
 obtain ⟨qa,qc,rfl,_⟩:=HQ.q.shape
 obtain ⟨ha,hc,rfl,_⟩:=hoh.shape
 have hb0:Below w.heap.size w ((w.alloc (.cells [.int .i64 tk,.string me,.string ur,.string og,.int .i64 mo,.slice qa qh.length qc,.string qb,.bool ck].toArray 30)).alloc (.cells [.int .u8 ok0,.int .i64 os,.slice ha oh.length hc,.string ob].toArray 32)):=((Kc w).alloc lr _).alloc (by simp) _
 have Q0:=(AtL.new w [.int .i64 tk,.string me,.string ur,.string og,.int .i64 mo,.slice qa qh.length qc,.string qb,.bool ck] 30).alloc (.cells [.int .u8 ok0,.int .i64 os,.slice ha oh.length hc,.string ob].toArray 32)
 have O0:=AtL.new (w.alloc (.cells [.int .i64 tk,.string me,.string ur,.string og,.int .i64 mo,.slice qa qh.length qc,.string qb,.bool ck].toArray 30)) [.int .u8 ok0,.int .i64 os,.slice ha oh.length hc,.string ob] 32
 rw [show (w.alloc (.cells [.int .i64 tk,.string me,.string ur,.string og,.int .i64 mo,.slice qa qh.length qc,.string qb,.bool ck].toArray 30)).heap.size=w.heap.size+1 by simp] at O0
 obtain ⟨w0,hw0⟩:∃ w0:World,((w.alloc (.cells [.int .i64 tk,.string me,.string ur,.string og,.int .i64 mo,.slice qa qh.length qc,.string qb,.bool ck].toArray 30)).alloc (.cells [.int .u8 ok0,.int .i64 os,.slice ha oh.length hc,.string ob].toArray 32))=w0:=⟨_,rfl⟩
 obtain ⟨Q,hQ⟩:=Ka w.heap.size
 obtain ⟨O,hO⟩:=Ka (Q+1)
 rw [hw0] at hb0 Q0 O0
 rw [hQ] at Q0 O0
 rw [hO] at O0
 have HQO:=Kb (And.intro hQ hO)
 have CF:=Kb (fit_is45 w0 (hM.below hb0 lr))
 obtain ⟨R,hR⟩:=Ka (few4 [] 0 [] qh ur og qb [⟨0,os,oh,ob⟩])
 have CW:=Kb (fun (w':World) (k:Nat) (hb:Below w.heap.size w w') (hA:AtL w' k [.int .u8 0,.int .i64 os,.slice ha oh.length hc,.string ob])=>few4_is w' (.slice none 0 0) [] 0 (.slice none 0 0) [] 0 tk me ur og mo (.slice qa qh.length qc) qh qb ck (.slice (some ⟨k,0,none⟩) 1 1) [(.slice ha oh.length hc,⟨0,os,oh,ob⟩)] (WIn.zero w') (HQ.below hb) (OIn.one hA (hoh.below hb lr) hzo) R hR)
 have q_:=Q0.o8
 have o_:=O0.o4
 have ql:=Q0.lt
 have ol:=O0.lt
 have HBB:=Kb hb0
 have HHM:=Kb hM
 have HHQ:=Kb HQ
 have HOO:=Kb (And.intro hoh hzo)
 have HGG:=Kb hG
 have HRR:=Kb hR
 clear hM hG HQ hoh hzo hR
 go_enter Tryz.func8,Tryz.ntmps8
 go_upto_region 4 with (first
  | ((with_reducible refine CF.out.mono ?_);rintro e1 w1 ⟨rfl,hb1⟩;have Q1:=Q0.next hb1;have O1:=O0.next hb1;have hB1:=Kd hb0 hb1)
  | fail)
 have W2:=AtL.new w1 wz 27
 have Q2:=Q1.alloc (.cells wz.toArray 27)
 have O2:=O1.alloc (.cells wz.toArray 27)
 have hB2:Below w.heap.size w (w1.alloc (.cells wz.toArray 27)):=hB1.alloc hB1.size _
 have hXl:=O1.lt
 obtain ⟨w2,hw2⟩:=Ka (w1.alloc (.cells wz.toArray 27))
 obtain ⟨X,hX⟩:=Ka w1.heap.size
 rw [hw2] at W2 Q2 O2 hB2
 rw [hX] at W2 hXl
 rw [hw2,hX]
 have hQO2:Q≠O/\O≠X/\Q≠X/\w.heap.size<=O:=by have:=HQO.out;omega
 clear hw2 hX q_ o_ Q0 O0 Q1 O1 hb0 hb1 hB1 ql ol CF
 have o_:=O2.o4;have g_:=O2.of4
 have ol2:=O2.lt
 go_upto_region 5 with fail
 have W3:=W2.far ⟨O,0,none⟩ (.int .u8 0) hQO2.2.1
 have Q3:=Q2.far ⟨O,0,none⟩ (.int .u8 0) (Ne.symm hQO2.1)
 have O3:AtL _ O [.int .u8 0,.int .i64 os,.slice ha oh.length hc,.string ob]:=O2.set 0 (.int .u8 0)
 have hB3:=hB2.setCell (p:=⟨O,0,none⟩) hQO2.2.2.2 (.int .u8 0)
 obtain ⟨w3,hw3⟩:=Ka (w2.setCell ⟨O,0,none⟩ (.int .u8 0))
 rw [hw3] at W3 Q3 O3 hB3
 rw [hw3]
 clear hw3 o_ g_ W2 Q2 O2 hB2 ol2
 have a_:=W3.o4
 have q_:=Q3.o8
 have o_:=O3.o4
 have al3:=W3.lt
 have ql3:=Q3.lt
 have ol3:=O3.lt
 have hB4:∀ o,Below w.heap.size w (w3.alloc o):=fun o=>hB3.alloc hB3.size o
 cases R with
 | false=>
   exact N48
 | true=>
   have hF:=few4_ok HRR.out
   obtain ⟨hz1,hz2,hz3⟩:=few4_sz HRR.out
   have hho:=(few4_op HRR.out _ (Jc.2 rfl)).2
   by_cases h300:300<=st/\st<310
   ·obtain ⟨h301,h302⟩:=h300
    clear hF hz1 hz2 hz3 hho
    exact N48
   ·have hst:st<300\/310<=st:=by omega
    have HST:=Kb hst
    have HF:=Kb hF
    have HHO:=Kb hho
    clear h300 hF hho
    have HHM5:=Kb (fun (w':World) (hb:Below w.heap.size w w')=>HHM.out.below hb lr)
    rcases hst with h301 | h301
    all_goals
     go_upto_region 7 with (first
      | ((with_reducible refine (CW.out _ w3.heap.size (hB4 _) (AtL.new w3 [.int .u8 0,.int .i64 os,.slice ha oh.length hc,.string ob] _)).mono ?_);rintro e5 w5 ⟨rfl,hb5⟩;have hB5:=(hB4 _).trans (hb5.mono (hB4 _).size);have W5:=(W3.alloc _).next hb5;have Q5:=(Q3.alloc _).next hb5;have O5:=(O3.alloc _).next hb5;clear a_ q_ o_;have a_:=W5.o4;have q_:=Q5.o8;have o_:=O5.o4;have al5:=W5.lt;have ql5:=Q5.lt;have ol5:=O5.lt)
      | fail)
     have HB5:=Kb hB5
     clear hb5 hB3 hB4 W3 Q3 O3 al3 ql3 ol3 h301 a_ o_ al5 ol5
     cases hp:parseL ur.data.toList with
     | none=>
       have HP:=Kb hp
       have hz4:ur.size<=300000:=by omega
       clear hz1 hz2 hz3 hp
       go_upto_region 8 with (first
        | ((with_reducible refine (parse_none4 ur _ hz4 (HHM5.out _ HB5.out) HP.out).mono ?_);rintro e6 w6 ⟨rfl,hb6⟩;have hB6:=HB5.out.trans (hb6.mono HB5.out.size);have Q7:=(Q5.next hb6).alloc (.cells [.string ⟨#[]⟩,.string ⟨#[]⟩,.string ⟨#[]⟩,.string ⟨#[]⟩,.string ⟨#[]⟩,.string ⟨#[]⟩].toArray 37);have O7:=(O5.next hb6).alloc (.cells [.string ⟨#[]⟩,.string ⟨#[]⟩,.string ⟨#[]⟩,.string ⟨#[]⟩,.string ⟨#[]⟩,.string ⟨#[]⟩].toArray 37);have U7:=AtL.new w6 [.string ⟨#[]⟩,.string ⟨#[]⟩,.string ⟨#[]⟩,.string ⟨#[]⟩,.string ⟨#[]⟩,.string ⟨#[]⟩] 37)
        | fail)
       have hB7:Below w.heap.size w (w6.alloc (.cells [.string ⟨#[]⟩,.string ⟨#[]⟩,.string ⟨#[]⟩,.string ⟨#[]⟩,.string ⟨#[]⟩,.string ⟨#[]⟩].toArray 37)):=hB6.alloc hB6.size _
       obtain ⟨w7,hw7⟩:=Ka (w6.alloc (.cells [.string ⟨#[]⟩,.string ⟨#[]⟩,.string ⟨#[]⟩,.string ⟨#[]⟩,.string ⟨#[]⟩,.string ⟨#[]⟩].toArray 37))
       obtain ⟨U,hU⟩:=Ka w6.heap.size
       rw [hw7] at Q7 O7 U7 hB7
       rw [hU] at U7
       rw [hw7,hU]
       clear hw7 hU q_ ql5 W5 Q5 O5 hb6 hB6
       refine wp_region_held_drew (S:=(fun _=>True)) (by kernel_rfl) ?_ (fun hHeld=>?_)
       ·exact trivial
       refine tkH 0 ?_
       simp only [Act.put,Kr,Km,Ks]
       refine tkH 1 ?_
       simp only [Act.put,Kr,Km,Ks]
       refine tkH 2 ?_
       simp only [Act.put,Kr,Km,Ks]
       refine skH 3 ?_
       refine skH 4 ?_
       refine skH 5 ?_
       refine skH 6 ?_
       refine skH 7 ?_
       refine tkH 8 ?_
       simp only [Act.put,Kr,Km,Ks]
       refine tkH 9 ?_
       simp only [Act.put,Kr,Km,Ks]
       exact N33
     | some u=>
       have HP:=Kb hp
       have hz4:ur.size<=300000:=by omega
       obtain ⟨f1,f2,f3,f4,f5,f6⟩:=url_fit hp hz1
       obtain ⟨a,ha1⟩:=Ka (bs u.1)
       obtain ⟨b,hb1'⟩:=Ka (bs u.2.1)
       obtain ⟨c,hc1⟩:=Ka (bs u.2.2.1)
       obtain ⟨d,hd1⟩:=Ka (bs u.2.2.2.1)
       obtain ⟨e,he1⟩:=Ka (bs u.2.2.2.2.1)
       obtain ⟨f,hf1⟩:=Ka (bs u.2.2.2.2.2)
       have hu6:u=u6 a b c d e f:=by rw [<-ha1,<-hb1',<-hc1,<-hd1,<-he1,<-hf1];rfl
       rw [ha1] at f1
       rw [hb1'] at f2
       rw [hc1] at f3
       rw [hd1] at f4
       rw [he1] at f5
       rw [hf1] at f6
       have hp6:parseL ur.data.toList=some (u6 a b c d e f):=by rw [<-hu6];exact hp
       obtain ⟨G,hG1⟩:=Ka (bs (orgL (u6 a b c d e f)))
       obtain ⟨R2,hR2⟩:=Ka (readB og mo ck G oh)
       obtain ⟨R3,hR3⟩:=Ka (G.toList == og.toList)
       have CP:=Kb (fun (w':World) (hb:Below w.heap.size w w')=>parse_some4 ur w' hz4 (HHM.out.below hb lr) a b c d e f hp6)
       have CO:=Kb (fun (w':World) (hb:Below w.heap.size w w')=>origin_is a b c d e f G w' f1 f2 f3 f4 f5 f6 (HHM.out.below hb lr) (by rw [<-hG1];rfl))
       have CR2:=Kb (fun (w':World) (hb:Below w.heap.size w w')=>readable_is og mo ck a b c d e f (.slice ha oh.length hc) oh w' (HHM.out.below hb lr) (HOO.out.1.below hb lr) (HHO.out.hd (by decide)) f1 f2 f3 f4 f5 f6 G (by rw [<-hG1];rfl) R2 hR2)
       have HPL:=Kb (And.intro hp6 (And.intro hG1 hR2))
       clear hz1 hz2 hz3 hp hp6 hG1 hR2 hu6 ha1 hb1' hc1 hd1 he1 hf1 f1 f2 f3 f4 f5 f6 HP
       go_upto_region 8 with (first
        | ((with_reducible refine (CP.out _ HB5.out).mono ?_);rintro e6 w6 ⟨rfl,hb6⟩;have hB6:=HB5.out.trans (hb6.mono HB5.out.size);have Q7:=(Q5.next hb6).alloc (.cells [.string a,.string b,.string c,.string d,.string e,.string f].toArray 37);have O7:=(O5.next hb6).alloc (.cells [.string a,.string b,.string c,.string d,.string e,.string f].toArray 37);have W7:=(W5.next hb6).alloc (.cells [.string a,.string b,.string c,.string d,.string e,.string f].toArray 37);have U7:=AtL.new w6 [.string a,.string b,.string c,.string d,.string e,.string f] 37)
        | fail)
       have hB7:Below w.heap.size w (w6.alloc (.cells [.string a,.string b,.string c,.string d,.string e,.string f].toArray 37)):=hB6.alloc hB6.size _
       obtain ⟨w7,hw7⟩:=Ka (w6.alloc (.cells [.string a,.string b,.string c,.string d,.string e,.string f].toArray 37))
       obtain ⟨U,hU⟩:=Ka w6.heap.size
       rw [hw7] at Q7 O7 U7 hB7 W7
       rw [hU] at U7
       rw [hw7,hU]
       clear hw7 hU q_ ql5 W5 Q5 O5 hb6 hB6
       have HR3:=Kb hR3
       cases R3 with
       | true=>
         refine wp_region_held_drew (S:=(fun w'=>w'.cell? ⟨Q,3,none⟩=some (.string og)/\w'.cell? ⟨Q,4,none⟩=some (.int .i64 mo)/\w'.cell? ⟨Q,7,none⟩=some (.bool ck)/\w'.cell? ⟨U,0,none⟩=some (.string a)/\w'.cell? ⟨U,1,none⟩=some (.string b)/\w'.cell? ⟨U,2,none⟩=some (.string c)/\w'.cell? ⟨U,3,none⟩=some (.string d)/\w'.cell? ⟨U,4,none⟩=some (.string e)/\w'.cell? ⟨U,5,none⟩=some (.string f)/\w'.cell? ⟨O,2,none⟩=some (.slice ha oh.length hc))) (by kernel_rfl) ?_ (fun hHeld=>?_)
         ·exact fr_mk Q7 U7 O7 (Kc w7).drew
         refine tkH 0 ?_
         simp only [Act.put,Kr,Km,Ks]
         refine tkH 1 ?_
         simp only [Act.put,Kr,Km,Ks]
         refine tkH 2 ?_
         simp only [Act.put,Kr,Km,Ks]
         refine tkH 3 ?_
         simp only [Act.put,Kr,Km,Ks]
         refine tkH 5 ?_
         simp only [Act.put,Kr,Km,Ks]
         refine tkH 6 ?_
         simp only [Act.put,Kr,Km,Ks]
         refine wpAnyH_ready (rs:=[4]) (by kernel_rfl) (by simp) ?_
         refine AllReadyH.cons rfl (fun K hK=>?_) AllReadyH.nil
         go_simp
         go_wp2_with ((with_reducible refine (CO.out _ hB7.drew).mono ?_);rintro e8 w8 ⟨rfl,hbb8⟩;have hb8:Below w7.heap.size w7 w8:=(Kc w7).drew.trans hbb8)
         refine hK.out _ _ ?_ (fun hHeld2=>?_)
         ·exact fr_mk Q7 U7 O7 hb8
         clear hK K hHeld
         have hHeld:=hHeld2
         clear hHeld2
         refine tkH 7 ?_
         simp only [Act.put,Kr,Km,Ks]
         refine tkH 8 ?_
         simp only [Act.put,Kr,Km,Ks]
         refine tkH 9 ?_
         simp only [Act.put,Kr,Km,Ks]
         exact N33
       | false=>
         cases R2 with
         | true=>
           refine wp_region_held_drew (S:=(fun w'=>w'.cell? ⟨Q,3,none⟩=some (.string og)/\w'.cell? ⟨Q,4,none⟩=some (.int .i64 mo)/\w'.cell? ⟨Q,7,none⟩=some (.bool ck)/\w'.cell? ⟨U,0,none⟩=some (.string a)/\w'.cell? ⟨U,1,none⟩=some (.string b)/\w'.cell? ⟨U,2,none⟩=some (.string c)/\w'.cell? ⟨U,3,none⟩=some (.string d)/\w'.cell? ⟨U,4,none⟩=some (.string e)/\w'.cell? ⟨U,5,none⟩=some (.string f)/\w'.cell? ⟨O,2,none⟩=some (.slice ha oh.length hc))) (by kernel_rfl) ?_ (fun hHeld=>?_)
           ·exact fr_mk Q7 U7 O7 (Kc w7).drew
           refine tkH 0 ?_
           simp only [Act.put,Kr,Km,Ks]
           refine tkH 1 ?_
           simp only [Act.put,Kr,Km,Ks]
           refine tkH 2 ?_
           simp only [Act.put,Kr,Km,Ks]
           refine tkH 3 ?_
           simp only [Act.put,Kr,Km,Ks]
           refine tkH 5 ?_
           simp only [Act.put,Kr,Km,Ks]
           refine tkH 6 ?_
           simp only [Act.put,Kr,Km,Ks]
           refine wpAnyH_ready (rs:=[4]) (by kernel_rfl) (by simp) ?_
           refine AllReadyH.cons rfl (fun K hK=>?_) AllReadyH.nil
           go_simp
           go_wp2_with ((with_reducible refine (CO.out _ hB7.drew).mono ?_);rintro e8 w8 ⟨rfl,hbb8⟩;have hb8:Below w7.heap.size w7 w8:=(Kc w7).drew.trans hbb8)
           refine hK.out _ _ ?_ (fun hHeld2=>?_)
           ·exact fr_mk Q7 U7 O7 hb8
           clear hK K hHeld
           have hHeld:=hHeld2
           clear hHeld2
           refine tkH 7 ?_
           simp only [Act.put,Kr,Km,Ks]
           refine tkH 8 ?_
           simp only [Act.put,Kr,Km,Ks]
           refine tkH 9 ?_
           simp only [Act.put,Kr,Km,Ks]
           refine tkH 10 ?_
           simp only [Act.put,Kr,Km,Ks]
           refine tkH 11 ?_
           simp only [Act.put,Kr,Km,Ks]
           refine tkH 12 ?_
           simp only [Act.put,Kr,Km,Ks]
           refine tkH 13 ?_
           simp only [Act.put,Kr,Km,Ks]
           refine tkH 14 ?_
           simp only [Act.put,Kr,Km,Ks]
           refine tkH 15 ?_
           simp only [Act.put,Kr,Km,Ks]
           refine tkH 16 ?_
           simp only [Act.put,Kr,Km,Ks]
           refine tkH 17 ?_
           simp only [Act.put,Kr,Km,Ks]
           refine tkH 18 ?_
           simp only [Act.put,Kr,Km,Ks]
           refine wpAnyH_ready (rs:=[19]) (by kernel_rfl) (by simp) ?_
           refine AllReadyH.cons rfl (fun K hK=>?_) AllReadyH.nil
           go_simp
           go_wp2_with ((with_reducible refine (CR2.out _ (Kd hB7 hb8)).mono ?_);rintro e9 w9 ⟨rfl,hbb9⟩;have hb9:=Kd hb8 hbb9)
           refine hK.out _ _ ?_ (fun hHeld2=>?_)
           ·exact fr_mk Q7 U7 O7 hb9
           clear hK K hHeld
           have hHeld:=hHeld2
           clear hHeld2
           refine tkH 20 ?_
           simp only [Act.put,Kr,Km,Ks]
           refine wpAnyH_done (by kernel_rfl) ?_ _
           go_wp2_with fail
           go_ret
           exact ⟨rfl,Kd hB7 hb9⟩
         | false=>
           refine wp_region_held_drew (S:=(fun w'=>w'.cell? ⟨Q,3,none⟩=some (.string og)/\w'.cell? ⟨Q,4,none⟩=some (.int .i64 mo)/\w'.cell? ⟨Q,7,none⟩=some (.bool ck)/\w'.cell? ⟨U,0,none⟩=some (.string a)/\w'.cell? ⟨U,1,none⟩=some (.string b)/\w'.cell? ⟨U,2,none⟩=some (.string c)/\w'.cell? ⟨U,3,none⟩=some (.string d)/\w'.cell? ⟨U,4,none⟩=some (.string e)/\w'.cell? ⟨U,5,none⟩=some (.string f)/\w'.cell? ⟨O,2,none⟩=some (.slice ha oh.length hc))) (by kernel_rfl) ?_ (fun hHeld=>?_)
           ·exact fr_mk Q7 U7 O7 (Kc w7).drew
           refine tkH 0 ?_
           simp only [Act.put,Kr,Km,Ks]
           refine tkH 1 ?_
           simp only [Act.put,Kr,Km,Ks]
           refine tkH 2 ?_
           simp only [Act.put,Kr,Km,Ks]
           refine tkH 3 ?_
           simp only [Act.put,Kr,Km,Ks]
           refine tkH 5 ?_
           simp only [Act.put,Kr,Km,Ks]
           refine tkH 6 ?_
           simp only [Act.put,Kr,Km,Ks]
           refine wpAnyH_ready (rs:=[4]) (by kernel_rfl) (by simp) ?_
           refine AllReadyH.cons rfl (fun K hK=>?_) AllReadyH.nil
           go_simp
           go_wp2_with ((with_reducible refine (CO.out _ hB7.drew).mono ?_);rintro e8 w8 ⟨rfl,hbb8⟩;have hb8:Below w7.heap.size w7 w8:=(Kc w7).drew.trans hbb8)
           refine hK.out _ _ ?_ (fun hHeld2=>?_)
           ·exact fr_mk Q7 U7 O7 hb8
           clear hK K hHeld
           have hHeld:=hHeld2
           clear hHeld2
           refine tkH 7 ?_
           simp only [Act.put,Kr,Km,Ks]
           refine tkH 8 ?_
           simp only [Act.put,Kr,Km,Ks]
           refine tkH 9 ?_
           simp only [Act.put,Kr,Km,Ks]
           refine tkH 10 ?_
           simp only [Act.put,Kr,Km,Ks]
           refine tkH 11 ?_
           simp only [Act.put,Kr,Km,Ks]
           refine tkH 12 ?_
           simp only [Act.put,Kr,Km,Ks]
           refine tkH 13 ?_
           simp only [Act.put,Kr,Km,Ks]
           refine tkH 14 ?_
           simp only [Act.put,Kr,Km,Ks]
           refine tkH 15 ?_
           simp only [Act.put,Kr,Km,Ks]
           refine tkH 16 ?_
           simp only [Act.put,Kr,Km,Ks]
           refine tkH 17 ?_
           simp only [Act.put,Kr,Km,Ks]
           refine tkH 18 ?_
           simp only [Act.put,Kr,Km,Ks]
           refine wpAnyH_ready (rs:=[19]) (by kernel_rfl) (by simp) ?_
           refine AllReadyH.cons rfl (fun K hK=>?_) AllReadyH.nil
           go_simp
           go_wp2_with ((with_reducible refine (CR2.out _ (Kd hB7 hb8)).mono ?_);rintro e9 w9 ⟨rfl,hbb9⟩;have hb9:=Kd hb8 hbb9)
           refine hK.out _ _ ?_ (fun hHeld2=>?_)
           ·exact fr_mk Q7 U7 O7 hb9
           clear hK K hHeld
           have hHeld:=hHeld2
           clear hHeld2
           refine tkH 20 ?_
           simp only [Act.put,Kr,Km,Ks]
           refine wpAnyH_done (by kernel_rfl) ?_ _
           have Q9:=Q7.next hb9
           have O9:=O7.next hb9
           have W9:=W7.next hb9
           have hB9:=Kd hB7 hb9
           clear Q7 O7 W7 U7 hb8 hb9 hB7 hHeld
           have q_:=Q9.o8
           have o_:=O9.o4
           have a_:=W9.o4
           have ql9:=Q9.lt
           have ol9:=O9.lt
           have al9:=W9.lt
           have HB9:=Kb hB9
           obtain ⟨r,hr⟩:=Ka (runF 0 [⟨0,st,oh,eS⟩,⟨1,0,[],ob⟩,⟨1,0,[],secS⟩,⟨2,0,[],eS⟩] (startF 0 (newS tk me ur og mo qh qb ck) ([],0) []))
           have hpl:(∀ x∈r.ev,EvH x)/\r.ev≠[]:=by
            have h:=HPL.out
            have hF:=foreign_plain 0 (newS tk me ur og mo qh qb ck) ([],0) st oh ob HST.out (u6 a b c d e f) h.1 (by rw [<-HR3.out];rw [<-h.2.1,beq_lists];rfl) (by rw [h.2.1];exact h.2.2)
            rw [hr] at hF
            exact hF
           have HEH:=Kb hpl.1
           have HNE:=Kb hpl.2
           have hob5:ob.size<=500:=(few4_op HRR.out _ (Jc.2 rfl)).1
           have HOB5:=Kb hob5
           have CRR:=Kb (fun (w':World) (k:Nat) (hb:Below w.heap.size w w') (hA:AtL w' k [.int .u8 0,.int .i64 st,.slice ha oh.length hc,.string ⟨#[]⟩,.int .u8 1,.int .i64 0,.slice none 0 0,.string ob,.int .u8 1,.int .i64 0,.slice none 0 0,.string ⟨#[115,101,99,114,101,116]⟩,.int .u8 2,.int .i64 0,.slice none 0 0,.string ⟨#[]⟩])=>
            run_is w' (.slice none 0 0) [] 0 (.slice none 0 0) [] 0 tk me ur og mo (.slice qa qh.length qc) qh qb ck (.slice (some ⟨k,0,none⟩) 4 4) [(.slice ha oh.length hc,⟨0,st,oh,eS⟩),(.slice none 0 0,⟨1,0,[],ob⟩),(.slice none 0 0,⟨1,0,[],secS⟩),(.slice none 0 0,⟨2,0,[],eS⟩)] (HHM.out.below hb lr) (Ko HGG.out hb.size) (WIn.zero w') (HHQ.out.below hb)
             (OIn.row (lo:=[(.slice ha oh.length hc,⟨0,st,oh,eS⟩),(.slice none 0 0,⟨1,0,[],ob⟩),(.slice none 0 0,⟨1,0,[],secS⟩),(.slice none 0 0,⟨2,0,[],eS⟩)]) hA rfl (by simp) (show 4<=maxLen by decide) (fun x hx=>by
               simp only [Ji,Zo,or_false] at hx
               rcases hx with rfl | rfl | rfl | rfl
               ·exact HOO.out.1.below hb lr
               ·exact slk0 _
               ·exact slk0 _
               ·exact slk0 _) (fun x hx=>by
               simp only [Ji,Zo,or_false] at hx
               rcases hx with rfl | rfl | rfl | rfl
               ·exact HOO.out.2
               ·exact wth_nil
               ·exact wth_nil
               ·exact wth_nil)) (HF.out.q tk me mo ck) HF.out.j (by decide) (by decide) HF.out.c (fun x hx=>by
               simp only [Ji,Zo,or_false] at hx
               rcases hx with rfl | rfl | rfl | rfl
               ·exact ⟨⟨HHO.out,by show eS.size<=100000;decide⟩,by show (0:Nat)<256;decide⟩
               ·exact ⟨⟨HOk.nil 8,by have:=HOB5.out;show ob.size<=100000;omega⟩,by show (1:Nat)<256;decide⟩
               ·exact ⟨⟨HOk.nil 8,by decide⟩,by show (1:Nat)<256;decide⟩
               ·exact ⟨⟨HOk.nil 8,by decide⟩,by show (2:Nat)<256;decide⟩) (by show 4<=40;decide) (fun _ _ _=>setC) r hr)
           clear hpl hr hob5 hB9
           go_upto_region 11 with fail
           have A10:=AtL.new w9 [.int .u8 0,.int .i64 st,.slice ha oh.length hc,.string ⟨#[]⟩,.int .u8 1,.int .i64 0,.slice none 0 0,.string ob,.int .u8 1,.int .i64 0,.slice none 0 0,.string ⟨#[115,101,99,114,101,116]⟩,.int .u8 2,.int .i64 0,.slice none 0 0,.string ⟨#[]⟩] 32
           have hB10:Below w.heap.size w (w9.alloc (.cells [.int .u8 0,.int .i64 st,.slice ha oh.length hc,.string ⟨#[]⟩,.int .u8 1,.int .i64 0,.slice none 0 0,.string ob,.int .u8 1,.int .i64 0,.slice none 0 0,.string ⟨#[115,101,99,114,101,116]⟩,.int .u8 2,.int .i64 0,.slice none 0 0,.string ⟨#[]⟩].toArray 32)):=HB9.out.alloc HB9.out.size _
           obtain ⟨w10,hw10⟩:∃ w10:World,w9.alloc (.cells [.int .u8 0,.int .i64 st,.slice ha oh.length hc,.string ⟨#[]⟩,.int .u8 1,.int .i64 0,.slice none 0 0,.string ob,.int .u8 1,.int .i64 0,.slice none 0 0,.string ⟨#[115,101,99,114,101,116]⟩,.int .u8 2,.int .i64 0,.slice none 0 0,.string ⟨#[]⟩].toArray 32)=w10:=⟨_,rfl⟩
           have Q10:=Q9.alloc (.cells [.int .u8 0,.int .i64 st,.slice ha oh.length hc,.string ⟨#[]⟩,.int .u8 1,.int .i64 0,.slice none 0 0,.string ob,.int .u8 1,.int .i64 0,.slice none 0 0,.string ⟨#[115,101,99,114,101,116]⟩,.int .u8 2,.int .i64 0,.slice none 0 0,.string ⟨#[]⟩].toArray 32)
           have W10:=W9.alloc (.cells [.int .u8 0,.int .i64 st,.slice ha oh.length hc,.string ⟨#[]⟩,.int .u8 1,.int .i64 0,.slice none 0 0,.string ob,.int .u8 1,.int .i64 0,.slice none 0 0,.string ⟨#[115,101,99,114,101,116]⟩,.int .u8 2,.int .i64 0,.slice none 0 0,.string ⟨#[]⟩].toArray 32)
           rw [hw10] at A10 hB10 Q10 W10
           rw [hw10]
           have CR10:=Kb (CRR.out w10 w9.heap.size hB10 A10)
           clear hw10 A10 Q9 O9 W9 q_ o_ a_ ql9 ol9 al9 CRR
           have q_:=Q10.o8
           have a_:=W10.o4
           have ql10:=Q10.lt
           have al10:=W10.lt
           go_upto_region 12 with (first
            | ((with_reducible refine CR10.out.mono ?_);rintro e3 w11 hq3;obtain ⟨L,V,ea,n,ek,l,vj3,vc3,lx3,rfl,hn3,hL,hV,hRL⟩:=RunQ.law hq3;have Z3:=lawW_at w11;have Z4:=lawW_at2 w11 L;have HL:=Kb hL;have HV:=Kb hV;have HRL:=Kb hRL;have HN:=Kb hn3;clear hq3 hL hV hRL hn3)
            | (refine wpList_store_at rfl 40 _ _ rfl w11.heap.size L rfl rfl Z3 HL.out.1 (by rw [HL.out.1];kernel_rfl) HL.out.2 ?_)
            | (refine wpList_store_at rfl 27 _ _ rfl (w11.heap.size+1) V rfl rfl Z4 HV.out.1 (by rw [HV.out.1];kernel_rfl) HV.out.2 ?_)
            | fail)
           obtain ⟨w12,hw12⟩:∃ w12:World,(((w11.alloc (.cells fz.toArray 40)).alloc (.cells wz.toArray 27)).setCells w11.heap.size 0 L).setCells (w11.heap.size+1) 0 V=w12:=⟨_,rfl⟩
           have R12:RunL w10 0 r w11.heap.size L (.slice ea n ek) l vj3 vc3 lx3 w12:=by rw [<-hw12];exact HRL.out
           rw [hw12]
           obtain rfl:n=l.length:=HN.out
           have hll:=slk_len R12.ev
           have HEQ:=Kb R12.eq
           have HEV:=Kb (slk_at R12.ev)
           have HHS:=Kb R12.hs
           have HB12:=Kb (hB10.trans (R12.bl.mono hB10.size))
           clear hw12 HRL HL HV HN Z3 Z4 R12 CR10 hB10 Q10 W10 q_ a_ ql10 al10
           go_wp2_with fail
           go_loopw [81] (fun iv wr=>∃ kk:Nat,kk<=l.length/\iv = .int .i64 kk/\Below w12.heap.size w12 wr) (fun iv _=>l.length - (intOf iv).toNat)
           case atStart=>exact ⟨0,Kh _,rfl,Kc _⟩
           case round=>
            obtain ⟨kk,hk,rfl,hbw⟩:=hrel
            by_cases hlt:kk<l.length
            ·have heh:=evh_at HEQ.out HEH.out hlt
             obtain ⟨b0,off,cap,he,hb0',hcell⟩:=HEV.out (by omega)
             injection he with e1 e2 e3
             subst e1 e3
             clear e2
             have cc:∀ j u,(evC l[kk])[j]? = some u->wr.cell? ⟨b0,off+kk * 7+j,none⟩=some u:=fun j u hu=>(brl hbw _ _ hb0').trans (hcell kk hlt j u hu)
             have hx:=HHS.out _ (Ky hlt)
             obtain ⟨y,hy⟩:=Ka (l[kk])
             rw [hy] at cc hx heh
             obtain ⟨yv,⟨yk,yme,yur,yhs,ybo,yst,yer⟩⟩:=y
             obtain ⟨xa,xc,hxv,_⟩:=hx.shape
             have hxv:yv = .slice xa yhs.length xc:=hxv
             subst hxv
             clear hcell hy hx
             have c0:=cc 0 _ rfl
             have c1:=cc 1 _ rfl
             have c2:=cc 2 _ rfl
             have c3:=cc 3 _ rfl
             have c4:=cc 4 _ rfl
             have c5:=cc 5 _ rfl
             have c6:=cc 6 _ rfl
             simp only [Ku] at c0
             simp only at c0 c1 c2 c3 c4 c5 c6
             clear cc
             have hki:(kk:Int)<(l.length:Int):=by omega
             have h0w:b0<wr.heap.size:=Ko hb0' hbw.size
             have hbn:=Kb (fun o=>hbw.alloc hbw.size o)
             rcases heh with hk1 | ⟨h1,h2,h3,h4⟩
             ·obtain rfl:yk=1:=hk1
              exact M35
             ·obtain rfl:yst=0:=h1
              obtain rfl:yhs=[]:=h2
              obtain rfl:ybo=eS:=h3
              obtain rfl:yur=eS:=h4
              by_cases hk1:yk=1
              ·subst hk1
               exact M35
              ·have hkf:(yk == 1)=false:=Ki.2 hk1
               exact M35
            ·obtain rfl:kk=l.length:=by omega
             have hpos:0<l.length:=by
              rcases Nat.eq_zero_or_pos l.length with h0 | h0
              ·exact absurd (by rw [<-HEQ.out,Ja h0];rfl) HNE.out
              ·exact h0
             have hposi:(0:Int)<(l.length:Int):=by omega
             have HBE:=Kb (HB12.out.trans (hbw.mono HB12.out.size))
             go_wp2_with fail
             go_ret
             exact ⟨ret_bool (by simp [hpos]),HBE.out⟩
end Go.Proofs.YtjdhaacmlpegoaaGreatDoor
