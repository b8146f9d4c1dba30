/- Part 37 of what the proof needs: HV YN. -/
import Derived.Test.YtjdhaacmlpegoaaGreatDoorP11
import Derived.BigQuiet
import Derived.Test.YtjdhaacmlpegoaaGreatDoorP36
import Derived.Test.YtjdhaacmlpegoaaGreatDoorP01
set_option maxRecDepth 20000
set_option maxHeartbeats 16000000
namespace Go.Proofs.YtjdhaacmlpegoaaGreatDoor
open Go.RowKit
set_option linter.unusedSimpArgs false
set_option linter.unusedVariables false
theorem two_h {w:World}{l:List Hd}{sa sb:Option Addr}{sc sd:Nat}(hv:SlK hdC 2 w (.slice sa l.length sc) l)(hv2:SlK hdC 2 w (.slice sb l.length sd) l):
 0<l.length->∃ b0 off b2 off2:Nat,sa=some ⟨b0,off,none⟩/\sb=some ⟨b2,off2,none⟩/\∀ kk (h:kk<l.length) j u,(hdC l[kk])[j]? = some u->w.cell? ⟨b0,off+kk * 2+j,none⟩=some u/\w.cell? ⟨b2,off2+kk * 2+j,none⟩=some u:=by
 intro hlt
 rcases hv with ⟨rfl,_⟩ | ⟨_,b0,off,cap,he,hc1,hc2,hc3,hcell⟩
 ·simp at hlt
 rcases hv2 with ⟨rfl,_⟩ | ⟨_,b2,off2,cap2,he2,hd1,hd2,hd3,hcell2⟩
 ·simp at hlt
 injection he with e1 e2 e3
 injection he2 with f1 f2 f3
 exact ⟨b0,off,b2,off2,e1,f1,fun kk h j u hu=>⟨hcell kk h j u hu,hcell2 kk h j u hu⟩⟩
theorem sameA (l:List Hd)(v v2:Value)(w:World)(hv:SlK hdC 2 w v l)(hv2:SlK hdC 2 w v2 l)(hl:l.length<=1000000):
 Calls Tryz.prog 46 #[v,v2] w fun x w'=>x = .returned (.bool true)/\Below w.heap.size w w':=by
 obtain ⟨sa,sc,rfl,_⟩:=hv.shape
 obtain ⟨sb,sd,rfl,_⟩:=hv2.shape
 have HC:=Lib.hid (two_h hv hv2)
 clear hv hv2
 go_enter Tryz.func46,Tryz.ntmps46
 go_wp2_with fail
 go_loopw [5] (fun iv wr=>∃ k:Nat,k<=l.length/\iv = .int .i64 k/\Below w.heap.size w wr) (fun iv _=>l.length - (intOf iv).toNat)
 case atStart=>exact ⟨0,Nat.zero_le _,rfl,Below.refl _ _⟩
 case round=>
  obtain ⟨kk,hk,rfl,hbw⟩:=hrel
  by_cases hlt:kk<l.length
  ·obtain ⟨b0,off,b2,off2,rfl,rfl,hcell⟩:=HC.out (by omega)
   have cc:∀ j u,(hdC l[kk])[j]? = some u->wr.cell? ⟨b0,off+kk * 2+j,none⟩=some u:=fun j u hu=>(brl hbw _ _ (cell_lt (hcell kk hlt j u hu).1)).trans (hcell kk hlt j u hu).1
   have dd:∀ j u,(hdC l[kk])[j]? = some u->wr.cell? ⟨b2,off2+kk * 2+j,none⟩=some u:=fun j u hu=>(brl hbw _ _ (cell_lt (hcell kk hlt j u hu).2)).trans (hcell kk hlt j u hu).2
   obtain ⟨y,hy⟩:∃ y,l[kk]=y:=⟨_,rfl⟩
   rw [hy] at cc dd
   clear hy hcell
   obtain ⟨yn,yv⟩:=y
   have c0:=cc 0 _ rfl
   have c1:=cc 1 _ rfl
   have d0:=dd 0 _ rfl
   have d1:=dd 1 _ rfl
   simp only [Nat.add_zero] at c0 d0
   clear cc dd
   have hki:(kk:Int)<(l.length:Int):=by omega
   go_wp2_with fail
   go_quiet (fail)
   go_wp2_with fail
   go_roundw
   case rel=>exact ⟨kk+1,by omega,by go_num,below_drewN hbw _⟩
   case measure=>simp [intOf];omega
  ·obtain rfl:kk=l.length:=by omega
   go_wp2_with fail
   go_ret
   exact ⟨rfl,hbw⟩
theorem slk_two {α:Type}{enc:α->List Value}{k:Nat}{w:World}{v v2:Value}{l l2:List α}(hv:SlK enc k w v l)(hv2:SlK enc k w v2 l2)(hl:l.length=l2.length):0<l.length->∃ b0 off c b2 off2 c2:Nat,v = .slice (some ⟨b0,off,none⟩) l.length c/\v2 = .slice (some ⟨b2,off2,none⟩) l.length c2/\b0<w.heap.size/\b2<w.heap.size/\∀ kk (h:kk<l.length) (h2:kk<l2.length),(∀ j u,(enc l[kk])[j]? = some u->w.cell? ⟨b0,off+kk * k+j,none⟩=some u)/\(∀ j u,(enc l2[kk])[j]? = some u->w.cell? ⟨b2,off2+kk * k+j,none⟩=some u):=by
 intro h0
 rcases hv with ⟨rfl,_⟩ | ⟨_,b0,off,c,e1,_,_,h3,h4⟩
 ·simp at h0
 rcases hv2 with ⟨rfl,_⟩ | ⟨_,b2,off2,c2,f1,_,_,g3,g4⟩
 ·rw [List.length_nil] at hl;omega
 exact ⟨b0,off,c,b2,off2,c2,e1,by rw [hl];exact f1,h3,g3,fun kk h h2=>⟨h4 kk h,g4 kk h2⟩⟩
theorem sameEv (la lb:List (Value × Ev))(hm:la.map (·.2)=lb.map (·.2))(v v2:Value)(w:World)(hv:SlK evC 7 w v la)(hv2:SlK evC 7 w v2 lb)(ha:∀ r∈la,SlK hdC 2 w r.1 r.2.hs)(hb:∀ r∈lb,SlK hdC 2 w r.1 r.2.hs)(hl:la.length<=1000000)(hz:∀ r∈la,r.2.hs.length<=1000000):
 Calls Tryz.prog 18 #[v,v2] w fun x w'=>x = .returned (.bool true)/\Below w.heap.size w w':=by
 have hll:la.length=lb.length:=by have:=congrArg List.length hm;simpa using this
 have HC:=Lib.hid (slk_two hv hv2 hll)
 have HM:=Lib.hid hm
 have HA:=Lib.hid ha
 have HB:=Lib.hid hb
 have HZ:=Lib.hid hz
 obtain ⟨sa,sc,rfl,_⟩:=hv.shape
 obtain ⟨sb,sd,rfl,_⟩:=hv2.shape
 rw [<-hll]
 have HL:=Lib.hid hll
 clear hv hv2 hm ha hb hz hll
 go_enter Tryz.func18,Tryz.ntmps18
 go_wp2_with fail
 go_loopw [5] (fun iv wr=>∃ k:Nat,k<=la.length/\iv = .int .i64 k/\Below w.heap.size w wr) (fun iv _=>la.length - (intOf iv).toNat)
 case atStart=>exact ⟨0,Nat.zero_le _,rfl,Below.refl _ _⟩
 case round=>
  obtain ⟨kk,hk,rfl,hbw⟩:=hrel
  by_cases hlt:kk<la.length
  ·have hlt2:kk<lb.length:=by have:=HL.out;omega
   obtain ⟨b0,off,c,b2,off2,c2,e1,e2,hb0,hb2,hcell⟩:=HC.out (by omega)
   injection e1 with e1 _ e1c
   injection e2 with e2 _ e2c
   subst e1 e1c e2 e2c
   obtain ⟨cc0,dd0⟩:=hcell kk hlt hlt2
   have cc:∀ j u,(evC la[kk])[j]? = some u->wr.cell? ⟨b0,off+kk * 7+j,none⟩=some u:=fun j u hu=>(brl hbw _ _ hb0).trans (cc0 j u hu)
   have dd:∀ j u,(evC lb[kk])[j]? = some u->wr.cell? ⟨b2,off2+kk * 7+j,none⟩=some u:=fun j u hu=>(brl hbw _ _ hb2).trans (dd0 j u hu)
   have hx:=(HA.out _ (List.getElem_mem hlt)).below hbw lr
   have hy:=(HB.out _ (List.getElem_mem hlt2)).below hbw lr
   have hz:=HZ.out _ (List.getElem_mem hlt)
   have he:la[kk].2=lb[kk].2:=by
    have:=congrArg (fun l=>l[kk]?) HM.out
    simpa [hlt,hlt2] using this
   obtain ⟨x,hxx⟩:∃ x,la[kk]=x:=⟨_,rfl⟩
   obtain ⟨y,hyy⟩:∃ y,lb[kk]=y:=⟨_,rfl⟩
   rw [hxx] at cc hx he hz
   rw [hyy] at dd hy he
   have h0w:b0<wr.heap.size:=Nat.lt_of_lt_of_le hb0 hbw.size
   have h2w:b2<wr.heap.size:=Nat.lt_of_lt_of_le hb2 hbw.size
   clear hxx hyy hcell cc0 dd0
   obtain ⟨vx,ex⟩:=x
   obtain ⟨vy,ey⟩:=y
   have he:ex=ey:=he
   subst he
   have hx:SlK hdC 2 wr vx ex.hs:=hx
   have hy:SlK hdC 2 wr vy ex.hs:=hy
   have hz:ex.hs.length<=1000000:=hz
   have CS:=Lib.hid (fun (w':World) (hb:Below wr.heap.size wr w')=>sameA ex.hs vx vy w' (hx.below hb lr) (hy.below hb lr) hz)
   obtain ⟨xa,xc,rfl,_⟩:=hx.shape
   obtain ⟨ya,yc,rfl,_⟩:=hy.shape
   have c0:=cc 0 _ rfl
   have d0:=dd 0 _ rfl
   have c1:=cc 1 _ rfl
   have d1:=dd 1 _ rfl
   have c2:=cc 2 _ rfl
   have d2:=dd 2 _ rfl
   have c3:=cc 3 _ rfl
   have d3:=dd 3 _ rfl
   have c4:=cc 4 _ rfl
   have d4:=dd 4 _ rfl
   have c5:=cc 5 _ rfl
   have d5:=dd 5 _ rfl
   have c6:=cc 6 _ rfl
   have d6:=dd 6 _ rfl
   simp only [Nat.add_zero] at c0 d0
   have X2:=((Below.refl wr.heap.size wr).alloc lr (.cells [.int .i64 ex.k,.string ex.me,.string ex.ur,.slice xa ex.hs.length xc,.string ex.bo,.int .i64 ex.st,.int .i64 ex.er].toArray 48)).alloc (by simp) (.cells [.int .i64 ex.k,.string ex.me,.string ex.ur,.slice ya ex.hs.length yc,.string ex.bo,.int .i64 ex.st,.int .i64 ex.er].toArray 48)
   clear cc dd hx hy hz
   have hki:(kk:Int)<(la.length:Int):=by omega
   go_wp2_with (first
    | (go_at_call 46;(with_reducible refine (CS.out _ X2).mono ?_);rintro e3 w3 ⟨rfl,hb3⟩;have hB3:=Lib.hid (hbw.trans ((X2.trans (hb3.mono X2.size)).mono hbw.size)))
    | fail)
   go_roundw
   case rel=>exact ⟨kk+1,by omega,by go_num,hB3.out⟩
   case measure=>simp [intOf];omega
  ·obtain rfl:kk=la.length:=by omega
   go_wp2_with fail
   go_ret
   exact ⟨rfl,hbw⟩
end Go.Proofs.YtjdhaacmlpegoaaGreatDoor
