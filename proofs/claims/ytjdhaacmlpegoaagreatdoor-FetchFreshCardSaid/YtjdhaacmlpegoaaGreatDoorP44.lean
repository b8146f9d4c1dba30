/- Part 44 of what the proof needs: XW. -/
import Derived.Test.YtjdhaacmlpegoaaGreatDoorP38
import Derived.Test.YtjdhaacmlpegoaaGreatDoorP42
import Derived.Test.YtjdhaacmlpegoaaGreatDoorP01
set_option maxRecDepth 20000
set_option maxHeartbeats 16000000
namespace Go.Proofs.YtjdhaacmlpegoaaGreatDoor
open Go.RowKit
set_option linter.unusedSimpArgs false
set_option linter.unusedVariables false
def HeadQ [Prot](w:World)(s0 jb cb B:Nat)(vj vc:Value)(j:List Ck × Int)(o:Out)(x:Ending)(w':World):Prop:=
 ∃ (v:Value) (l:List (Value × Ev)) (vj' vc':Value) (lx:List Ee),x = .returned v/\FIn w' s0 jb cb B vj' j.1 j.2 vc' lx o.s/\lx.map (·.2)=o.c/\Evs (Mu s0 jb cb vj' vc') w.heap.size w' v l o.ev/\Kp w.heap.size (Mu s0 jb cb vj vc) w w'/\(∀ b,b<w.heap.size->Mu s0 jb cb vj' vc' b->Mu s0 jb cb vj vc b)
structure JarA [Prot](w:World)(s0 jb cb B:Nat)(vj vc:Value)(lx:List Ee)(S:FS)(V:Nat)(now:Int)(u:Value)(hd:List Hd)(vj1:Value)(j:List Ck × Int)(wx:World):Prop where
 f:FIn wx s0 jb cb B vj1 j.1 j.2 vc lx S
 k:Kp w.heap.size (Mu s0 jb cb vj vc) w wx
 m:∀ b,b<w.heap.size->Mu s0 jb cb vj1 vc b->Mu s0 jb cb vj vc b
 v:AtL wx V (envL jb cb now)
 vm:¬ Mu s0 jb cb vj1 vc V
 u:Hs (Mu s0 jb cb vj1 vc) wx u hd
section
variable {w wx w' : World} {s0 jb cb B : Nat} {vj vc : Value} {lx : List Ee} {S : FS} {V : Nat} {now : Int} {u : Value} {hd : List Hd} {vj1 : Value} {j : List Ck × Int}
theorem JarA.below [Prot](h:JarA w s0 jb cb B vj vc lx S V now u hd vj1 j wx)(hb:Below wx.heap.size wx w'):JarA w s0 jb cb B vj vc lx S V now u hd vj1 j w':=
 ⟨h.f.below hb,h.k.below hb h.k.size,h.m,h.v.next hb,h.vm,h.u.below hb⟩
theorem JarA.set [Prot]{x:Ending}{j':List Ck × Int}(h:JarA w s0 jb cb B vj vc lx S V now u hd vj1 j wx)(q:SetE wx jb B vj1 j' x w'):∃ vj2,JarA w s0 jb cb B vj vc lx S V now u hd vj2 j' w':=by
 obtain ⟨er,_,⟨vj2,hJ,hto⟩,hr⟩:=q
 obtain ⟨E,hM,K⟩:=h.f.env.jarTo hJ hto hr
 obtain ⟨va,vk,wa,wk,S0,hq,hh⟩:=h.f.st
 have hkp:Kp wx.heap.size (fun b=>b=jb\/vj1.ownBlock=some b) wx w':=⟨hr.os,hr.tape,hr.output,hr.size,fun i hi hne=>hr.block i hi (fun e=>hne (.inl e)) (fun e=>hne (.inr e))⟩
 have hns:¬ (fun b=>b=jb\/vj1.ownBlock=some b) s0:=by
  rintro (e | e)
  ·exact h.f.env.sj e
  ·exact h.f.env.js e
 exact ⟨vj2,⟨E,va,vk,wa,wk,S0.kp hkp S0.lt hns,hq.kp K lr hM,hh.kp K lr hM⟩,h.k.trans K h.k.size h.m,fun b hb e=>h.m b hb (hM b (Nat.lt_of_lt_of_le hb h.k.size) e),h.v.kp K h.v.lt h.vm,fun e=>h.vm (hM V h.v.lt e),h.u.kp K lr hM⟩
theorem HeadQ.of [Prot](h:JarA w s0 jb cb B vj vc lx S V now u hd vj1 j wx){o:Out}{x:Ending}(q:StepQ wx s0 jb cb B vj1 j.1 j.2 vc o x w'):HeadQ w s0 jb cb B vj vc j o x w':=by
 obtain ⟨v,l,vc',lx',h1,h2,h3,h4,h5,h6,h7⟩:=q
 exact ⟨v,l,vj1,vc',lx',h1,h2,h3,⟨h4.eq,own_mono h4.own h.k.size,h4.far,h4.hs⟩,h.k.trans h5 h.k.size h.m,fun b hb e=>h.m b hb (h6 b (Nat.lt_of_lt_of_le hb h.k.size) e)⟩
end
theorem RedA.conf [Prot]{w0 w3 w':World}{s0 jb cb B:Nat}{vj:Value}{J:List Ck}{nx:Int}{vc:Value}{S:FS}{C C':List En}{V:Nat}{now:Int}{vc1:Value}{lx1 l':List Ee}(h:RedA w0 s0 jb cb B vj J nx vc S C V now vc1 lx1 w3)(k:CaTo w3 cb B vc1 l' w')(hm:∀ y∈l',y∈lx1\/NewE y w3.heap.size)(hc:l'.map (·.2)=C')(hV:¬ Mu s0 jb cb vj vc1 V):
 ∃ vc2,RedA w0 s0 jb cb B vj J nx vc S C' V now vc2 l' w':=by
 obtain ⟨a,c,E,hM,K⟩:=h.f.env.caTo k hm
 have hr:=k.2
 have hkp:Kp w3.heap.size (fun b=>b=cb\/vc1.ownBlock=some b) w3 w':=⟨hr.os,hr.tape,hr.output,hr.size,fun i hi hne=>hr.block i hi (fun e=>hne (.inl e)) (fun e=>hne (.inr e))⟩
 have hns:¬ (fun b=>b=cb\/vc1.ownBlock=some b) s0:=by
  rintro (e | e)
  ·exact h.f.env.sc e
  ·exact h.f.env.cs e
 obtain ⟨va,vk,wa,wk,S0,hq,hh⟩:=h.f.st
 exact ⟨.slice a l'.length c,⟨⟨E,va,vk,wa,wk,S0.kp hkp S0.lt hns,hq.kp K lr hM,hh.kp K lr hM⟩,hc,h.k.trans K h.k.size h.m,fun b hb e=>h.m b hb (hM b (Nat.lt_of_lt_of_le hb h.k.size) e),h.v.kp K h.v.lt hV⟩⟩
def CnfE [Prot](w0:World)(s0 jb cb B:Nat)(vj:Value)(J:List Ck)(nx:Int)(vc:Value)(S:FS)(V:Nat)(now:Int)(ok:Bool)(en:En)(C':List En)(c11 c12:Value)(w':World):Prop:=
 ∃ (P:Nat) (u:ByteArray) (a1:Option Addr) (n1 k1:Nat) (a2:Option Addr) (n2 k2:Nat) (ti:Int) (vc2:Value) (l':List Ee),.pointer (some ⟨P,0,none⟩)=c11/\.bool ok=c12/\AtL w' P [.string u,.slice a1 n1 k1,.int .i64 en.st,.slice a2 n2 k2,.string en.bo,.int .i64 ti]/\RedA w0 s0 jb cb B vj J nx vc S C' V now vc2 l' w'/\SlK hdC 2 w' (.slice a2 n2 k2) en.hd/\FarM (fun b=>b=s0) en.hd (.slice a2 n2 k2)
section
variable {w0 wc w4 w5 : World} {s0 jb cb B P V : Nat} {vj : Value} {J : List Ck} {nx now ti : Int} {vc vc1 : Value} {S : FS} {C C' : List En} {lx1 l' : List Ee} {u : ByteArray} {a1 a2 : Option Addr} {n1 k1 n2 k2 : Nat} {en : En} {ok : Bool} {e : Ending}
theorem confr_open (h:ConfR w4 cb B vc1 lx1 ok en C' e w5):∃ (u:ByteArray) (a1:Option Addr) (n1 k1:Nat) (a2:Option Addr) (n2 k2:Nat) (ti:Int) (l':List Ee),e = .returned (.tuple #[.agg #[.string u,.slice a1 n1 k1,.int .i64 en.st,.slice a2 n2 k2,.string en.bo,.int .i64 ti],.bool ok])/\SlK hdC 2 w5 (.slice a2 n2 k2) en.hd/\(∀ b off n k,Value.slice a2 n2 k2 = .slice (some ⟨b,off,none⟩) n k->w4.heap.size<=b)/\CaTo w4 cb B vc1 l' w5/\l'.map (·.2)=C'/\∀ y∈l',y∈lx1\/NewE y w4.heap.size:=by
 obtain ⟨u,a1,n1,k1,st,a2,n2,k2,bo,ti,L,rfl,hr,hn,h1,h2,h3⟩:=h
 have e1:st=en.st:=hr.st
 have e2:bo=en.bo:=hr.bo
 subst e1 e2
 exact ⟨u,a1,n1,k1,a2,n2,k2,ti,L,rfl,hr.hd,hn.2,h1,h2,h3⟩
theorem cnf_ab [Prot](A:RedA w0 s0 jb cb B vj J nx vc S C V now vc1 lx1 wc)(hV:¬ Mu s0 jb cb vj vc1 V)(h34:Below wc.heap.size wc w4)(hP:wc.heap.size<=P)(A4:AtL w4 P zE)(h2:SlK hdC 2 w5 (.slice a2 n2 k2) en.hd)(hn:∀ b off n k,Value.slice a2 n2 k2 = .slice (some ⟨b,off,none⟩) n k->w4.heap.size<=b)(hto:CaTo w4 cb B vc1 l' w5)(hc:l'.map (·.2)=C')(hm:∀ y∈l',y∈lx1\/NewE y w4.heap.size)(u:ByteArray)(a1:Option Addr)(n1 k1:Nat)(ti:Int):
 CnfE w0 s0 jb cb B vj J nx vc S V now ok en C' (.pointer (some ⟨P,0,none⟩)) (.bool ok) (setE6 w5 P (.string u) (.slice a1 n1 k1) (.int .i64 en.st) (.slice a2 n2 k2) (.string en.bo) (.int .i64 ti)):=by
 have hcb:=A.f.env.lc
 have hls:=A.f.env.ls
 have hPw:=A4.lt
 have A5:=A4.row hto.2 A4.lt (by omega) (fun e=>by have:=A.f.env.cl e;omega)
 have hfar:∀ y∈l',FarE y P none:=fun y hy=>by
  rcases hm y hy with h4 | h4
  ·exact FarE.new (A.f.env.ca.rd y h4) hP
  ·exact h4.far hPw (fun b e=>by cases e)
 obtain ⟨vc2,A6⟩:=A.conf (cato_fin6 A.f.env.ca h34 hto hfar hP hPw (.string u) (.slice a1 n1 k1) (.int .i64 en.st) (.slice a2 n2 k2) (.string en.bo) (.int .i64 ti)) (fun y hy=>(hm y hy).imp id (fun h=>⟨fun b off n k e=>Nat.le_trans h34.size (h.1 b off n k e),fun b off n k e=>Nat.le_trans h34.size (h.2 b off n k e)⟩)) hc hV
 have hf2:FarV en.hd (.slice a2 n2 k2) P none:=fun _ b off n k e=>⟨by have:=hn b off n k e;omega,by simp⟩
 exact ⟨P,u,a1,n1,k1,a2,n2,k2,ti,vc2,l',rfl,rfl,A5.setE6 rfl _ _ _ _ _ _,A6,slk_setE6 h2 hf2 _ _ _ _ _ _,fun _ b off n c e e2=>by have:=hn b off n c e;have:=h34.size;omega⟩
theorem cnf_c [Prot](A:RedA w0 s0 jb cb B vj J nx vc S C V now vc1 lx1 wc)(hV:¬ Mu s0 jb cb vj vc1 V)(h34:Below wc.heap.size wc w4)(h2:SlK hdC 2 w5 (.slice a2 n2 k2) en.hd)(hn:∀ b off n k,Value.slice a2 n2 k2 = .slice (some ⟨b,off,none⟩) n k->w4.heap.size<=b)(hto:CaTo w4 cb B vc1 l' w5)(hc:l'.map (·.2)=C')(hm:∀ y∈l',y∈lx1\/NewE y w4.heap.size)(u:ByteArray)(a1:Option Addr)(n1 k1:Nat)(ti:Int):
 CnfE w0 s0 jb cb B vj J nx vc S V now ok en C' (.pointer (some ⟨w5.heap.size,0,none⟩)) (.bool ok) (w5.alloc (.cells #[.string u,.slice a1 n1 k1,.int .i64 en.st,.slice a2 n2 k2,.string en.bo,.int .i64 ti] 90)):=by
 have hls:=A.f.env.ls
 have hal:=(Below.refl _ w5).alloc lr (.cells #[.string u,.slice a1 n1 k1,.int .i64 en.st,.slice a2 n2 k2,.string en.bo,.int .i64 ti] 90)
 obtain ⟨⟨v',h5,h6⟩,h7⟩:=hto
 have hto2:CaTo wc cb B vc1 l' (w5.alloc (.cells #[.string u,.slice a1 n1 k1,.int .i64 en.st,.slice a2 n2 k2,.string en.bo,.int .i64 ti] 90)):=
  ⟨⟨v',h5.below hal lr,fun g e=>(h6 g e).imp id (fun h=>Nat.le_trans h34.size h)⟩,(((RowBut.refl wc.heap.size cb vc1.ownBlock wc).below h34 lr).trans (h7.mono h34.size)).below hal (Nat.le_trans h34.size h7.size)⟩
 obtain ⟨vc2,A6⟩:=A.conf hto2 (fun y hy=>(hm y hy).imp id (fun h=>⟨fun b off n k e=>Nat.le_trans h34.size (h.1 b off n k e),fun b off n k e=>Nat.le_trans h34.size (h.2 b off n k e)⟩)) hc hV
 exact ⟨_,u,a1,n1,k1,a2,n2,k2,ti,vc2,l',rfl,rfl,AtL.new w5 [.string u,.slice a1 n1 k1,.int .i64 en.st,.slice a2 n2 k2,.string en.bo,.int .i64 ti] 90,A6,h2.below hal lr,fun _ b off n c e e2=>by have:=hn b off n c e;have:=h34.size;omega⟩
end
theorem jarF_snoc (S:FS)(now:Int)(h:Hd):∀ (l:List Hd) (j:List Ck × Int),jarF S now (l ++ [h]) j=if isH h scN then setJ h.2 S now (jarF S now l j) else jarF S now l j
 | [],j=>rfl
 | x :: l,j=>by
   show jarF S now (l ++ [h]) (if isH x scN then setJ x.2 S now j else j)=_
   exact jarF_snoc S now h l _
theorem e02h_mk {W:World}{Q:Nat}{a b c:Value}(h:AtL W Q [a,b,c]):W.cell? ⟨Q,0,none⟩=some a/\W.cell? ⟨Q,2,none⟩=some c:=⟨h.c 0 rfl,h.c 2 rfl⟩
def cnfO (S:FS)(C:List En)(J:List Ck)(now:Int):Option (En × List En)->Out
 | none=>failO S C 17
 | some r=>storedF (sendF J now 11) now r.1 S r.2
theorem head_is [Prot]{w:World}{s0 jb cb B:Nat}{vj:Value}{J:List Ck}{nx:Int}{vc:Value}{lx:List Ee}{S:FS}{n m:Nat}(F:FIn w s0 jb cb B vj J nx vc lx S)(hS:SOk S)(hJ:JOk J)(hC:COk n m (lx.map (·.2)))(hn:n<=870)(hm:m+8<=800)(h8:8<=m)(hn1:0<=nx)(hn2:nx<=1125899906900000)
 (st:Int) (u:Value) (hd:List Hd) (hu:Hs (Mu s0 jb cb vj vc) w u hd) (hh:HOk 8 hd) (hset:(∃ h∈hd,isH h scN=true)->SetC) (now:Int) (p:(List Ck × Int) × Out) (hp:headA now st hd S (J,nx) (lx.map (·.2))=p) :
 Calls Tryz.prog 31 #[.pointer (some ⟨s0,0,none⟩),.int .i64 st,u,envA jb cb now] w (HeadQ w s0 jb cb B vj vc p.1 p.2):=by
 have hal:=(Below.refl _ w).alloc lr (.cells (envL jb cb now).toArray 83)
 have V1:=AtL.new w (envL jb cb now) 83
 have F1:=F.below hal
 have hV1:¬ Mu s0 jb cb vj vc w.heap.size:=fun e=>by have:=F.env.mlt _ e;omega
 have A1:JarA w s0 jb cb B vj vc lx S w.heap.size now u hd vj (J,nx) (w.alloc (.cells (envL jb cb now).toArray 83)):=⟨F1,Kp.of_below hal lr,fun _ _ e=>e,V1,hV1,hu.below hal⟩
 obtain ⟨ua,uk,rfl⟩:=hu.shape
 obtain ⟨C,hCe⟩:∃ C,lx.map (·.2)=C:=⟨_,rfl⟩
 rw [hCe] at hp
 have hjb:=fun k=>jarF_ok (now:=now) hS.u4 (hd.take k) (J,nx) hJ (fun x hx=>by have:=hh.sz x (List.mem_of_mem_take hx);omega)
 have HJB:=Lib.hid hjb
 have HH:=Lib.hid hh
 have HSET:=Lib.hid hset
 have hhl:=hh.len
 have HSK:=Lib.hid hS
 have HCK:=Lib.hid hC
 have HCE:=Lib.hid hCe
 have HJ:=Lib.hid hJ
 obtain ⟨w1,hw1⟩:∃ w1:World,w.alloc (.cells (envL jb cb now).toArray 83)=w1:=⟨_,rfl⟩
 obtain ⟨V,hV⟩:∃ V,w.heap.size=V:=⟨_,rfl⟩
 rw [hw1] at A1
 rw [hV] at A1
 have hVs:V<=w.heap.size:=Nat.le_of_eq hV.symm
 obtain ⟨va,vk,wa,wk,S1,_,_⟩:=A1.f.st
 have S1:AtL w1 s0 (fsC S.tk S.me S.ur S.og S.mo (.slice va S.qh.length vk) S.qb S.ck S.ph S.a S.b S.c S.d S.e S.f S.sm S.ho S.ch S.hi S.st (.slice wa S.hs.length wk) S.sb S.er):=S1
 have HA1:=Lib.hid A1
 clear hal V1 F1 hV1 A1 hu F hS hJ hC hjb hh hCe hset
 have CF:=Lib.hid (fun (w':World) (vj':Value) (J':List Ck) (nx':Int) (vc':Value) (lx':List Ee) (S':FS) (F':FIn w' s0 jb cb B vj' J' nx' vc' lx' S') (e:Int)=>fail_is F' e)
 have z0:=S1.c 0 rfl;have z1:=S1.c 1 rfl;have z2:=S1.c 2 rfl;have z3:=S1.c 3 rfl;have z4:=S1.c 4 rfl;have z5:=S1.c 5 rfl;have z6:=S1.c 6 rfl;have z7:=S1.c 7 rfl;have z8:=S1.c 8 rfl;have z9:=S1.c 9 rfl;have z10:=S1.c 10 rfl;have z11:=S1.c 11 rfl;have z12:=S1.c 12 rfl;have z13:=S1.c 13 rfl;have z14:=S1.c 14 rfl;have z15:=S1.c 15 rfl;have z16:=S1.c 16 rfl;have z17:=S1.c 17 rfl;have z18:=S1.c 18 rfl;have z19:=S1.c 19 rfl;have z20:=S1.c 20 rfl;have z21:=S1.c 21 rfl;have z22:=S1.c 22 rfl;have y_:=S1.of23
 have zl:=S1.lt
 unfold headA at hp
 by_cases hph:S.ph=1
 ·rw [if_pos hph] at hp
  have hpb:(S.ph == 1)=true:=by rw [hph];rfl
  have hpn:(S.ph != 1)=false:=by rw [hph];rfl
  have HPH:=Lib.hid hph
  have HP:=Lib.hid hp
  clear hph hp
  obtain ⟨ckb,hck⟩:∃ ckb,S.ck=ckb:=⟨_,rfl⟩
  rw [hck] at z7
  have HCKB:=Lib.hid hck
  clear hck
  go_enter Tryz.func31,Tryz.ntmps31
  go_upto_if 22 with fail
  obtain ⟨j,hj⟩:∃ j,jarH S now hd (J,nx)=j:=⟨_,rfl⟩
  have HJJ:=Lib.hid hj
  clear hj
  clear z0 z1 z2 z3 z4 z5 z6 z7 z8 z9 z10 z11 z12 z13 z14 z15 z16 z17 z18 z19 z20 z21 z22 y_ S1
  go_cut [] from 23 to 42 (fun wx=>∃ vj1,JarA w s0 jb cb B vj vc lx S V now (.slice ua hd.length uk) hd vj1 j wx)
  case first=>
   cases ckb with
   | false=>
     go_wp2_with fail
     go_meet
     case rel=>exact ⟨vj,by rw [<-HJJ.out];unfold jarH;rw [HCKB.out,if_neg (by decide)];exact HA1.out⟩
   | true=>
     go_wp2_with fail
     go_loopw [25] (fun iv wr=>∃ k:Nat,k<=hd.length/\iv = .int .i64 k/\Hid (∃ vj1,JarA w s0 jb cb B vj vc lx S V now (.slice ua hd.length uk) hd vj1 (jarF S now (hd.take k) (J,nx)) wr)) (fun iv _=>hd.length - (intOf iv).toNat)
     case atStart=>exact ⟨0,Nat.zero_le _,rfl,Lib.hid ⟨vj,HA1.out⟩⟩
     case round=>
      obtain ⟨k,hk,rfl,HR⟩:=hrel
      obtain ⟨vj1,A2⟩:=HR.out
      by_cases hlt:k<hd.length
      ·have hki:(k:Int)<(hd.length:Int):=by omega
       have hl9:hd.length<=9223372036854775807:=by omega
       have HA2:=Lib.hid A2
       obtain ⟨b0,off,cap,he,hb0,hcell⟩:∃ b0 off cap:Nat,Value.slice ua hd.length uk = .slice (some ⟨b0,off,none⟩) hd.length cap/\b0<wr.heap.size/\∀ j v,(hdC hd[k])[j]? = some v->wr.cell? ⟨b0,off+k * 2+j,none⟩=some v:=by
        rcases A2.u.1 with ⟨h0,_⟩ | ⟨_,b0,off,cap,he,_,_,h4,h5⟩
        ·rw [h0] at hlt;exact absurd hlt (Nat.not_lt_zero _)
        ·exact ⟨b0,off,cap,he,h4,h5 k hlt⟩
       injection he with e1 e2 e3
       subst e1 e3
       have hst:=jarF_snoc S now hd[k] (hd.take k) (J,nx)
       rw [<-List.take_succ_eq_append_getElem hlt] at hst
       have hz:=HH.out.sz _ (List.getElem_mem hlt)
       have hjk:=HJB.out k
       have hzv:hd[k].2.size<=1000:=by omega
       have hset2:=fun e=>HSET.out ⟨_,List.getElem_mem hlt,e⟩
       obtain ⟨y,hy⟩:∃ y,hd[k]=y:=⟨_,rfl⟩
       rw [hy] at hst hz hcell hzv hset2
       obtain ⟨yn,yv⟩:=y
       have c0:=hcell 0 _ rfl
       have c1:=hcell 1 _ rfl
       simp only [Nat.add_zero] at c0
       obtain ⟨hb,hhb⟩:∃ hb,isH (yn,yv) scN=hb:=⟨_,rfl⟩
       have CI:=Lib.hid (fun (w':World)=>is_is (yn,yv) scN w' (by omega) (by decide) hb hhb)
       rw [hhb] at hst hset2
       have HSET2:=Lib.hid hset2
       clear hset2
       obtain ⟨j1,hj1⟩:∃ j1,jarF S now (hd.take k) (J,nx)=j1:=⟨_,rfl⟩
       rw [hj1] at hst hjk A2 HA2
       have htl:(hd.take k).length<=8:=by rw [List.length_take];omega
       have HST:=Lib.hid hst
       have CJ:=Lib.hid (fun (e:hb=true) (w':World) (F':FIn w' s0 jb cb B vj1 j1.1 j1.2 vc lx S)=>HSET2.out e w' jb B vj1 j1.1 j1.2 yv S now F'.env.mx F'.env.jar HSK.out.u4 hjk.1 (by have:=hjk.2.1;have h0:(J,nx).2=nx:=rfl;omega) (by have:=hjk.2.2;have h0:(J,nx).2=nx:=rfl;omega) hzv)
       have V2:=A2.v
       obtain ⟨va2,vk2,wa2,wk2,S2,_,_⟩:=A2.f.st
       have S2:AtL wr s0 (fsC S.tk S.me S.ur S.og S.mo (.slice va2 S.qh.length vk2) S.qb S.ck S.ph S.a S.b S.c S.d S.e S.f S.sm S.ho S.ch S.hi S.st (.slice wa2 S.hs.length wk2) S.sb S.er):=S2
       have B3:=AtL.new wr (hdC (yn,yv)) 70
       have h3:=(Below.refl _ wr).alloc lr (.cells (hdC (yn,yv)).toArray 70)
       have V3:=V2.next h3
       have S3:=S2.next h3
       clear hcell hst hz hhb hjk hy hj1 A2 HR
       cases hb with
       | false=>
         have HST:Hid (jarF S now (hd.take (k+1)) (J,nx)=j1):=Lib.hid (by rw [HST.out];rfl)
         go_wp2_with (go_at_call 71;(with_reducible refine (CI.out _).mono ?_);rintro e4 w4 ⟨rfl,hb4⟩;have HA4:=Lib.hid (HA2.out.below (h3.trans (hb4.mono h3.size))))
         go_roundw
         case rel=>exact ⟨k+1,by omega,by go_num,Lib.hid ⟨vj1,by rw [HST.out];exact HA4.out⟩⟩
         case measure=>simp [intOf];omega
       | true=>
         have CJ2:=Lib.hid (CJ.out rfl)
         clear CJ HSET2
         have HST:Hid (jarF S now (hd.take (k+1)) (J,nx)=setJ yv S now j1):=Lib.hid (by rw [HST.out];rfl)
         go_upto_region 8 with (go_at_call 71;(with_reducible refine (CI.out _).mono ?_);rintro e4 w4 ⟨rfl,hb4⟩;have V4:=V3.next hb4;have S4:=S3.next hb4;have B4:=B3.next hb4;have HA4:=Lib.hid (HA2.out.below (h3.trans (hb4.mono h3.size))))
         obtain ⟨Hb,hHb⟩:∃ Hb,wr.heap.size=Hb:=⟨_,rfl⟩
         rw [hHb] at B4
         rw [hHb]
         have hsH:s0≠Hb:=by have:=HA2.out.f.env.ls;omega
         have hjH:Hb≠jb:=by have:=HA2.out.f.env.lj;omega
         have hoH:vj1.ownBlock≠some Hb:=fun e=>by have:=HA2.out.f.env.jl e;omega
         clear hHb V2 S2 V3 S3 B3 h3 hb4
         have z0:=S4.c 0 rfl;have z1:=S4.c 1 rfl;have z2:=S4.c 2 rfl;have z3:=S4.c 3 rfl;have z4:=S4.c 4 rfl;have z5:=S4.c 5 rfl;have z6:=S4.c 6 rfl;have z7:=S4.c 7 rfl;have z8:=S4.c 8 rfl;have z9:=S4.c 9 rfl;have z10:=S4.c 10 rfl;have z11:=S4.c 11 rfl;have z12:=S4.c 12 rfl;have z13:=S4.c 13 rfl;have z14:=S4.c 14 rfl;have z15:=S4.c 15 rfl;have z16:=S4.c 16 rfl;have z17:=S4.c 17 rfl;have z18:=S4.c 18 rfl;have z19:=S4.c 19 rfl;have z20:=S4.c 20 rfl;have z21:=S4.c 21 rfl;have z22:=S4.c 22 rfl
         have zl:=S4.lt
         have v_:=V4.o3
         have vl:=V4.lt
         have b0:=B4.c 0 rfl;have b1:=B4.c 1 rfl
         have bl:=B4.lt
         go_region_held3 (fun w'=>(w'.cell? ⟨V,0,none⟩=some (.pointer (some ⟨jb,0,none⟩))/\w'.cell? ⟨V,2,none⟩=some (.int .i64 now))/\w'.cell? ⟨Hb,1,none⟩=some (.string yv)/\w'.cell? ⟨s0,9,none⟩=some (.string S.a)/\w'.cell? ⟨s0,10,none⟩=some (.string S.b)/\w'.cell? ⟨s0,11,none⟩=some (.string S.c)/\w'.cell? ⟨s0,12,none⟩=some (.string S.d)/\w'.cell? ⟨s0,13,none⟩=some (.string S.e)/\w'.cell? ⟨s0,14,none⟩=some (.string S.f))
          (first | exact ⟨e02h_mk V4.drew,B4.drew.c 1 rfl,s7_at S4.drew⟩ | go_keep)
          (first
            | (go_at_call 72;(with_reducible refine (CJ2.out w4.drew (HA4.out.below (Below.refl _ w4).drew).f).mono ?_);rintro e5 w5 hq5;have HA5:=Lib.hid ((HA4.out.below (Below.refl _ w4).drew).set hq5);obtain ⟨er5,rfl,-,hr5⟩:=hq5;have B5:=B4.drew.row hr5 B4.drew.lt hjH hoH;have h3:=B5.c 1 rfl;first | (obtain ⟨vj5,A5⟩:=HA5.out;have V5:=A5.v;obtain ⟨va5,vk5,wa5,wk5,S5,_,_⟩:=A5.f.st;have h1:=e02h_mk V5;have h2:=s7_at S5;skip) | skip)
            | fail)
         all_goals
          clear z0 z1 z2 z3 z4 z5 z6 z7 z8 z9 z10 z11 z12 z13 z14 z15 z16 z17 z18 z19 z20 z21 z22
          clear v_ b0 b1 zl vl bl V4 S4 B4
          go_wp2_with fail
          go_roundw
          case rel=>exact ⟨k+1,by omega,by go_num,Lib.hid (by rw [HST.out];exact HA5.out)⟩
          case measure=>simp [intOf];omega
      ·obtain rfl:k=hd.length:=by omega
       have HA2:=Lib.hid A2
       clear A2 HR
       go_wp2_with fail
       go_meet
       case rel=>exact ⟨vj1,by rw [<-HJJ.out];unfold jarH;rw [HCKB.out,if_pos rfl];have h:=HA2.out;rw [List.take_length] at h;exact h⟩
  case rest=>
   obtain ⟨vj1,Ac⟩:=hcut
   have hjk:=HJB.out hd.length
   rw [List.take_length] at hjk
   have hjo:JOk j.1:=by
    rw [<-HJJ.out];unfold jarH
    split
    ·exact hjk.1
    ·exact HJ.out
   have HJO:=Lib.hid hjo
   have AR:RedA wc s0 jb cb B vj1 j.1 j.2 vc S C V now vc lx wc:=⟨Ac.f,HCE.out,Kp.refl _ _ _,fun _ _ e=>e,Ac.v⟩
   have HAC:=Lib.hid Ac
   have HAR:=Lib.hid AR
   have HP2:Hid (p.1=j/\headF j.1 now st hd S C=p.2):=Lib.hid (by have h:=HP.out;rw [HJJ.out] at h;subst h;exact ⟨rfl,rfl⟩)
   have V2:=Ac.v
   obtain ⟨va2,vk2,wa2,wk2,S2,hq2,hh2⟩:=Ac.f.st
   have S2:AtL wc s0 (fsC S.tk S.me S.ur S.og S.mo (.slice va2 S.qh.length vk2) S.qb S.ck S.ph S.a S.b S.c S.d S.e S.f S.sm S.ho S.ch S.hi S.st (.slice wa2 S.hs.length wk2) S.sb S.er):=S2
   have z0:=S2.c 0 rfl;have z1:=S2.c 1 rfl;have z2:=S2.c 2 rfl;have z3:=S2.c 3 rfl;have z4:=S2.c 4 rfl;have z5:=S2.c 5 rfl;have z6:=S2.c 6 rfl;have z7:=S2.c 7 rfl;have z8:=S2.c 8 rfl;have z9:=S2.c 9 rfl;have z10:=S2.c 10 rfl;have z11:=S2.c 11 rfl;have z12:=S2.c 12 rfl;have z13:=S2.c 13 rfl;have z14:=S2.c 14 rfl;have z15:=S2.c 15 rfl;have z16:=S2.c 16 rfl;have z17:=S2.c 17 rfl;have z18:=S2.c 18 rfl;have z19:=S2.c 19 rfl;have z20:=S2.c 20 rfl;have z21:=S2.c 21 rfl;have z22:=S2.c 22 rfl
   have zl:=S2.lt
   have v_:=V2.o3
   have vl:=V2.lt
   clear hjk hjo AR Ac HP zl
   have zl:=S2.lt
   obtain ⟨chb,hchb⟩:∃ chb,S.ch=chb:=⟨_,rfl⟩
   rw [hchb] at z17
   have HCB:=Lib.hid hchb
   clear hchb
   by_cases h304:(chb && decide (st=304))=true
   ·obtain ⟨rfl,h3⟩:chb=true/\st=304:=by simpa using h304
    subst h3
    clear h304
    obtain ⟨T,hT⟩:∃ T,txB S=T:=⟨_,rfl⟩
    obtain ⟨L,hL⟩:∃ L,hdF S=L:=⟨_,rfl⟩
    obtain ⟨q,hq⟩:∃ q,confF C T L hd now=q:=⟨_,rfl⟩
    have ho:cnfO S C j.1 now q=p.2:=by
     have h:=HP2.out.2
     unfold headF at h
     rw [HCB.out,hT,hL,hq] at h
     rw [<-h]
     cases q <;> rfl
    have hqo:=fun r (h:confF C T L hd now=some r)=>conf_ok (n:=n) (m:=m) (by rw [<-HCE.out];exact HCK.out) HH.out T L now r h
    rw [hq] at hqo
    have hzl:HdSz L:=by rw [<-hL];exact HSK.out.r.1
    obtain ⟨ok,en,C',hoke,HQO⟩:∃ (ok:Bool) (en:En) (C':List En),((ok=false/\C'=C/\failO S C 17=p.2)\/(ok=true/\EOk (m+8) en/\COk n (m+8) C'/\storedF (sendF j.1 now 11) now en S C'=p.2)) /\
     ∀ (w':World) (F':FIn w' s0 jb cb B vj1 j.1 j.2 vc lx S) (vr:Value) (_:SlK hdC 2 w' vr L) (_:SlK hdC 2 w' (.slice ua hd.length uk) hd),Calls Tryz.prog 73 #[.pointer (some ⟨cb,0,none⟩),.string T,vr,.slice ua hd.length uk,.int .i64 now] w' (ConfR w' cb B vc lx ok en C'):=by
     have eC:=HCE.out
     subst eC
     have hcall:=fun (w':World) (F':FIn w' s0 jb cb B vj1 j.1 j.2 vc lx S) (vr:Value) (hv:SlK hdC 2 w' vr L) (hu':SlK hdC 2 w' (.slice ua hd.length uk) hd)=>conf_all cb B vc lx w' F'.env.ca (fun x hx=>⟨(HCK.out.ok x.2 (List.mem_map_of_mem hx)).va,(HCK.out.ok x.2 (List.mem_map_of_mem hx)).hd.hd (by omega)⟩) (by have:=HCK.out.len;rw [List.length_map] at this;omega) T L hd vr _ hv hu' hzl (HH.out.hd (by omega)) (by omega) (fun x hx=>by have:=(HCK.out.ok x.2 (List.mem_map_of_mem hx)).hd.len;omega) now q hq
     cases q with
     | none=>exact ⟨false,en0,_,.inl ⟨rfl,rfl,ho⟩,hcall⟩
     | some r=>
       obtain ⟨e,C'⟩:=r
       have h1:=hqo (e,C') rfl
       exact ⟨true,e,C',.inr ⟨rfl,h1.1,h1.2,ho⟩,hcall⟩
    have HOK:=Lib.hid hoke
    have HQF:=Lib.hid HQO
    have CT:=Lib.hid (fun (w':World) (F':FIn w' s0 jb cb B vj1 j.1 j.2 vc lx S)=>(show Calls Tryz.prog 74 #[.pointer (some ⟨s0,0,none⟩)] w' fun x w''=>x = .returned (.string T)/\Below w'.heap.size w' w'' by
     obtain ⟨va,vk,wa,wk,S',_,_⟩:=F'.st
     exact txt_is S' HSK.out.u4 T hT))
    have CH:=Lib.hid (fun (w':World) (F':FIn w' s0 jb cb B vj1 j.1 j.2 vc lx S)=>(show Calls Tryz.prog 75 #[.pointer (some ⟨s0,0,none⟩)] w' (HdsQ w' L) by
     obtain ⟨va,vk,wa,wk,S',hq',_⟩:=F'.st
     exact headers_is S s0 _ _ w' F'.env.mx S' hq'.1 HSK.out.q HSK.out.u4 L hL))
    clear hT hL hq ho hqo hzl hoke HQO
    go_upto_region 11 with fail
    go_cut [11,12] from 51 to 63 (fun c11 c12 w'=>CnfE wc s0 jb cb B vj1 j.1 j.2 vc S V now ok en C' c11 c12 w')
    case first=>
     have hcV:V≠cb:=fun e=>HAC.out.vm (.inr (.inr (.inl e)))
     have hoV:vc.ownBlock≠some V:=fun e=>HAC.out.vm (.inr (.inr (.inr (.inr e))))
     have hcl:=HAC.out.f.env.lc
     clear z0 z1 z2 z3 z4 z5 z6 z7 z8 z9 z10 z11 z12 z13 z14 z15 z16 z17 z18 z19 z20 z21 z22
     go_region_held3 (fun w'=>w'.cell? ⟨V,1,none⟩=some (.pointer (some ⟨cb,0,none⟩))/\w'.cell? ⟨V,2,none⟩=some (.int .i64 now))
      (first | with_reducible exact e2_mk V2.drew | with_reducible exact e2_mk (V2.alloc _).drew | with_reducible exact e2_mk V4 | with_reducible exact e2_mk (V4.alloc _) | with_reducible exact e2_mk V5 | with_reducible exact e2_mk (V5.alloc _) | with_reducible exact e2_mk V6 | with_reducible exact e2_mk (V6.alloc _) | exact e2_mk (atl_farE6 V6 hPV _ _ _ _ _ _) | go_keep)
      (first
        | (go_at_call 74;(with_reducible refine (CT.out wc.drew (HAC.out.f.below (Below.refl _ wc).drew)).mono ?_);rintro e4 w4 ⟨rfl,hbb4⟩;have h34:Below wc.heap.size wc w4:=(Below.refl wc.heap.size wc).drew.trans hbb4;have V4:=V2.next h34;have vl4:=V4.lt)
        | (go_at_call 74;(with_reducible refine (CT.out (wc.alloc (.cells zE.toArray 90)).drew (HAC.out.f.below ((Below.refl wc.heap.size wc).alloc lr (.cells zE.toArray 90)).drew)).mono ?_);rintro e4 w4 ⟨rfl,hbb4⟩;have h34:Below wc.heap.size wc w4:=((Below.refl wc.heap.size wc).alloc lr (.cells zE.toArray 90)).drew.trans (hbb4.mono (by simp));have V4:=V2.next h34;have P4:=(AtL.new wc zE 90).drew.next hbb4;have hP:wc.heap.size<=wc.heap.size:=lr;have hPV:wc.heap.size≠V:=(by omega);have vl4:=V4.lt)
        | (go_at_call 75;(with_reducible refine (CH.out w4 (HAC.out.f.below h34)).mono ?_);rintro e5 w5 hq5;obtain ⟨v5,rfl,o5,_,hb5⟩:=hq5;obtain ⟨oa,oc,rfl,_⟩:=own_reads o5;have h35:Below wc.heap.size wc w5:=h34.trans (hb5.mono h34.size);have V5:=V4.next hb5;have vl5:=V5.lt;have s5:=Lib.hid (SlK.of_own hdC_len o5);first | (have P5:=P4.next hb5) | skip)
        | (go_at_call 75;have h34a:=h34.alloc h34.size (.cells zE.toArray 90);have P4:=AtL.new w4 zE 90;have hP:wc.heap.size<=w4.heap.size:=h34.size;have hPV:w4.heap.size≠V:=Nat.ne_of_gt vl4;(with_reducible refine (CH.out (w4.alloc (.cells zE.toArray 90)) (HAC.out.f.below h34a)).mono ?_);rintro e5 w5 hq5;obtain ⟨v5,rfl,o5,_,hb5⟩:=hq5;obtain ⟨oa,oc,rfl,_⟩:=own_reads o5;have h35:Below wc.heap.size wc w5:=h34a.trans (hb5.mono h34a.size);have V5:=(V4.alloc (.cells zE.toArray 90)).next hb5;have vl5:=V5.lt;have s5:=Lib.hid (SlK.of_own hdC_len o5);have P5:=P4.next hb5)
        | (go_at_call 73;have T1:=HQF.out w5 (HAC.out.f.below h35) _ s5.out (HAC.out.u.below h35).1;(with_reducible refine T1.mono ?_);rintro e6 w6 hq6;obtain ⟨pu,a1,n1,k1,a2,n2,k2,ti,l6,rfl,hs6,hn6,hto6,hc6,hm6⟩:=confr_open hq6;have V6:=V5.row hto6.2 V5.lt hcV hoV;have vl6:=V6.lt;first | (have HN:=Lib.hid (cnf_ab (ok:=ok) HAR.out HAC.out.vm h35 hP P5 hs6 hn6 hto6 hc6 hm6 pu a1 n1 k1 ti);have P6:=P5.row hto6.2 P5.lt (by omega) (fun e=>by have:=HAC.out.f.env.cl e;omega);have p_:=P6.o6;have f0:=P6.f 0 rfl;have f1:=P6.f 1 rfl;have f2:=P6.f 2 rfl;have f3:=P6.f 3 rfl;have f4:=P6.f 4 rfl;have f5:=P6.f 5 rfl;have apl:=P6.lt) | (have HN:=Lib.hid (cnf_c (ok:=ok) HAR.out HAC.out.vm h35 hs6 hn6 hto6 hc6 hm6 pu a1 n1 k1 ti)))
        | (go_at_call 73;have h35a:=h35.alloc h35.size (.cells zE.toArray 90);have P5:=AtL.new w5 zE 90;have hP:wc.heap.size<=w5.heap.size:=h35.size;have hPV:w5.heap.size≠V:=Nat.ne_of_gt vl5;have s5a:=s5.out.below ((Below.refl _ w5).alloc lr (.cells zE.toArray 90)) lr;have V5a:=V5.alloc (.cells zE.toArray 90);have T1:=HQF.out (w5.alloc (.cells zE.toArray 90)) (HAC.out.f.below h35a) _ s5a (HAC.out.u.below h35a).1;(with_reducible refine T1.mono ?_);rintro e6 w6 hq6;obtain ⟨pu,a1,n1,k1,a2,n2,k2,ti,l6,rfl,hs6,hn6,hto6,hc6,hm6⟩:=confr_open hq6;have V6:=V5a.row hto6.2 V5a.lt hcV hoV;have vl6:=V6.lt;have HN:=Lib.hid (cnf_ab (ok:=ok) HAR.out HAC.out.vm h35a hP P5 hs6 hn6 hto6 hc6 hm6 pu a1 n1 k1 ti);have P6:=P5.row hto6.2 P5.lt (by omega) (fun e=>by have:=HAC.out.f.env.cl e;omega);have p_:=P6.o6;have f0:=P6.f 0 rfl;have f1:=P6.f 1 rfl;have f2:=P6.f 2 rfl;have f3:=P6.f 3 rfl;have f4:=P6.f 4 rfl;have f5:=P6.f 5 rfl;have apl:=P6.lt)
        | (go_at_call 73;have h35a:=h35.alloc h35.size (.cells zE.toArray 90);have P5:=AtL.new w5 zE 90;have hP:wc.heap.size<=w5.heap.size:=h35.size;have hPV:w5.heap.size≠V:=Nat.ne_of_gt vl5;(with_reducible refine (HQF.out (w5.alloc (.cells zE.toArray 90)) (HAC.out.f.below h35a) _ (s5.out.below ((Below.refl _ w5).alloc lr (.cells zE.toArray 90)) lr) (HAC.out.u.below h35a).1).mono ?_);rintro e6 w6 hq6;obtain ⟨pu,a1,n1,k1,a2,n2,k2,ti,l6,rfl,hs6,hn6,hto6,hc6,hm6⟩:=confr_open hq6;have V6:=(V5.alloc (.cells zE.toArray 90)).row hto6.2 (V5.alloc (.cells zE.toArray 90)).lt hcV hoV;have vl6:=V6.lt;have HN:=Lib.hid (cnf_ab (ok:=ok) HAR.out HAC.out.vm h35a hP P5 hs6 hn6 hto6 hc6 hm6 pu a1 n1 k1 ti);have P6:=P5.row hto6.2 P5.lt (by omega) (fun e=>by have:=HAC.out.f.env.cl e;omega);have p_:=P6.o6;have f0:=P6.f 0 rfl;have f1:=P6.f 1 rfl;have f2:=P6.f 2 rfl;have f3:=P6.f 3 rfl;have f4:=P6.f 4 rfl;have f5:=P6.f 5 rfl;have apl:=P6.lt)
        | fail)
     all_goals
      go_wp2_with fail
      go_meet
      case rel=>exact HN.out
    case rest=>
     obtain ⟨P,pu,a1,n1,k1,a2,n2,k2,ti,vc2,l2,rfl,rfl,P7,A7,hs7,hf7⟩:=hcut
     clear z0 z1 z2 z3 z4 z5 z6 z7 z8 z9 z10 z11 z12 z13 z14 z15 z16 z17 z18 z19 z20 z21 z22
     clear v_ vl zl V2 S2
     have p_:=P7.o6;have f0:=P7.f 0 rfl;have f1:=P7.f 1 rfl;have f2:=P7.f 2 rfl;have f3:=P7.f 3 rfl;have f4:=P7.f 4 rfl;have f5:=P7.f 5 rfl
     have pl:=P7.lt
     have V7:=A7.v
     have v_:=V7.o3;have f0:=V7.f 0 rfl;have f1:=V7.f 1 rfl;have f2:=V7.f 2 rfl
     have vl:=V7.lt
     have HA7:=Lib.hid A7
     have HS7:=Lib.hid (And.intro hs7 hf7)
     clear A7 hs7 hf7 P7 V7
     rcases HOK.out with ⟨rfl,rfl,hfo⟩ | ⟨rfl,hen,hck,hst⟩
     ·have HFO:=Lib.hid hfo
      clear hfo
      go_wp2_with (first
       | (go_at_call 76;(with_reducible refine (CF.out _ _ _ _ _ _ _ HA7.out.f _).mono ?_);rintro e9 w9 hq9;have HQ:=Lib.hid (HA7.out.fin hq9);obtain ⟨ra,rn,rc,rfl⟩:=stepq_shape hq9)
       | fail)
      go_ret
      have hq:=HQ.out
      rw [HA7.out.c,HFO.out] at hq
      rw [HP2.out.1]
      exact HeadQ.of HAC.out hq
     ·have CSt:=Lib.hid (stored_net HA7.out.f HSK.out HJO.out (by rw [HA7.out.c];exact hck) (by omega) hm en hen pu a1 n1 k1 a2 n2 k2 ti ⟨HS7.out.1,HS7.out.2⟩ now)
      have HST:=Lib.hid hst
      clear hen hck hst
      go_wp2_with (first
       | (go_at_call 77;(with_reducible refine CSt.out.mono ?_);rintro e9 w9 hq9;have HQ:=Lib.hid (HA7.out.fin hq9);obtain ⟨ra,rn,rc,rfl⟩:=stepq_shape hq9)
       | fail)
      go_ret
      have hq:=HQ.out
      rw [HA7.out.c,HST.out] at hq
      rw [HP2.out.1]
      exact HeadQ.of HAC.out hq
   ·have ho:takeF (sendF j.1 now 11) true now st hd S C=p.2:=by
     have h:=HP2.out.2
     unfold headF at h
     rw [HCB.out,if_neg h304] at h
     exact h
    have CTk:=Lib.hid (take_net HAR.out.f HSK.out HJO.out (n:=n) (m:=m) HCK.out (by omega) (by omega) st _ hd HAC.out.u (HH.out.mono h8) now)
    have HO:=Lib.hid ho
    clear ho
    cases chb with
    | false=>
      clear h304
      go_wp2_with (first
       | (go_at_call 78;(with_reducible refine CTk.out.mono ?_);rintro e9 w9 hq9;have HQ:=Lib.hid (HAR.out.fin hq9);obtain ⟨ra,rn,rc,rfl⟩:=stepq_shape hq9)
       | fail)
      go_ret
      have hq:=HQ.out
      rw [HCE.out,HO.out] at hq
      rw [HP2.out.1]
      exact HeadQ.of HAC.out hq
    | true=>
      have h3:(st == 304)=false:=beq_eq_false_iff_ne.2 fun e=>h304 (by rw [decide_eq_true e];rfl)
      clear h304
      go_wp2_with (first
       | (go_at_call 78;(with_reducible refine CTk.out.mono ?_);rintro e9 w9 hq9;have HQ:=Lib.hid (HAR.out.fin hq9);obtain ⟨ra,rn,rc,rfl⟩:=stepq_shape hq9)
       | fail)
      go_ret
      have hq:=HQ.out
      rw [HCE.out,HO.out] at hq
      rw [HP2.out.1]
      exact HeadQ.of HAC.out hq
 ·rw [if_neg hph] at hp
  have hpb:(S.ph == 1)=false:=beq_eq_false_iff_ne.2 hph
  have hpn:(S.ph != 1)=true:=by simpa using hph
  have HP:=Lib.hid hp
  clear hph hp
  go_enter Tryz.func31,Tryz.ntmps31
  go_wp2_with fail
  go_ret
  rw [<-HP.out]
  exact HeadQ.of HA1.out (StepQ.none (o:=⟨S,C,[]⟩) HA1.out.f.env HA1.out.f.st HCE.out (Kp.refl _ _ _) (fun _ _ e=>e) rfl)
end Go.Proofs.YtjdhaacmlpegoaaGreatDoor
