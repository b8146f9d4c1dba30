/- Part 11 of what the proof needs: C5 DP B7 SM SN. -/
import Derived.Test.YtjdhaacmlpegoaaGreatDoorU10
import Derived.ProofKit
import Derived.Deep.Slices
set_option maxRecDepth 20000
set_option maxHeartbeats 16000000
set_option linter.unusedSimpArgs false
set_option linter.unusedVariables false
namespace Go.Proofs.YtjdhaacmlpegoaaGreatDoor
open Go.RowKit
theorem JarIn.row {w:World}{jb B:Nat}{v:Value}{l:List Ck}{nx:Int}(h:JarIn w jb B v l nx)(h0:0<l.length):∃ g cap,v = .slice (some ⟨g,0,none⟩) l.length cap/\B<=g/\g<w.heap.size/\g≠jb/\∀ i (hi:i<l.length) j u,(ckL l[i])[j]? = some u->w.cell? ⟨g,i * 9+j,none⟩=some u:=by
 obtain ⟨a,cap,hv,hc,hm,ha⟩:=own_reads h.own;rcases ha with ⟨rfl,h1⟩ | ⟨g,rfl,hg,hgw,hcell⟩
 ·omega
 ·refine ⟨g,cap,hv,hg,hgw,fun e=>h.ne (by rw [hv,e];rfl),fun i hi j u hu=>hcell _ _ (cellsK_get ckL_len l i hi j u hu)⟩
theorem N20{p:Prop}(h:p:=by
 go_wp2_with fail;have h1:=own_put9 JF.own kk hkl { c with cr:=y.cr }
 have h2:JarIn (put9 wF g (kk * 9) { c with cr:=y.cr }) jb B (.slice (some ⟨g,0,none⟩) l.length sc) (l.set kk { c with cr:=y.cr }) nx:=
  ⟨(((((((((JF.at_.far ⟨g,kk * 9,none⟩ _ hgj).far ⟨g,kk * 9+1,none⟩ _ hgj).far ⟨g,kk * 9+2,none⟩ _ hgj).far ⟨g,kk * 9+3,none⟩ _ hgj).far ⟨g,kk * 9+4,none⟩ _ hgj).far ⟨g,kk * 9+5,none⟩ _ hgj).far ⟨g,kk * 9+6,none⟩ _ hgj).far ⟨g,kk * 9+7,none⟩ _ hgj).far ⟨g,kk * 9+8,none⟩ _ hgj),by rw [Zk];exact h1,JF.ne,by simp only [put9,World.size_setCell];exact JF.le⟩
 have h3:RowBut K jb (some g) w (put9 wF g (kk * 9) { c with cr:=y.cr }):=((((((((hbF.setCell ⟨g,kk * 9,none⟩ (Or.inr (Or.inl rfl)) _).setCell ⟨g,kk * 9+1,none⟩ (Or.inr (Or.inl rfl)) _).setCell ⟨g,kk * 9+2,none⟩ (Or.inr (Or.inl rfl)) _).setCell ⟨g,kk * 9+3,none⟩ (Or.inr (Or.inl rfl)) _).setCell ⟨g,kk * 9+4,none⟩ (Or.inr (Or.inl rfl)) _).setCell ⟨g,kk * 9+5,none⟩ (Or.inr (Or.inl rfl)) _).setCell ⟨g,kk * 9+6,none⟩ (Or.inr (Or.inl rfl)) _).setCell ⟨g,kk * 9+7,none⟩ (Or.inr (Or.inl rfl)) _).setCell ⟨g,kk * 9+8,none⟩ (Or.inr (Or.inl rfl)) _;have h4:K<=(put9 wF g (kk * 9) { c with cr:=y.cr }).heap.size:=by simp only [put9,World.size_setCell];exact Kl kF
 have h5:=h3.below (Kc _).drew h4;rw [<-HK.out] at h5;go_ret
 exact ⟨rfl,h2.below (Kc _).drew lr,h5⟩
 ):p:=h
theorem M2{p:Prop}(h:p:=by
 rw [hse] at y5;clear hb1 hb2 hA1;go_wp2_with (with_reducible refine (CE.out _).mono ?_;rintro x w3 ⟨rfl,hb3⟩;have J4:=J3.below hb3 lr;have C4:=C3.next hb3;have z_:=C4.o9;have f_:=C4.of9;have q0:=J4.at_.c 0 rfl;have kl4:=C4.lt;have jl4:=J4.at_.lt;have y8:=(brl hb3 _ _ (cell_lt (hc3 8 _ rfl))).trans (hc3 8 _ rfl))
 have CF:AtL (w3.setCell ⟨K,8,none⟩ (.int .i64 y.cr)) K (ckL { c with cr:=y.cr }):=C4.set 8 (.int .i64 y.cr);have hvK:(Value.slice (some ⟨g,0,none⟩) l.length sc).ownBlock≠some K:=by simp only [Value.ownBlock,ne_eq,Js];exact hgk
 have JF:JarIn (w3.setCell ⟨K,8,none⟩ (.int .i64 y.cr)) jb B (.slice (some ⟨g,0,none⟩) l.length sc) l nx:=⟨J4.at_.far ⟨K,8,none⟩ _ hjk,ownsRow_setCell_other (a:=⟨K,8,none⟩) J4.own hvK _,J4.ne,by rw [World.size_setCell];exact J4.le⟩
 have hcF:∀ j u,(ckL y)[j]? = some u->(w3.setCell ⟨K,8,none⟩ (.int .i64 y.cr)).cell? ⟨g,kk * 9+j,none⟩=some u:=fun j u hu=>(World.cell?_setCell_other w3 _ _ _ (fun q=>hgk (Kq Addr.block q).symm)).trans ((brl hb3 _ _ (cell_lt (hc3 j u hu))).trans (hc3 j u hu));have hbF:RowBut K jb (some g) w (w3.setCell ⟨K,8,none⟩ (.int .i64 y.cr)):=(((RowBut.refl K jb (some g) w).below hBA (Jl HK.out.symm)).below hb3 (Kl hkl3)).setCell ⟨K,8,none⟩ (Or.inr (Or.inr lr)) _;obtain ⟨wF,hwF⟩:∃ wF:World,w3.setCell ⟨K,8,none⟩ (.int .i64 y.cr)=wF:=⟨_,rfl⟩
 rw [hwF] at CF JF hcF hbF;rw [hwF];clear hwF z_ f_ q0 y5 y8 j0;have z_:=CF.o9;have q0:=JF.at_.c 0 rfl;have kF:=CF.lt;have jF:=JF.at_.lt;have r0:=hcF 0 _ rfl;have r1:=hcF 1 _ rfl;have r2:=hcF 2 _ rfl;have r3:=hcF 3 _ rfl;have r4:=hcF 4 _ rfl;have r5:=hcF 5 _ rfl;have r6:=hcF 6 _ rfl;have r7:=hcF 7 _ rfl;have r8:=hcF 8 _ rfl;simp only [Ku] at r0;have g0:=own_free JF.own (kk * 9);have g1:=own_free JF.own (kk * 9+1);have g2:=own_free JF.own (kk * 9+2);have g3:=own_free JF.own (kk * 9+3);have g4:=own_free JF.own (kk * 9+4);have g5:=own_free JF.own (kk * 9+5);have g6:=own_free JF.own (kk * 9+6);have g7:=own_free JF.own (kk * 9+7);have g8:=own_free JF.own (kk * 9+8);clear hcF hc3 hcA;go_region
 all_goals
  exact N20
 ):p:=h
theorem store_put (c:Ck)(a b cc d e f:ByteArray)(now:Int)(w:World)(jb B:Nat)(v:Value)(l:List Ck)(nx:Int)(hJ:JarIn w jb B v l nx)(kk:Nat)(hkl:kk<l.length)
 (hid:idxI (sameB c) l=kk) (hex:exB c now=false) (hse:l[kk].se=false\/(l[kk].se=true/\a.toList=[104,116,116,112,115])) (hl:l.length<1000) :
 Calls Tryz.prog 118 #[.pointer (some ⟨jb,0,none⟩),ckA c,urlA a b cc d e f,.int .i64 now] w fun x w'=>x = .returned (.int .i64 0)/\JarIn w' jb B v (l.set kk { c with cr:=l[kk].cr }) nx/\RowBut w.heap.size jb v.ownBlock w w':=by
 obtain ⟨g,sc,rfl,hBg,hgw,hgj,hcell⟩:=hJ.row (by omega);have C0:=AtL.new w (ckL c) 88;have C1:=C0.alloc (.cells (urlL a b cc d e f).toArray 37);have U1:=AtL.new (w.alloc (.cells (ckL c).toArray 88)) (urlL a b cc d e f) 37;rw [show (w.alloc (.cells (ckL c).toArray 88)).heap.size=w.heap.size+1 by simp] at U1;have hB1:Below w.heap.size w ((w.alloc (.cells (ckL c).toArray 88)).alloc (.cells (urlL a b cc d e f).toArray 37)):=((Kc w).alloc lr _).alloc (by simp) _;have J1:=hJ.below hB1 lr;have hjk:w.heap.size≠jb:=fun h=>by have:=hJ.at_.1;omega
 have hgk:g≠w.heap.size:=Nat.ne_of_lt hgw;have hBw:=hJ.le;have hBw0:=hJ.le;have CS:=Kb (fun w=>same_is c w);have CX:=Kb (fun (w:World) (v:Value) (k:Nat) (hv:SlK ckL 9 w v l) (hA:AtL w k (ckL c))=>idxs_is (sameB c) 238 #[.pointer (some ⟨k,0,none⟩)] (enters_of Tryz.func238 (by kernel_rfl) rfl) l v w hv (same_pred c k w hA) (by omega) kk hid);have CE:=Kb (fun w=>expired_is c now false hex w);have hkz:(kk:Int)<(l.length:Int):=by omega
 have hk0:(0:Int)<=(kk:Int):=by omega
 obtain ⟨y,hy⟩:=Ka (l[kk]);have hcy:∀ j u,(ckL y)[j]? = some u->w.cell? ⟨g,kk * 9+j,none⟩=some u:=fun j u hu=>hcell kk hkl j u (by rw [hy];exact hu);rw [hy] at hse ⊢;have HY:=Kb hy;clear C0 hid hJ hex hy hcell;go_enter Tryz.func118,Tryz.ntmps118;go_wp2_with fail;obtain ⟨wA,hwA⟩:∃ wA:World,(w.alloc (.cells (ckL c).toArray 88)).alloc (.cells (urlL a b cc d e f).toArray 37)=wA:=⟨_,rfl⟩
 obtain ⟨I,hI⟩:=Ka (w.heap.size+1);obtain ⟨K,hK⟩:=Ka w.heap.size;rw [hwA] at C1 J1 hB1 U1;rw [hI] at U1;rw [hK] at C1 hjk hgk hBw;rw [hwA,hI,hK];have HK:=Kb hK;have hcA:∀ j u,(ckL y)[j]? = some u->wA.cell? ⟨g,kk * 9+j,none⟩=some u:=fun j u hu=>(brl hB1 _ _ hgw).trans (hcy j u hu);clear hwA hI hK hcy;have S1:=s10_start J1.at_ C1;have hjl:=J1.at_.1;have hkl1:=C1.1
 go_region_held3 (fun w'=>w'.cell? ⟨jb,0,none⟩=some (.slice (some ⟨g,0,none⟩) l.length sc)/\w'.cell? ⟨K,0,none⟩=some (.string c.n)/\w'.cell? ⟨K,1,none⟩=some (.string c.v)/\w'.cell? ⟨K,2,none⟩=some (.string c.d)/\w'.cell? ⟨K,3,none⟩=some (.string c.p)/\w'.cell? ⟨K,4,none⟩=some (.bool c.ho)/\w'.cell? ⟨K,5,none⟩=some (.bool c.se)/\w'.cell? ⟨K,6,none⟩=some (.bool c.hi)/\w'.cell? ⟨K,7,none⟩=some (.int .i64 c.ex)/\w'.cell? ⟨K,8,none⟩=some (.int .i64 c.cr)/\Below wA.heap.size wA w') (first | exact s10_next hjl hkl1 S1 (Kc wA).drew | (apply s10_next hjl hkl1;rotate_left;assumption;assumption) | go_keep)
  (first
    | (with_reducible refine (CS.out _).mono ?_;rintro x w1 ⟨rfl,hb1,hA1⟩)
    | (with_reducible refine (CX.out _ (.slice (some ⟨g,0,none⟩) l.length sc) wA.heap.size ((J1.reads.below ((Kc wA).drew.trans hb1) lr)) (atL_drewk hA1)).mono ?_;rintro x w2 ⟨rfl,hb2⟩))
 have hB3:Below wA.heap.size wA w2:=s10_below (by assumption);have hBA:=hB1.trans (hB3.mono (by rw [HK.out];omega));have J3:=J1.below hB3 lr;have C3:=C1.below hB3 C1.lt;have hc3:∀ j u,(ckL y)[j]? = some u->w2.cell? ⟨g,kk * 9+j,none⟩=some u:=fun j u hu=>(brl hB3 _ _ (cell_lt (hcA j u hu))).trans (hcA j u hu);have U3:=U1.below hB3 U1.lt;have u_:=U3.o6;have hul3:=U3.lt;have y5:=hc3 5 _ rfl;have j0:=J3.at_.c 0 rfl;have z_:=C3.o9;have hjl3:=J3.at_.lt;have hkl3:=C3.lt;rcases hse with hse | ⟨hse,hs2⟩
 ·exact M2
 ·exact M2
theorem del_some (p:Ck->Bool)(gf:Nat)(cb:Array Value)(eg:∀ args w,(callFunc gf args).run Tryz.prog w = .ok (.enter gf args) w)(l:List Ck)(g cap K:Nat)(vs:List Value)(w:World)(B:Nat)
 (hown:w.ownsRow B 88 9 (.slice (some ⟨g,0,none⟩) l.length cap) l.length (cellsK ckL l)) (hA:AtL w K vs) (hgK:g≠K)
 (hp:∀ W d,AtL W K vs->Calls Tryz.prog gf (#[ckA d] ++ cb) W fun e W'=>e = .returned (.bool (p d))/\Below W.heap.size W W')
 (hn:l.length<=1000) (k:Nat) (hR:idxI p l=k) :
 Calls Tryz.prog 180 #[.slice (some ⟨g,0,none⟩) l.length cap,.func (.func gf) #[] cb] w fun e w'=>
  e = .returned (.slice (some ⟨g,0,none⟩) (l.filter (fun c=>!p c)).length cap)/\w'.ownsRow B 88 9 (.slice (some ⟨g,0,none⟩) (l.filter (fun c=>!p c)).length cap) (l.filter (fun c=>!p c)).length (cellsK ckL (l.filter (fun c=>!p c)))/\BelowBut w.heap.size g w w':=by
 obtain ⟨hkl,hpk,hfk⟩:=filt_start p l k hR;have CX:=Kb (idxs_is p gf cb eg l _ w (SlK.of_own ckL_len hown) (fun W d hb=>(hp W d (hA.next hb)).mono fun e W' h=>⟨h.1,hb.trans (h.2.mono hb.size)⟩) (by omega) k hR);have HP:=Kb hp;have hk1:((k:Int) == -1)=false:=Ki.2 (by omega);clear hp hR;go_enter Tryz.func180,Tryz.ntmps180;go_wp2_with (with_reducible refine CX.out.mono ?_;rintro x w1 ⟨rfl,hb1⟩)
 have hown1:=own_below hown hb1 lr;have hA1:=hA.next hb1;have hbb1:BelowBut w.heap.size g w w1:=(BelowBut.refl _ g w).below hb1 lr;go_loopw [5,6] (fun iv jv wr=>∃ (i j:Nat) (M:List Ck),i<j/\j<=l.length/\iv = .int .i64 i/\jv = .int .i64 j/\M.length=l.length/\M.take i=(l.take j).filter (fun c=>!p c)/\M.drop j=l.drop j/\wr.ownsRow B 88 9 (.slice (some ⟨g,0,none⟩) l.length cap) l.length (cellsK ckL M)/\AtL wr K vs/\BelowBut w.heap.size g w wr) (fun _ jv _=>l.length - (intOf jv).toNat);case atStart=>exact ⟨k,k+1,l,by omega,by omega,rfl,by go_num,rfl,hfk.symm,rfl,hown1,hA1,hbb1⟩
 case round=>
  obtain ⟨i,j,M,hij,hjl,rfl,rfl,hM,hMi,hMj,ho,hA2,hbb⟩:=hrel;by_cases hlt:j<l.length
  ·have ho':wr.ownsRow B 88 9 (.slice (some ⟨g,0,none⟩) M.length cap) M.length (cellsK ckL M):=by rw [hM];exact ho
   obtain ⟨hBg,hgw,hcell⟩:=own_row_cells ho' (by omega);have hfree:=own_free ho;have hy0:M[j]'(by omega)=l[j]:=by have e:=Kq List.head? hMj;rw [List.head?_drop,List.head?_drop,Jd (by omega),Jd hlt] at e;exact Zl e
   have cc:∀ q u,(ckL l[j])[q]? = some u->wr.cell? ⟨g,j * 9+q,none⟩=some u:=fun q u hu=>hcell j (by omega) q u (by rw [hy0];exact hu);have hdrop:M.drop (j+1)=l.drop (j+1):=by
    have e:=Kq (List.drop 1) hMj
    rwa [Zr,Zr] at e
   have hfil:(l.take (j+1)).filter (fun c=>!p c)=(l.take j).filter (fun c=>!p c) ++ (if p l[j] then [] else [l[j]]):=by rw [Jf hlt,Zs];cases hq:p l[j] <;> simp [hq]
   obtain ⟨y,hy⟩:=Ka (l[j]);rw [hy] at cc hfil hy0;have HY:=Kb hy;have HC:=Kb cc;clear hy hcell;obtain ⟨yn,yv,yd,yp,yho,yse,yhi,yex,ycr⟩:=y;have c0:=cc 0 _ rfl;have c1:=cc 1 _ rfl;have c2:=cc 2 _ rfl;have c3:=cc 3 _ rfl;have c4:=cc 4 _ rfl;have c5:=cc 5 _ rfl;have c6:=cc 6 _ rfl;have c7:=cc 7 _ rfl;have c8:=cc 8 _ rfl;simp only [Ku] at c0;have YA:=AtL.new wr (ckL ⟨yn,yv,yd,yp,yho,yse,yhi,yex,ycr⟩) 88;have hAa:=hA2.alloc (.cells (ckL ⟨yn,yv,yd,yp,yho,yse,yhi,yex,ycr⟩).toArray 88);have hcall:=HP.out _ ⟨yn,yv,yd,yp,yho,yse,yhi,yex,ycr⟩ hAa;have hBwr:w.heap.size<=wr.heap.size:=hbb.size;have hbA:Below wr.heap.size wr (wr.alloc (.cells (ckL ⟨yn,yv,yd,yp,yho,yse,yhi,yex,ycr⟩).toArray 88)):=(Kc wr).alloc lr _;have hji:(j:Int)<(l.length:Int):=by omega
   have hii:(i:Int)<(l.length:Int):=by omega
   have hIc:=(own_row_cells ho' (by omega)).2.2 i (by omega);have HIc:=Kb hIc;have HMi:=Kb hMi;clear cc hIc hMi;cases hq:p ⟨yn,yv,yd,yp,yho,yse,yhi,yex,ycr⟩ with
   | true=>
     rw [hq] at hcall hfil;have HCall:=Kb hcall;have HF:=Kb hfil;clear hcall hfil hq;go_wp2_with (go_at_fn gf;refine HCall.out.mono ?_;rintro e w' ⟨rfl,hb'⟩)
     go_roundw;case rel=>have hbt:=hbA.trans (hb'.mono hbA.size);exact ⟨i,j+1,M,by omega,by omega,rfl,by go_num,hM,by rw [HMi.out,HF.out];simp,hdrop,own_below ho hbt lr,hA2.next hbt,hbb.below hbt hbb.size⟩
     case measure=>simp [intOf];omega
   | false=>
     rw [hq] at hcall hfil;have HCall:=Kb hcall;have HF:=Kb hfil;clear hcall hfil hq;go_wp2_with (go_at_fn gf;refine HCall.out.mono ?_;rintro e w' ⟨rfl,hb'⟩;have hbt:=hbA.trans (hb'.mono hbA.size);have Y2:=YA.next hb';have z_:=Y2.o9;have hzl:=Y2.lt;have o2:=own_below ho hbt lr;have r0:=(brl hbt _ _ hgw).trans (HIc.out 0 _ rfl);have r1:=(brl hbt _ _ hgw).trans (HIc.out 1 _ rfl);have r2:=(brl hbt _ _ hgw).trans (HIc.out 2 _ rfl);have r3:=(brl hbt _ _ hgw).trans (HIc.out 3 _ rfl);have r4:=(brl hbt _ _ hgw).trans (HIc.out 4 _ rfl);have r5:=(brl hbt _ _ hgw).trans (HIc.out 5 _ rfl);have r6:=(brl hbt _ _ hgw).trans (HIc.out 6 _ rfl);have r7:=(brl hbt _ _ hgw).trans (HIc.out 7 _ rfl);have r8:=(brl hbt _ _ hgw).trans (HIc.out 8 _ rfl);simp only [Ku] at r0;have f0:=own_free o2 (i * 9);have f1:=own_free o2 (i * 9+1);have f2:=own_free o2 (i * 9+2);have f3:=own_free o2 (i * 9+3);have f4:=own_free o2 (i * 9+4);have f5:=own_free o2 (i * 9+5);have f6:=own_free o2 (i * 9+6);have f7:=own_free o2 (i * 9+7);have f8:=own_free o2 (i * 9+8))
     go_roundw
     case rel=>
      have o3:w'.ownsRow B 88 9 (.slice (some ⟨g,0,none⟩) M.length cap) M.length (cellsK ckL M):=by rw [hM];exact o2
      have o4:=own_put9 o3 i (by omega) ⟨yn,yv,yd,yp,yho,yse,yhi,yex,ycr⟩;rw [hM] at o4;have hA3:=hA2.next hbt;have hA4:AtL (put9 w' g (i * 9) ⟨yn,yv,yd,yp,yho,yse,yhi,yex,ycr⟩) K vs:=((((((((hA3.far ⟨g,i * 9,none⟩ _ hgK).far ⟨g,i * 9+1,none⟩ _ hgK).far ⟨g,i * 9+2,none⟩ _ hgK).far ⟨g,i * 9+3,none⟩ _ hgK).far ⟨g,i * 9+4,none⟩ _ hgK).far ⟨g,i * 9+5,none⟩ _ hgK).far ⟨g,i * 9+6,none⟩ _ hgK).far ⟨g,i * 9+7,none⟩ _ hgK).far ⟨g,i * 9+8,none⟩ _ hgK;have hb3:=hbb.below hbt hbb.size;have hb4:BelowBut w.heap.size g w (put9 w' g (i * 9) ⟨yn,yv,yd,yp,yho,yse,yhi,yex,ycr⟩):=((((((((hb3.setCell ⟨g,i * 9,none⟩ (Or.inl rfl) _).setCell ⟨g,i * 9+1,none⟩ (Or.inl rfl) _).setCell ⟨g,i * 9+2,none⟩ (Or.inl rfl) _).setCell ⟨g,i * 9+3,none⟩ (Or.inl rfl) _).setCell ⟨g,i * 9+4,none⟩ (Or.inl rfl) _).setCell ⟨g,i * 9+5,none⟩ (Or.inl rfl) _).setCell ⟨g,i * 9+6,none⟩ (Or.inl rfl) _).setCell ⟨g,i * 9+7,none⟩ (Or.inl rfl) _).setCell ⟨g,i * 9+8,none⟩ (Or.inl rfl) _;refine ⟨i+1,j+1,M.set i ⟨yn,yv,yd,yp,yho,yse,yhi,yex,ycr⟩,by omega,by omega,by go_num,by go_num,by rw [Zk];exact hM,?_,?_,o4,hA4,hb4⟩
      ·rw [HF.out,<-HMi.out,Jf (by rw [Zk];omega)];simp [List.take_set_of_le]
      ·rw [<-hdrop,List.drop_set_of_lt (by omega)]
     case measure=>simp [intOf];omega
  ·obtain rfl:j=l.length:=by omega
   have ho':wr.ownsRow B 88 9 (.slice (some ⟨g,0,none⟩) M.length cap) M.length (cellsK ckL M):=by rw [hM];exact ho
   have hin:(i:Int)<=(l.length:Int):=by omega
   have hcap:l.length<=cap:=by obtain ⟨a2,c2,hv2,hc2,_,_⟩:=own_reads ho;injection hv2 with _ _ e3;omega
   have hic:(i:Int)<=(cap:Int):=by omega
   have hlc:(l.length:Int)<=(cap:Int):=by omega
   have hic':¬ cap=i:=by omega
   have hfil:(l.filter (fun c=>!p c)).length=i:=by have e:=Kq List.length hMi;rw [Jq,Jk,hM,Zd (by omega)] at e;exact e.symm
   have hfr:∀ j,j<(l.length - i) * 9->wr.frozen? ⟨g,i * 9+j,none⟩=false:=fun j _=>own_free ho _;have hce:∀ j,j<(l.length - i) * 9->(wr.cell? ⟨g,i * 9+j,none⟩).isSome=true:=fun j hj=>by
    obtain ⟨a2,c2,hv2,_,_,ha2⟩:=own_reads ho;injection hv2 with e1 _ _;rcases ha2 with ⟨rfl,_⟩ | ⟨g',rfl,_,_,hcc⟩
    ·cases e1
    ·injection e1 with e1;injection e1 with e1;subst e1;have hlt:i * 9+j<(cellsK ckL M).length:=by rw [cellsK_len ckL_len,hM];omega
     rw [hcc _ _ (Jd hlt)];rfl
   obtain ⟨zs,hzl,hcl⟩:=run_clearK (P:=Tryz.prog) wr 22 88 0 (ckA ck0) 9 Tryz.underlying22 (zero_run (by kernel_rfl)) rfl (fun v hv=>one9 ck0 v hv) g (i * 9) (l.length - i) (cap - i) (by omega) (by decide) hce hfr;obtain ⟨xs',hx1,hx2⟩:=own_setCells zs (i * 9) wr (cellsK ckL M) ho (by rw [hzl];omega);have hr:=own_cut hx1 i (by omega);rw [hx2,cellsK_take M i (by omega),hMi,Jq] at hr;have hbz:=BelowBut.setCells zs (i * 9) wr hbb;clear hx1 hx2 hfr hce hzl hMi hMj ho ho' hbb;have hr':(wr.setCells g (i * 9) zs).ownsRow B 88 9 (.slice (some ⟨g,0,none⟩) (l.filter (fun c=>!p c)).length cap) (l.filter (fun c=>!p c)).length (cellsK ckL (l.filter (fun c=>!p c))):=by rw [hfil];exact hr
   have HF:=Kb hfil;clear hfil;go_wp2_with fail;go_ret;exact ⟨by rw [HF.out];rfl,hr',hbz⟩
theorem del_front (l:List Ck)(g n cap q:Nat)(w:World)(B:Nat)(hln:l.length=n)(hown:w.ownsRow B 88 9 (.slice (some ⟨g,0,none⟩) n cap) n (cellsK ckL l))(hq0:0<q)(hqn:q<n)(hn:n<=1000):
 Calls Tryz.prog 181 #[.slice (some ⟨g,0,none⟩) n cap,.int .i64 0,.int .i64 q] w fun e w'=>e = .returned (.slice (some ⟨g,0,none⟩) (n - q) cap)/\w'.ownsRow B 88 9 (.slice (some ⟨g,0,none⟩) (n - q) cap) (n - q) (cellsK ckL (l.drop q))/\BelowBut w.heap.size g w w':=by
 have hcap:n<=cap:=by obtain ⟨a2,c2,hv2,hc2,_,_⟩:=own_reads hown;injection hv2 with _ _ e3;omega
 have hq1:((0:Int) == (q:Int))=false:=Ki.2 (by omega);have hq2:(q:Int)<=(n:Int):=by omega
 have hq3:(n:Int)<=(cap:Int):=by omega
 have hq4:(q:Int)<=(cap:Int):=by omega
 have HL:=Kb hln;clear hln;go_enter Tryz.func181,Tryz.ntmps181;go_wp2_with fail;have hq5:¬ cap=q:=by omega
 have ho1:=Kb hown;clear hown
 go_region_law (first
  | (refine step_shift slC w.drew (by rfl) (.tmp 22) (.tmp 25) (by rfl) B g n cap q (cap - q) (cellsK ckL l) ho1.out.drew (by omega) (by rfl) (by rfl) (one9s l) ?_;intro w5 ys hown5 hys hbb5))
 all_goals
  obtain ⟨r,hr⟩:=Ka (n - q);rw [hr] at hys;rw [hr];have hrn:r+q=n:=by omega
  have hce:∀ j,j<q * 9->(w5.cell? ⟨g,r * 9+j,none⟩).isSome=true:=fun j hj=>by
   obtain ⟨a2,c2,hv2,_,_,ha2⟩:=own_reads hown5;injection hv2 with e1 _ _;rcases ha2 with ⟨rfl,_⟩ | ⟨g',rfl,_,_,hcc⟩
   ·cases e1
   ·injection e1 with e1;injection e1 with e1;subst e1;have hlt:r * 9+j<ys.length:=by rw [hown5.1];omega
    rw [hcc _ _ (Jd hlt)];rfl
  have hfr:∀ j,j<q * 9->w5.frozen? ⟨g,r * 9+j,none⟩=false:=fun j _=>own_free hown5 _;obtain ⟨zs,hzl,hcl⟩:=run_clearK (P:=Tryz.prog) w5 22 88 0 (ckA ck0) 9 Tryz.underlying22 (zero_run (by kernel_rfl)) rfl (fun v hv=>one9 ck0 v hv) g (r * 9) q (cap - r) hq0 (by decide) hce hfr;obtain ⟨xs',hx1,hx2⟩:=own_setCells zs (r * 9) w5 ys hown5 (by rw [hzl];omega);have hcut:=own_cut hx1 r (by omega);rw [hx2,hys,cellsK_drop] at hcut;have hbz:=BelowBut.setCells zs (r * 9) w5 hbb5;have hnr:n - r=q:=by omega
  have hrz:(r:Int)<=(n:Int):=by omega
  have hrc:(r:Int)<=(cap:Int):=by omega
  have hrc':¬ cap=r:=by omega
  clear hx1 hx2 hfr hce hzl hys hown5 hbb5 hrn;have HR:=Kb hr;clear hr;go_wp2_with fail;go_ret;exact ⟨by rw [HR.out];rfl,by rw [HR.out];exact hcut,⟨hbz.os,hbz.tape,hbz.output,hbz.size,hbz.block⟩⟩
def OldNew (v v':Value)(n:Nat):Prop:=∀ g,v'.ownBlock=some g->v.ownBlock=some g\/n<=g
theorem OldNew.refl (v:Value)(n:Nat):OldNew v v n:=fun _ h=>.inl h
theorem same_at (c:Ck)(K:Nat)(W:World)(d:Ck)(hA:AtL W K (ckL c)):Calls Tryz.prog 238 (#[ckA d] ++ #[.pointer (some ⟨K,0,none⟩)]) W fun e W'=>e = .returned (.bool (sameB c d))/\Below W.heap.size W W':=same_pred c K W hA W d (Kc W)
theorem RowBut.step {n n' jb g:Nat}{W w w':World}(h:RowBut n jb (some g) W w)(k:BelowBut n' g w w')(hn:n<=n'):RowBut n jb (some g) W w':=
 ⟨k.os.trans h.os,k.tape.trans h.tape,k.output.trans h.output,Kg h.size k.size,fun x hx hb ho=>(k.block x (by omega) (fun e=>ho (by rw [e]))).trans (h.block x hx hb ho)⟩
theorem own_lt {w:World}{b e s n g cap:Nat}{xs:List Value}(h:w.ownsRow b e s (.slice (some ⟨g,0,none⟩) n cap) n xs):g<w.heap.size:=by
 rcases h.2 with ⟨h2,_⟩ | ⟨g',cap',cur,hv,hg,hh,hc,hm,hs,ht⟩
 ·cases h2
 ·injection hv with e1 e2 e3;injection e1 with e1;injection e1 with e1;subst e1;exact (Xq.1 hh).1
theorem N32{p:Prop}(h:p:=by
 rw [hse] at y5;clear hb1 hb2 hA1;go_wp2_with (with_reducible refine (CE.out _).mono ?_;rintro x w3 ⟨rfl,hb3⟩;have J4:=J3.below hb3 lr;have C4:=C3.next hb3;have kl4:=C4.lt;have S4:=s2_start J4.at_ C4;have j0:=J4.at_.c 0 rfl;have i0:=J4.at_.f 0 rfl;have jl4:=J4.at_.lt)
 clear z_ y5;have hjK:jb≠K:=Ne.symm hjk;have z_:=C4.o9;have y4:=J4.at_.c 0 rfl
 go_region_with (first
  | (go_at_call 179;refine (CS.out _).mono ?_;rintro x w5 ⟨rfl,hb5,hA5⟩;have hb35:=(Kc w3).drew.trans hb5;have J5:=J4.below hb35 lr;have C5:=C4.next hb35;have y5:=J5.at_.c 0 rfl)
  | (with_reducible refine (CDel.out _ w3.heap.size B sc g J5.own (atL_drewk hA5) (Nat.ne_of_lt (own_lt J4.own))).mono ?_;rintro x w6 ⟨rfl,hown6,hb6⟩;have A6:=J5.at_.but hb6 J5.at_.lt (Ne.symm hgj);have k0:=A6.c 0 rfl;have f0:=A6.f 0 rfl;have jl6:=A6.lt))
 all_goals
  go_wp2_with fail;go_ret;have h1:=((RowBut.refl K jb (some g) w).below hBA (Jl HK.out.symm)).below hb3 (Kl hkl3);have h2:=(h1.below hb35 (Kl kl4)).step hb6 (Kl (Ko kl4 hb35.size));have hne:(Value.slice (some ⟨g,0,none⟩) (l.filter (fun d=>!sameB c d)).length sc).ownBlock≠some jb:=by simp only [Value.ownBlock,ne_eq,Js];exact hgj
  exact ⟨rfl,⟨_,⟨A6.set 0 _,ownsRow_setCell_other (a:=⟨jb,0,none⟩) hown6 hne _,hne,by rw [World.size_setCell];exact Kg J5.le hb6.size⟩,fun g' e=>.inl e⟩,(by rw [HK.out];exact h2.setCell ⟨jb,0,none⟩ (Or.inl rfl) _)⟩
 ):p:=h
theorem store_del (c:Ck)(a b cc d e f:ByteArray)(now:Int)(w:World)(jb B:Nat)(v:Value)(l:List Ck)(nx:Int)(hJ:JarIn w jb B v l nx)(kk:Nat)(hkl:kk<l.length)
 (hid:idxI (sameB c) l=kk) (hex:exB c now=true) (hse:l[kk].se=false\/(l[kk].se=true/\a.toList=[104,116,116,112,115])) (hl:l.length<1000) :
 Calls Tryz.prog 118 #[.pointer (some ⟨jb,0,none⟩),ckA c,urlA a b cc d e f,.int .i64 now] w fun x w'=>x = .returned (.int .i64 0)/\(∃ v',JarIn w' jb B v' (l.filter (fun d=>!sameB c d)) nx/\OldNew v v' w.heap.size)/\RowBut w.heap.size jb v.ownBlock w w':=by
 obtain ⟨g,sc,rfl,hBg,hgw,hgj,hcell⟩:=hJ.row (by omega);have C0:=AtL.new w (ckL c) 88;have C1:=C0.alloc (.cells (urlL a b cc d e f).toArray 37);have U1:=AtL.new (w.alloc (.cells (ckL c).toArray 88)) (urlL a b cc d e f) 37;rw [show (w.alloc (.cells (ckL c).toArray 88)).heap.size=w.heap.size+1 by simp] at U1;have hB1:Below w.heap.size w ((w.alloc (.cells (ckL c).toArray 88)).alloc (.cells (urlL a b cc d e f).toArray 37)):=((Kc w).alloc lr _).alloc (by simp) _;have J1:=hJ.below hB1 lr;have hjk:w.heap.size≠jb:=fun h=>by have:=hJ.at_.1;omega
 have hgk:g≠w.heap.size:=Nat.ne_of_lt hgw;have hBw:=hJ.le;have hBw0:=hJ.le;have CS:=Kb (fun w=>same_is c w);have CX:=Kb (fun (w:World) (v:Value) (k:Nat) (hv:SlK ckL 9 w v l) (hA:AtL w k (ckL c))=>idxs_is (sameB c) 238 #[.pointer (some ⟨k,0,none⟩)] (enters_of Tryz.func238 (by kernel_rfl) rfl) l v w hv (same_pred c k w hA) (by omega) kk hid);have CDel:=Kb (fun (w:World) (K B:Nat) (cap:Nat) (g:Nat) (hown:w.ownsRow B 88 9 (.slice (some ⟨g,0,none⟩) l.length cap) l.length (cellsK ckL l)) (hA:AtL w K (ckL c)) (hgK:g≠K)=>del_some (sameB c) 238 #[.pointer (some ⟨K,0,none⟩)] (enters_of Tryz.func238 (by kernel_rfl) rfl) l g cap K (ckL c) w B hown hA hgK (same_at c K) (by omega) kk hid);have CE:=Kb (fun w=>expired_is c now true hex w);have hkz:(kk:Int)<(l.length:Int):=by omega
 have hk0:(0:Int)<=(kk:Int):=by omega
 obtain ⟨y,hy⟩:=Ka (l[kk]);have hcy:∀ j u,(ckL y)[j]? = some u->w.cell? ⟨g,kk * 9+j,none⟩=some u:=fun j u hu=>hcell kk hkl j u (by rw [hy];exact hu);rw [hy] at hse;have HY:=Kb hy;clear C0 hid hJ hex hy hcell;go_enter Tryz.func118,Tryz.ntmps118;go_wp2_with fail;obtain ⟨wA,hwA⟩:∃ wA:World,(w.alloc (.cells (ckL c).toArray 88)).alloc (.cells (urlL a b cc d e f).toArray 37)=wA:=⟨_,rfl⟩
 obtain ⟨I,hI⟩:=Ka (w.heap.size+1);obtain ⟨K,hK⟩:=Ka w.heap.size;rw [hwA] at C1 J1 hB1 U1;rw [hI] at U1;rw [hK] at C1 hjk hgk hBw;rw [hwA,hI,hK];have HK:=Kb hK;have hcA:∀ j u,(ckL y)[j]? = some u->wA.cell? ⟨g,kk * 9+j,none⟩=some u:=fun j u hu=>(brl hB1 _ _ hgw).trans (hcy j u hu);clear hwA hI hK hcy;have S1:=s10_start J1.at_ C1;have hjl:=J1.at_.1;have hkl1:=C1.1
 go_region_held3 (fun w'=>w'.cell? ⟨jb,0,none⟩=some (.slice (some ⟨g,0,none⟩) l.length sc)/\w'.cell? ⟨K,0,none⟩=some (.string c.n)/\w'.cell? ⟨K,1,none⟩=some (.string c.v)/\w'.cell? ⟨K,2,none⟩=some (.string c.d)/\w'.cell? ⟨K,3,none⟩=some (.string c.p)/\w'.cell? ⟨K,4,none⟩=some (.bool c.ho)/\w'.cell? ⟨K,5,none⟩=some (.bool c.se)/\w'.cell? ⟨K,6,none⟩=some (.bool c.hi)/\w'.cell? ⟨K,7,none⟩=some (.int .i64 c.ex)/\w'.cell? ⟨K,8,none⟩=some (.int .i64 c.cr)/\Below wA.heap.size wA w') (first | exact s10_next hjl hkl1 S1 (Kc wA).drew | (apply s10_next hjl hkl1;rotate_left;assumption;assumption) | go_keep)
  (first
    | (with_reducible refine (CS.out _).mono ?_;rintro x w1 ⟨rfl,hb1,hA1⟩)
    | (with_reducible refine (CX.out _ (.slice (some ⟨g,0,none⟩) l.length sc) wA.heap.size ((J1.reads.below ((Kc wA).drew.trans hb1) lr)) (atL_drewk hA1)).mono ?_;rintro x w2 ⟨rfl,hb2⟩))
 have hB3:Below wA.heap.size wA w2:=s10_below (by assumption);have hBA:=hB1.trans (hB3.mono (by rw [HK.out];omega));have J3:=J1.below hB3 lr;have C3:=C1.below hB3 C1.lt;have hc3:∀ j u,(ckL y)[j]? = some u->w2.cell? ⟨g,kk * 9+j,none⟩=some u:=fun j u hu=>(brl hB3 _ _ (cell_lt (hcA j u hu))).trans (hcA j u hu);have U3:=U1.below hB3 U1.lt;have u_:=U3.o6;have hul3:=U3.lt;have y5:=hc3 5 _ rfl;have j0:=J3.at_.c 0 rfl;have z_:=C3.o9;have hjl3:=J3.at_.lt;have hkl3:=C3.lt;rcases hse with hse | ⟨hse,hs2⟩
 ·exact N32
 ·exact N32
def WtH (l:List Hd):Prop:=∀ h∈l,h.1.size<=140737488355328/\h.2.size<=140737488355328
def WtE (e:En):Prop:=WtH e.va/\WtH e.hd/\e.bo.size<=140737488355328
theorem wt_each {H:Type}{P:Program}:∀ {ts:List TypeId} {ds:List (DataW H)} (i:Nat) {t:TypeId} {d:DataW H} {n:Nat},ts[i]? = some t->ds[i]? = some d->n∈d.weights P t->n∈DataW.weightsEach P ts ds:=by
 intro ts
 induction ts with
 | nil=>intro ds i t d n h;simp at h
 | cons u ts ih=>
   intro ds i t d n h1 h2 h3
   cases ds with
   | nil=>simp at h2
   | cons x ds=>
     unfold DataW.weightsEach
     cases i with
     | zero =>
       simp at h1 h2
       subst h1 h2
       exact List.mem_append_left _ h3
     | succ i=>exact List.mem_append_right _ (ih i (by simpa using h1) (by simpa using h2) h3)
theorem wt_all {H:Type}{P:Program}{e:TypeId}:∀ {ds:List (DataW H)} (i:Nat) {d:DataW H} {n:Nat},ds[i]? = some d->n∈d.weights P e->n∈DataW.weightsAll P e ds:=by
 intro ds
 induction ds with
 | nil=>intro i d n h;simp at h
 | cons x ds ih=>
   intro i d n h1 h2
   unfold DataW.weightsAll
   cases i with
   | zero=>
     simp at h1
     subst h1
     exact List.mem_append_left _ h2
   | succ i=>exact List.mem_append_right _ (ih i (by simpa using h1) h2)
theorem wt_struct {H:Type}{P:Program}{t:TypeId}{fs:Array Field}(ht:P.underlying t=some (.struct fs)){parts:List (DataW H)}(i:Nat){f:Field}{d:DataW H}{n:Nat}(hf:fs[i]? = some f)(hd:parts[i]? = some d)(h:n∈d.weights P f.type):n∈(DataW.agg parts).weights P t:=by
 unfold DataW.weights;rw [ht];refine wt_each i ?_ hd h;rw [Zh];have:fs.toList[i]? = some f:=by simpa using hf
 rw [this];rfl
theorem wt_slice {H:Type}{P:Program}{t e:TypeId}(ht:P.underlying t=some (.slice e)){elems spare:List (DataW H)}(i:Nat){d:DataW H}{n:Nat}(hd:elems[i]? = some d)(h:n∈d.weights P e):n∈(DataW.slice elems spare).weights P t:=by unfold DataW.weights;rw [ht];exact Jg _ (List.mem_append_left _ (wt_all i hd h))
theorem wt_string {H:Type}{P:Program}{t:TypeId}(s:ByteArray):s.size∈(DataW.lit (H:=H) (.string s.data.toList)).weights P t:=by unfold DataW.weights;simp
def WtOk {H:Type}(P:Program)(t:TypeId)(d:DataW H):Prop:=∀ n∈d.weights P t,n<=reachBytes
theorem WtOk.struct {H:Type}{P:Program}{t:TypeId}{fs:Array Field}{parts:List (DataW H)}(h:WtOk P t (.agg parts))(ht:P.underlying t=some (.struct fs))(i:Nat){f:Field}{d:DataW H}(hf:fs[i]? = some f)(hd:parts[i]? = some d):WtOk P f.type d:=fun n hn=>h n (wt_struct ht i hf hd hn)
theorem WtOk.slice {H:Type}{P:Program}{t e:TypeId}{elems spare:List (DataW H)}(h:WtOk P t (.slice elems spare))(ht:P.underlying t=some (.slice e))(i:Nat){d:DataW H}(hd:elems[i]? = some d):WtOk P e d:=fun n hn=>h n (wt_slice ht i hd hn)
theorem WtOk.str {H:Type}{P:Program}{t:TypeId}{s:ByteArray}(h:WtOk P t (DataW.lit (H:=H) (.string s.data.toList))):s.size<=140737488351232:=h _ (wt_string s)
section
variable {H : Type} {enc : TypeId × Value → H} {P : Program} {w : World} {base : Nat} {held : Bool}
theorem pick_rows {α:Type}(n:Nat)(Q:Nat->α->Prop)(h:∀ i,i<n->∃ p,Q i p):∃ l:List α,l.length=n/\∀ i (hi:i<l.length),Q i l[i]:=by
 induction n with
 | zero=>exact ⟨[],rfl,fun i hi=>by simp at hi⟩
 | succ n ih=>
   obtain ⟨l,hl,hq⟩:=ih (fun i hi=>h i (by omega))
   obtain ⟨p,hp⟩:=h n (by omega)
   refine ⟨l ++ [p],by simp [hl],fun i hi=>?_⟩
   by_cases hin:i<l.length
   ·rw [List.getElem_append_left hin];exact hq i hin
   ·obtain rfl:i=l.length:=by simp at hi;omega
    rw [List.getElem_append_right lr]
    simpa [hl] using hp
theorem cell_spot2 {w:World}{a:Addr}{u:Value}(h:w.cell? a=some u):a.spot=none/\a.block<w.heap.size:=by
 unfold World.cell? at h;by_cases hlt:a.block<w.heap.size
 ·refine ⟨?_,hlt⟩;cases hs:a.spot with
  | none=>rfl
  | some k=>
    split at h
    ·simp [hs] at h
    ·cases h
 ·rw [Array.getElem?_eq_none (by omega)] at h;simp at h
theorem open_rows {α:Type}(en:α->List Value)(K:Nat)(hK:∀ x,(en x).length=K)(hK0:0<K)(Good Wt:α->Prop){t e:TypeId}{fuel:Nat}{cs:List Value}{x:DataW H × List MemPlace}
 (ht:P.underlying t=some (.slice e)) (hce:P.cellsOf e=K)
 (each:∀ n cs (x:DataW H × List MemPlace),DataW.trod enc P w base (fun _=>true) held n e cs=some x->∃ c,cs=en c/\Good c/\(WtOk P e x.1->Wt c))
 (h:DataW.trod enc P w base (fun _=>true) held fuel t cs=some x):∃ v l,cs=[v]/\SlK en K w v l/\(∀ c∈l,Good c)/\(WtOk P t x.1->∀ c∈l,Wt c):=by
 rcases Go.Deep.open_slice ht h with ⟨hc0,-⟩ | ⟨a,len,cap,m,n,D,Pl,hcs,hb,hl,hm,hmm,hx,hi⟩
 ·exact ⟨_,[],hc0,.inl ⟨rfl,none,0,rfl,Kh _⟩,(fun c hc=>by cases hc),(fun _ c hc=>by cases hc)⟩
 ·have key:∀ k,k<len->∃ c:α,(∀ j u,(en c)[j]? = some u->w.cell? ((a.add (k * K)).add j)=some u)/\Good c/\(WtOk P e (D k)->Wt c):=fun k hk=>by
   obtain ⟨cs',hc',ht'⟩:=hi k (by rw [hmm];simp;omega);rw [hce] at hc';obtain ⟨_,hcl,hat⟩:=World.cells?_some hc';obtain ⟨c,rfl,hg,hw⟩:=each _ _ _ ht';refine ⟨c,fun j u hu=>?_,hg,hw⟩;have hj:j<K:=by rw [<-hK c];exact (Xi.1 hu).1
   rw [hat j hj];exact hu
  obtain ⟨l,hll,hq⟩:=pick_rows len _ key;refine ⟨_,l,hcs,?_,fun c hc=>?_,fun hw c hc=>?_⟩
  ·cases l with
   | nil=>exact .inl ⟨rfl,some a,cap,by rw [<-hll];rfl,hm⟩
   | cons p l=>
     have hp:0<(en p).length:=by rw [hK];exact hK0
     have z0:=(hq 0 (by simp)).1 0 _ (Jd hp);have hz:(a.add (0 * K)).add 0=a:=by unfold Addr.add;simp
     rw [hz] at z0;obtain ⟨hsp,hlt⟩:=cell_spot2 z0;obtain ⟨ab,ao,sp⟩:=a;have hsp:sp=none:=hsp;subst hsp;refine .inr ⟨by simp,ab,ao,cap,by rw [hll],by omega,hm,hlt,fun k hk j u hu=>?_⟩;have:=(hq k hk).1 j u hu;have e1:∀ o x:Nat,(⟨ab,o,none⟩:Addr).add x=⟨ab,o+x,none⟩:=fun o x=>by unfold Addr.add;split <;> simp_all
     rw [e1,e1] at this;exact this
  ·obtain ⟨k,hk,rfl⟩:=Xe hc;exact (hq k hk).2.1
  ·obtain ⟨k,hk,rfl⟩:=Xe hc;rw [hx] at hw;exact (hq k hk).2.2 (hw.slice ht k (d:=D k) (by rw [Zh,List.getElem?_range (by omega)];rfl))
theorem open_hd {e s:TypeId}{f0 f1:Field}{fuel:Nat}{cs:List Value}{x:DataW H × List MemPlace}(he:P.underlying e=some (.struct #[f0,f1]))(hs:P.underlying s=some .string)(o:f0.offset=0/\f1.offset=1/\f0.type=s/\f1.type=s)(hcs:P.cellsOf s=1)(hce:P.cellsOf e=2)
 (h:DataW.trod enc P w base (fun _=>true) held fuel e cs=some x):∃ c:Hd,cs=hdC c/\True/\(WtOk P e x.1->c.1.size<=140737488355328/\c.2.size<=140737488355328):=by
 obtain ⟨xs,n,_,rfl,hl,hlen,hf⟩:=DataW.trod_struct he h
 match xs,hlen with
 | [y0,y1],_=>
   have g0:=hf 0 f0 rfl
   have g1:=hf 1 f1 rfl
   rw [o.1,o.2.2.1,hcs] at g0
   rw [o.2.1,o.2.2.2,hcs] at g1
   obtain ⟨s0,e0,d0,_⟩:=DataW.trod_string hs g0
   obtain ⟨s1,e1,d1,_⟩:=DataW.trod_string hs g1
   rw [hce] at hl
   match cs,hl with
   | [u0,u1],_=>
     simp at e0 e1
     subst e0 e1
     refine ⟨(s0,s1),rfl,trivial,fun hw=>?_⟩
     have w0:=hw.struct he 0 (f:=f0) (d:=y0.1) rfl rfl
     have w1:=hw.struct he 1 (f:=f1) (d:=y1.1) rfl rfl
     rw [d0] at w0
     rw [d1] at w1
     exact ⟨Kg w0.str (by decide),Kg w1.str (by decide)⟩
structure HTy (P:Program)(t e s:TypeId)(f0 f1:Field):Prop where
 ht:P.underlying t=some (.slice e)
 he:P.underlying e=some (.struct #[f0,f1])
 hs:P.underlying s=some .string
 o:f0.offset=0/\f1.offset=1/\f0.type=s/\f1.type=s
 cs:P.cellsOf s=1
 ce:P.cellsOf e=2
 ct:P.cellsOf t=1
theorem open_hds {t e s:TypeId}{f0 f1:Field}(ty:HTy P t e s f0 f1){fuel:Nat}{cs:List Value}{x:DataW H × List MemPlace}
 (h:DataW.trod enc P w base (fun _=>true) held fuel t cs=some x):∃ (v:Value) (l:List Hd),cs=[v]/\SlK hdC 2 w v l/\(WtOk P t x.1->WtH l):=by obtain ⟨v,l,h1,h2,_,h3⟩:=open_rows hdC 2 (fun _=>rfl) (by decide) (fun _=>True) (fun c=>c.1.size<=140737488355328/\c.2.size<=140737488355328) ty.ht ty.ce (fun n cs x hx=>open_hd ty.he ty.hs ty.o ty.cs ty.ce hx) h;exact ⟨v,l,h1,h2,h3⟩
structure ETy (P:Program)(t h e s i:TypeId)(f0 f1 g0 g1 g2 g3 g4 g5:Field):Prop where
 hh:HTy P h e s f0 f1
 ht:P.underlying t=some (.struct #[g0,g1,g2,g3,g4,g5])
 hi:P.underlying i=some (.int .i64)
 o:g0.offset=0/\g1.offset=1/\g2.offset=2/\g3.offset=3/\g4.offset=4/\g5.offset=5
 tt:g0.type=s/\g1.type=h/\g2.type=i/\g3.type=h/\g4.type=s/\g5.type=i
 ci:P.cellsOf i=1
 ct:P.cellsOf t=6
theorem open_ent {t h e s i:TypeId}{f0 f1 g0 g1 g2 g3 g4 g5:Field}(ty:ETy P t h e s i f0 f1 g0 g1 g2 g3 g4 g5){fuel:Nat}{cs:List Value}{x:DataW H × List MemPlace}
 (hx:DataW.trod enc P w base (fun _=>true) held fuel t cs=some x):∃ y:Ee,cs=eeC y/\Rd w y.1 y.2/\(WtOk P t x.1->WtE y.2):=by
 obtain ⟨xs,n,_,rfl,hl,hlen,hf⟩:=DataW.trod_struct ty.ht hx
 match xs,hlen with
 | [y0, y1, y2, y3, y4, y5], _ =>
   have k0:=hf 0 g0 rfl
   have k1:=hf 1 g1 rfl
   have k2:=hf 2 g2 rfl
   have k3:=hf 3 g3 rfl
   have k4:=hf 4 g4 rfl
   have k5:=hf 5 g5 rfl
   obtain ⟨o0,o1,o2,o3,o4,o5⟩:=ty.o
   obtain ⟨t0,t1,t2,t3,t4,t5⟩:=ty.tt
   rw [o0,t0,ty.hh.cs] at k0
   rw [o1,t1,ty.hh.ct] at k1
   rw [o2,t2,ty.ci] at k2
   rw [o3,t3,ty.hh.ct] at k3
   rw [o4,t4,ty.hh.cs] at k4
   rw [o5,t5,ty.ci] at k5
   obtain ⟨s0,e0,d0,_⟩:=DataW.trod_string ty.hh.hs k0
   obtain ⟨v1,l1,e1,b1,z1⟩:=open_hds ty.hh k1
   obtain ⟨n2,e2,_⟩:=DataW.trod_int ty.hi k2
   obtain ⟨v3,l3,e3,b3,z3⟩:=open_hds ty.hh k3
   obtain ⟨s4,e4,d4,_⟩:=DataW.trod_string ty.hh.hs k4
   obtain ⟨n5,e5,_⟩:=DataW.trod_int ty.hi k5
   rw [ty.ct] at hl
   match cs,hl with
   | [u0, u1, u2, u3, u4, u5], _ =>
     simp at e0 e1 e2 e3 e4 e5
     subst e0 e1 e2 e3 e4 e5
     refine ⟨(⟨s0,u1,n2,u3,s4,n5⟩,⟨s0,l1,n2,l3,s4,n5⟩),rfl,⟨rfl,rfl,rfl,rfl,b1,b3⟩,fun hw=>⟨?_,?_,?_⟩⟩
     ·have:=hw.struct ty.ht 1 (f:=g1) (d:=y1.1) rfl rfl
      rw [t1] at this
      exact z1 this
     ·have:=hw.struct ty.ht 3 (f:=g3) (d:=y3.1) rfl rfl
      rw [t3] at this
      exact z3 this
     ·have:=hw.struct ty.ht 4 (f:=g4) (d:=y4.1) rfl rfl
      rw [d4] at this
      exact Kg this.str (by decide)
end
abbrev fqC (tk:Int)(me ur og:ByteArray)(mo:Int)(vh:Value)(bo:ByteArray)(ck:Bool):List Value:=[.int .i64 tk,.string me,.string ur,.string og,.int .i64 mo,vh,.string bo,.bool ck]
section
variable {H : Type} {enc : TypeId × Value → H} {P : Program} {w : World} {base : Nat} {held : Bool}
structure QTy (P:Program)(t h e s i b:TypeId)(f0 f1 g0 g1 g2 g3 g4 g5 g6 g7:Field):Prop where
 hh:HTy P h e s f0 f1
 ht:P.underlying t=some (.struct #[g0,g1,g2,g3,g4,g5,g6,g7])
 hi:P.underlying i=some (.int .i64)
 hb:P.underlying b=some .bool
 o:g0.offset=0/\g1.offset=1/\g2.offset=2/\g3.offset=3/\g4.offset=4/\g5.offset=5/\g6.offset=6/\g7.offset=7
 tt:g0.type=i/\g1.type=s/\g2.type=s/\g3.type=s/\g4.type=i/\g5.type=h/\g6.type=s/\g7.type=b
 ci:P.cellsOf i=1
 cb:P.cellsOf b=1
 ct:P.cellsOf t=8
theorem open_fq {t h e s i b:TypeId}{f0 f1 g0 g1 g2 g3 g4 g5 g6 g7:Field}(ty:QTy P t h e s i b f0 f1 g0 g1 g2 g3 g4 g5 g6 g7){fuel:Nat}{cs:List Value}{x:DataW H × List MemPlace}
 (hx:DataW.trod enc P w base (fun _=>true) held fuel t cs=some x):∃ (tk:Int) (me ur og:ByteArray) (mo:Int) (vh:Value) (bo:ByteArray) (ck:Bool) (l:List Hd),cs=fqC tk me ur og mo vh bo ck/\SlK hdC 2 w vh l/\(WtOk P t x.1->WtH l):=by
 obtain ⟨xs,n,_,rfl,hl,hlen,hf⟩:=DataW.trod_struct ty.ht hx
 match xs,hlen with
 | [y0, y1, y2, y3, y4, y5, y6, y7], _ =>
   have k0:=hf 0 g0 rfl
   have k1:=hf 1 g1 rfl
   have k2:=hf 2 g2 rfl
   have k3:=hf 3 g3 rfl
   have k4:=hf 4 g4 rfl
   have k5:=hf 5 g5 rfl
   have k6:=hf 6 g6 rfl
   have k7:=hf 7 g7 rfl
   obtain ⟨o0,o1,o2,o3,o4,o5,o6,o7⟩:=ty.o
   obtain ⟨t0,t1,t2,t3,t4,t5,t6,t7⟩:=ty.tt
   rw [o0,t0,ty.ci] at k0
   rw [o1,t1,ty.hh.cs] at k1
   rw [o2,t2,ty.hh.cs] at k2
   rw [o3,t3,ty.hh.cs] at k3
   rw [o4,t4,ty.ci] at k4
   rw [o5,t5,ty.hh.ct] at k5
   rw [o6,t6,ty.hh.cs] at k6
   rw [o7,t7,ty.cb] at k7
   obtain ⟨n0,e0,_⟩:=DataW.trod_int ty.hi k0
   obtain ⟨s1,e1,_⟩:=DataW.trod_string ty.hh.hs k1
   obtain ⟨s2,e2,_⟩:=DataW.trod_string ty.hh.hs k2
   obtain ⟨s3,e3,_⟩:=DataW.trod_string ty.hh.hs k3
   obtain ⟨n4,e4,_⟩:=DataW.trod_int ty.hi k4
   obtain ⟨v5,l5,e5,b5,z5⟩:=open_hds ty.hh k5
   obtain ⟨s6,e6,_⟩:=DataW.trod_string ty.hh.hs k6
   obtain ⟨q7,e7,_⟩:=DataW.trod_bool ty.hb k7
   rw [ty.ct] at hl
   match cs,hl with
   | [u0, u1, u2, u3, u4, u5, u6, u7], _ =>
     simp at e0 e1 e2 e3 e4 e5 e6 e7
     subst e0 e1 e2 e3 e4 e5 e6 e7
     refine ⟨n0,s1,s2,s3,n4,u5,s6,q7,l5,rfl,b5,fun hw=>?_⟩
     have:=hw.struct ty.ht 5 (f:=g5) (d:=y5.1) rfl rfl
     rw [t5] at this
     exact z5 this
abbrev fsC (tk:Int)(me ur og:ByteArray)(mo:Int)(vh:Value)(bo:ByteArray)(ck:Bool)(ph:Int)(a b c d e f:ByteArray)(sm:ByteArray)(ho:Int)(ch hi:Bool)(st:Int)(wh:Value)(sb:ByteArray)(er:Int):List Value:=[.int .i64 tk,.string me,.string ur,.string og,.int .i64 mo,vh,.string bo,.bool ck,.int .i64 ph,.string a,.string b,.string c,.string d,.string e,.string f,.string sm,.int .i64 ho,.bool ch,.bool hi,.int .i64 st,wh,.string sb,.int .i64 er]
end
end Go.Proofs.YtjdhaacmlpegoaaGreatDoor
namespace Go.Proofs.YtjdhaacmlpegoaaGreatDoor
open Go.Sort
section
variable {α : Type} (lt : α → α → Bool)
def insRev (x:α):List α->List α
 | []=>[x]
 | y :: r=>if lt x y then y :: insRev x r else x :: y :: r
def insR (x:α)(l:List α):List α:=(insRev lt x l.reverse).reverse
def insS (l:List α):List α:=l.foldl (fun acc x=>insR lt x acc) []
def le (x y:α):Bool:=!lt y x
def mg (a b:List α):List α:=List.merge a b (le lt)
theorem insR_nil (x:α):insR lt x []=[x]:=rfl
theorem insR_snoc (x y:α)(l:List α):insR lt x (l ++ [y])=if lt x y then insR lt x l ++ [y] else l ++ [y,x]:=by unfold insR;rw [List.reverse_append];simp only [List.reverse_singleton,Xa,insRev];split <;> simp
theorem insR_length (x:α)(l:List α):(insR lt x l).length=l.length+1:=by
 have h:∀ l:List α,(insRev lt x l).length=l.length+1:=by
  intro l
  induction l with
  | nil=>rfl
  | cons y r ih=>unfold insRev;split <;> simp [ih]
 unfold insR;rw [Xm,h,Xm]
theorem insS_snoc (l:List α)(x:α):insS lt (l ++ [x])=insR lt x (insS lt l):=by simp [insS,Xj]
theorem insS_length (l:List α):(insS lt l).length=l.length:=by
 have:∀ l:List α,∀ acc,(l.foldl (fun acc x=>insR lt x acc) acc).length=acc.length+l.length:=by
  intro l
  induction l with
  | nil=>intro acc;simp
  | cons x r ih=>intro acc;rw [Xc,ih,insR_length];simp;omega
 unfold insS;rw [this];simp
def Srt (l:List α):Prop:=l.Pairwise fun a b=>lt b a=false
theorem mg_nil (b:List α):mg lt [] b=b:=by unfold mg;simp
theorem mg_nil' (a:List α):mg lt a []=a:=by unfold mg;simp
theorem mg_cons (x y:α)(a b:List α):mg lt (x :: a) (y :: b)=if lt y x then y :: mg lt (x :: a) b else x :: mg lt a (y :: b):=by unfold mg;rw [List.cons_merge_cons];unfold le;cases lt y x <;> simp
theorem mg_length (a b:List α):(mg lt a b).length=a.length+b.length:=by unfold mg;rw [List.length_merge]
theorem mg_mem (a b:List α)(x:α):x∈mg lt a b ↔ x∈a\/x∈b:=by unfold mg;rw [List.mem_merge]
theorem srt_mg (hO:SWO lt):∀ (a b:List α),Srt lt a->Srt lt b->Srt lt (mg lt a b):=by
 intro a
 induction a with
 | nil=>intro b _ hb;rw [mg_nil];exact hb
 | cons x a iha=>
   intro b
   induction b with
   | nil=>intro ha _;rw [mg_nil'];exact ha
   | cons y b ihb =>
     intro ha hb
     rw [mg_cons]
     have hax:=List.pairwise_cons.1 ha
     have hby:=List.pairwise_cons.1 hb
     cases h:lt y x with
     | true=>
       rw [Kf rfl]
       refine List.pairwise_cons.2 ⟨fun z hz=>?_,ihb ha hby.2⟩
       rcases (mg_mem lt _ _ _).1 hz with hz | hz
       ·have hxy:lt x y=false:=by
         cases e:lt x y with
         | false=>rfl
         | true=>have:=hO.trans x y x e h;rw [hO.irrefl] at this;cases this
        rcases Ji.1 hz with rfl | hz
        ·exact hxy
        ·exact hO.ntrans z x y (hax.1 z hz) hxy
       ·exact hby.1 z hz
     | false=>
       rw [Ke (by simp)]
       refine List.pairwise_cons.2 ⟨fun z hz=>?_,iha (y :: b) hax.2 hb⟩
       rcases (mg_mem lt _ _ _).1 hz with hz | hz
       ·exact hax.1 z hz
       ·rcases Ji.1 hz with rfl | hz
        ·exact h
        ·exact hO.ntrans z y x (hby.1 z hz) h
theorem mg_parts:∀ (n:Nat)(u1 u2 v1 v2:List α) ,u1.length+v1.length<=n->(∀ x∈u1,∀ y∈v2,lt y x=false)->(∀ y∈v1,∀ x∈u2,lt y x=true) ->
 mg lt (u1 ++ u2) (v1 ++ v2)=mg lt u1 v1 ++ mg lt u2 v2:=by
 intro n
 induction n with
 | zero=>
   intro u1 u2 v1 v2 h _ _
   obtain rfl:u1=[]:=Ja (by omega)
   obtain rfl:v1=[]:=Ja (by omega)
   rw [mg_nil];rfl
 | succ n ih=>
   intro u1 u2 v1 v2 h h1 h2
   cases u1 with
   | nil=>
     cases v1 with
     | nil=>rw [mg_nil];rfl
     | cons y v1=>
       rw [mg_nil,Jp]
       cases u2 with
       | nil=>rw [mg_nil,mg_nil]
       | cons x u2 =>
         have hyx:=h2 y (by simp) x (by simp)
         rw [Jn,mg_cons,hyx,Kf rfl]
         have:=ih [] (x :: u2) v1 v2 (by simp at h ⊢;omega) (fun z hz=>by simp at hz) (fun z hz=>h2 z (Jg _ hz))
         rw [Jp,mg_nil] at this
         rw [this];rfl
   | cons x u1=>
     cases v1 with
     | nil=>
       rw [mg_nil',Jp]
       cases v2 with
       | nil=>rw [mg_nil',mg_nil']
       | cons y v2 =>
         have hyx:=h1 x (by simp) y (by simp)
         rw [Jn,mg_cons,hyx,Ke (by simp)]
         have:=ih u1 u2 [] (y :: v2) (by simp at h ⊢;omega) (fun z hz=>h1 z (Jg _ hz)) (fun z hz=>by simp at hz)
         rw [Jp,mg_nil'] at this
         rw [this];rfl
     | cons y v1=>
       rw [Jn,Jn,mg_cons,mg_cons]
       cases hyx:lt y x with
       | true =>
         rw [Kf rfl,Kf rfl]
         have:=ih (x :: u1) u2 v1 v2 (by simp at h ⊢;omega) h1 (fun z hz=>h2 z (Jg _ hz))
         rw [Jn] at this
         rw [this];rfl
       | false =>
         rw [Ke (by simp),Ke (by simp)]
         have:=ih u1 u2 (y :: v1) v2 (by simp at h ⊢;omega) (fun z hz=>h1 z (Jg _ hz)) h2
         rw [Jn] at this
         rw [this];rfl
theorem insR_srt (hO:SWO lt)(x:α):∀ (l:List α),Srt lt l->insR lt x l=mg lt l [x]:=by
 have key:∀ (n:Nat) (l:List α),l.length=n->Srt lt l->insR lt x l=mg lt l [x]:=by
  intro n
  induction n with
  | zero =>
    intro l hl _
    obtain rfl:l=[]:=Ja hl
    rw [mg_nil];rfl
  | succ n ih =>
    intro l hl hs
    obtain ⟨l',y,rfl⟩:∃ l' y,l=l' ++ [y]:=⟨l.dropLast,l.getLast (by intro e;rw [e] at hl;simp at hl),(List.dropLast_concat_getLast _).symm⟩
    have hs':=List.pairwise_append.1 hs
    rw [insR_snoc]
    cases h:lt x y with
    | true=>
      rw [Kf rfl,ih l' (by simpa using hl) hs'.1]
      have:=mg_parts lt _ l' [y] [x] [] lr (fun _ _ z hz=>by simp at hz) (fun z hz w hw=>by simp at hz hw;rw [hz,hw];exact h)
      rw [Je,mg_nil'] at this
      exact this.symm
    | false=>
      rw [Ke (by simp)]
      have:=mg_parts lt _ (l' ++ [y]) [] [] [x] lr (fun z hz w hw=>by
       simp at hw;subst hw
       rcases Kz.1 hz with hz | hz
       ·exact hO.ntrans w y z h (hs'.2.2 z hz y (by simp))
       ·simp at hz;rw [hz];exact h) (fun z hz=>by simp at hz)
      rw [Je,Jp,mg_nil',mg_nil] at this
      rw [this];simp
 exact fun l=>key l.length l rfl
theorem srt_insR (hO:SWO lt)(x:α)(l:List α)(h:Srt lt l):Srt lt (insR lt x l):=by rw [insR_srt lt hO x l h];exact srt_mg lt hO l [x] h (List.pairwise_singleton _ _)
theorem srt_foldl (hO:SWO lt):∀ (l acc:List α),Srt lt acc->Srt lt (l.foldl (fun acc x=>insR lt x acc) acc):=by
 intro l
 induction l with
 | nil=>intro acc h;exact h
 | cons x r ih=>intro acc h;exact ih _ (srt_insR lt hO x acc h)
theorem srt_insS (hO:SWO lt)(l:List α):Srt lt (insS lt l):=srt_foldl lt hO l [] List.Pairwise.nil
theorem mg_assoc (hO:SWO lt):∀ (n:Nat) (a b c:List α),a.length+b.length+c.length<=n->mg lt (mg lt a b) c=mg lt a (mg lt b c):=by
 intro n
 induction n with
 | zero=>
   intro a b c h
   obtain rfl:a=[]:=Ja (by omega)
   rw [mg_nil,mg_nil]
 | succ n ih=>
   intro a b c h
   cases a with
   | nil=>rw [mg_nil,mg_nil]
   | cons x a=>
     cases b with
     | nil=>rw [mg_nil',mg_nil]
     | cons y b=>
       cases c with
       | nil=>rw [mg_nil',mg_nil']
       | cons z c =>
         rw [mg_cons,mg_cons]
         simp only [Kv] at h
         cases hyx:lt y x with
         | true=>
           rw [Kf rfl,mg_cons]
           cases hzy:lt z y with
           | true =>
             have hzx:=hO.trans z y x hzy hyx
             rw [Kf rfl,Kf rfl,mg_cons,hzx,Kf rfl]
             have e:=ih (x :: a) (y :: b) c (by simp;omega)
             rw [mg_cons,hyx,Kf rfl] at e
             rw [e]
           | false =>
             rw [Ke (by simp),Ke (by simp),mg_cons,hyx,Kf rfl]
             exact Kq (y :: ·) (ih (x :: a) b (z :: c) (by simp;omega))
         | false=>
           rw [Ke (by simp),mg_cons]
           cases hzx:lt z x with
           | true =>
             rw [Kf rfl]
             have hzy:lt z y=true:=by
              cases e:lt z y with
              | true=>rfl
              | false=>have:=hO.ntrans z y x e hyx;rw [this] at hzx;cases hzx
             rw [hzy,Kf rfl,mg_cons,hzx,Kf rfl]
             have e:=ih (x :: a) (y :: b) c (by simp;omega)
             rw [mg_cons,hyx,Ke (by simp)] at e
             rw [e]
           | false =>
             rw [Ke (by simp)]
             have e:=ih a (y :: b) (z :: c) (by simp;omega)
             rw [e,mg_cons]
             cases hzy:lt z y with
             | true=>rw [Kf rfl,mg_cons,hzx,Ke (by simp)]
             | false=>rw [Ke (by simp),mg_cons,hyx,Ke (by simp)]
theorem insS_append (hO:SWO lt)(l1:List α):∀ l2:List α,insS lt (l1 ++ l2)=mg lt (insS lt l1) (insS lt l2):=by
 have key:∀ (n:Nat) (l2:List α),l2.length=n->insS lt (l1 ++ l2)=mg lt (insS lt l1) (insS lt l2):=by
  intro n
  induction n with
  | zero =>
    intro l2 hl
    obtain rfl:l2=[]:=Ja hl
    rw [Je,show insS lt []=[] from rfl,mg_nil']
  | succ n ih =>
    intro l2 hl
    obtain ⟨l',y,rfl⟩:∃ l' y,l2=l' ++ [y]:=⟨l2.dropLast,l2.getLast (by intro e;rw [e] at hl;simp at hl),(List.dropLast_concat_getLast _).symm⟩
    rw [<-Jj,insS_snoc,insS_snoc,ih l' (by simpa using hl),insR_srt lt hO y _ (srt_mg lt hO _ _ (srt_insS lt hO _) (srt_insS lt hO _)),insR_srt lt hO y _ (srt_insS lt hO _),mg_assoc lt hO _ _ _ _ lr]
 exact fun l2=>key l2.length l2 rfl
end
section
variable {α : Type} [Inhabited α] (lt : α → α → Bool)
theorem arr_at (X:List α)(y:α)(Y:List α):(X ++ y :: Y).toArray[X.length]! = y:=by simp
theorem arr_at' (X:List α)(y:α)(Y:List α)(n:Nat)(h:n=X.length):(X ++ y :: Y).toArray[n]! = y:=by subst h;exact arr_at X y Y
theorem swp_lists (X M Y:List α)(p q:α)(i j:Nat)(hi:i=X.length)(hj:j=X.length+1+M.length):swp (X ++ p :: (M ++ q :: Y)).toArray i j=(X ++ q :: (M ++ p :: Y)).toArray:=by
 unfold swp;have e1:(X ++ p :: (M ++ q :: Y)).toArray[i]! = p:=arr_at' _ _ _ _ hi;have e2:(X ++ p :: (M ++ q :: Y)).toArray[j]! = q:=by rw [show X ++ p :: (M ++ q :: Y)=(X ++ p :: M) ++ q :: Y by simp];exact arr_at' _ _ _ _ (by simp;omega)
 rw [e1,e2];have s1:(X ++ p :: (M ++ q :: Y)).set i q=X ++ q :: (M ++ q :: Y):=by rw [List.set_append_right _ _ (by omega),hi];simp
 have s2:(X ++ q :: (M ++ q :: Y)).set j p=X ++ q :: (M ++ p :: Y):=by rw [show X ++ q :: (M ++ q :: Y)=(X ++ q :: M) ++ q :: Y by simp,List.set_append_right _ _ (by simp;omega),hj];simp [show X.length+1+M.length - (X.length+(M.length+1))=0 by omega]
 apply Array.toList_inj.1;simp only [Array.toList_setIfInBounds];rw [s1,s2]
theorem swp_comm' (X M Y:List α)(p q:α)(i j:Nat)(hi:i=X.length)(hj:j=X.length+1+M.length):swp (X ++ p :: (M ++ q :: Y)).toArray j i=(X ++ q :: (M ++ p :: Y)).toArray:=by
 have e:swp (X ++ p :: (M ++ q :: Y)).toArray j i=swp (X ++ p :: (M ++ q :: Y)).toArray i j:=by unfold swp;exact Array.setIfInBounds_comm _ _ (by omega)
 rw [e];exact swp_lists X M Y p q i j hi hj
theorem insInner_is (a:Nat)(X:List α)(hX:a=X.length)(x:α):∀ (n:Nat) (s Y:List α),s.length=n->insInner lt a (a+n) (X ++ s ++ x :: Y).toArray=(X ++ insR lt x s ++ Y).toArray:=by
 intro n
 induction n with
 | zero=>
   intro s Y hs
   obtain rfl:s=[]:=Ja hs
   rw [Ku,insInner_stop _ _ _ _ (Or.inl lr),insR_nil]
   simp
 | succ n ih=>
   intro s Y hs
   obtain ⟨s',y,rfl⟩:∃ l' y,s=l' ++ [y]:=⟨s.dropLast,s.getLast (by intro e;rw [e] at hs;simp at hs),(List.dropLast_concat_getLast _).symm⟩
   have hs':s'.length=n:=by simpa using hs
   have e0:X ++ (s' ++ [y]) ++ x :: Y=(X ++ s') ++ y :: ([] ++ x :: Y):=by simp
   have ex:(X ++ (s' ++ [y]) ++ x :: Y).toArray[a+(n+1)]! = x:=by
    exact arr_at' _ _ _ _ (by simp;omega)
   have ey:(X ++ (s' ++ [y]) ++ x :: Y).toArray[a+n]! = y:=by
    rw [e0];exact arr_at' _ _ _ _ (by simp;omega)
   rw [insR_snoc]
   cases h:lt x y with
   | true=>
     rw [insInner_go _ _ _ _ (by omega) (by rw [ex,show a+(n+1) - 1=a+n by omega,ey];exact h),Kf rfl]
     rw [show a+(n+1) - 1=a+n by omega,e0,swp_comm' (X ++ s') [] Y y x (a+n) (a+(n+1)) (by simp;omega) (by simp;omega)]
     rw [show X ++ s' ++ x :: ([] ++ y :: Y)=X ++ s' ++ x :: (y :: Y) by rfl,ih s' (y :: Y) hs']
     simp
   | false=>
     rw [insInner_stop _ _ _ _ (Or.inr (by rw [ex,show a+(n+1) - 1=a+n by omega,ey];exact h)),Ke (by simp)]
     simp
theorem insOuter_is (a:Nat)(X:List α)(hX:a=X.length)(Y:List α):∀ (r s:List α) (b i:Nat),i=a+s.length->b=i+r.length ->
 insOuter lt a b i (X ++ s ++ r ++ Y).toArray=(X ++ r.foldl (fun acc x=>insR lt x acc) s ++ Y).toArray:=by
 intro r
 induction r with
 | nil=>intro s b i hi hb;rw [insOuter_stop _ _ _ _ _ (by simp at hb;omega)];simp
 | cons x r ih=>
   intro s b i hi hb
   rw [insOuter_go _ _ _ _ _ (by simp at hb;omega)]
   have:=insInner_is lt a X hX x s.length s (r ++ Y) rfl
   rw [<-hi] at this
   rw [show X ++ s ++ x :: r ++ Y=X ++ s ++ x :: (r ++ Y) by simp,this]
   rw [show X ++ insR lt x s ++ (r ++ Y)=X ++ insR lt x s ++ r ++ Y by simp,ih (insR lt x s) b (i+1) (by rw [insR_length];omega) (by simp at hb;omega)]
   rfl
theorem insertion_is (X l Y:List α)(a b:Nat)(ha:a=X.length)(hb:b=a+l.length)(hl:l≠[]):insertionSort lt (X ++ l ++ Y).toArray a b=(X ++ insS lt l ++ Y).toArray:=by
 unfold insertionSort
 cases l with
 | nil=>exact absurd rfl hl
 | cons x r=>
   have:=insOuter_is lt a X ha Y r [x] b (a+1) (by simp) (by simp at hb;omega)
   rw [show X ++ [x] ++ r ++ Y=X ++ x :: r ++ Y by simp] at this
   rw [this]
   rfl
end
section
variable {α : Type} (lt : α → α → Bool)
theorem at_app [Inhabited α](X v Y:List α)(i t:Nat)(h:i=X.length+t)(ht:t<v.length):(X ++ v ++ Y).toArray[i]! = v[t]:=by
 subst h;have e:v=v.take t ++ v[t] :: v.drop (t+1):=by rw [<-Zu ht,Jt]
 have e2:X ++ v ++ Y=(X ++ v.take t) ++ v[t] :: (v.drop (t+1) ++ Y):=by
  conv=>lhs;rw [e]
  simp only [Jj,Jn]
 rw [e2];exact arr_at' _ _ _ _ (by simp;omega)
def srA (X p M q Y:List α)(i:Nat):Array α:=(X ++ q.take i ++ (p.drop i ++ M ++ p.take i) ++ q.drop i ++ Y).toArray
theorem srA_zero (X p M q Y:List α):srA X p M q Y 0=(X ++ p ++ M ++ q ++ Y).toArray:=by simp [srA]
theorem srA_end (X p M q Y:List α)(n:Nat)(hp:p.length=n)(hq:q.length=n):srA X p M q Y n=(X ++ q ++ M ++ p ++ Y).toArray:=by unfold srA;rw [Zb (by omega),List.drop_of_length_le (by omega),Zb (by omega),List.drop_of_length_le (by omega)];simp
theorem srA_step [Inhabited α](X p M q Y:List α)(n i a b:Nat)(hp:p.length=n)(hq:q.length=n)(hi:i<n)(ha:a=X.length)(hb:b=X.length+n+M.length):
 swp (srA X p M q Y i) (a+i) (b+i)=srA X p M q Y (i+1):=by
 unfold srA;have hpi:i<p.length:=by omega
 have hqi:i<q.length:=by omega
 rw [Zu hpi,Zu hqi];rw [show X ++ q.take i ++ (p[i] :: p.drop (i+1) ++ M ++ p.take i) ++ q[i] :: q.drop (i+1) ++ Y=(X ++ q.take i) ++ p[i] :: ((p.drop (i+1) ++ M ++ p.take i) ++ q[i] :: (q.drop (i+1) ++ Y)) by simp only [Jj,Jn]];rw [swp_lists _ _ _ _ _ _ _ (by simp;omega) (by simp;omega)];rw [Jf hqi,Jf hpi];simp only [Jj,Jn,Jp]
def RotI (G:Array α)(m i j:Nat)(dk:Array α):Prop:=
 ∃ X p q Y:List α,dk=(X ++ p ++ q ++ Y).toArray/\X.length+i=m/\p.length=i/\q.length=j/\0<i/\0<j/\(X ++ q ++ p ++ Y).toArray=G
theorem rot_gt {G:Array α}{m i j:Nat}{dk:Array α}(h:RotI G m i j dk)(hij:j<i):
 ∃ X p M q Y:List α,dk=(X ++ p ++ M ++ q ++ Y).toArray/\p.length=j/\q.length=j/\m - i=X.length/\m=X.length+j+M.length/\RotI G m (i - j) j (X ++ q ++ M ++ p ++ Y).toArray:=by
 obtain ⟨X,p,q,Y,rfl,hX,hp,hq,hi,hj,hG⟩:=h
 refine ⟨X,p.take j,p.drop j,q,Y,by simp,by simp;omega,hq,by omega,by simp;omega,X ++ q,p.drop j,p.take j,Y,by simp,by simp;omega,by simp;omega,by simp;omega,by omega,by omega,?_⟩
 rw [<-hG]
 conv=>rhs;rw [<-Jt j p]
 simp
theorem rot_lt {G:Array α}{m i j:Nat}{dk:Array α}(h:RotI G m i j dk)(hij:i<j):
 ∃ X p M q Y:List α,dk=(X ++ p ++ M ++ q ++ Y).toArray/\p.length=i/\q.length=i/\m - i=X.length/\m+j - i=X.length+i+M.length/\RotI G m i (j - i) (X ++ q ++ M ++ p ++ Y).toArray:=by
 obtain ⟨X,p,q,Y,rfl,hX,hp,hq,hi,hj,hG⟩:=h
 refine ⟨X,p,q.take (j - i),q.drop (j - i),Y,by simp,hp,by simp;omega,by omega,by simp;omega,X,q.drop (j - i),q.take (j - i),p ++ Y,by simp,by omega,by simp;omega,by simp;omega,by omega,by omega,?_⟩
 rw [<-hG]
 conv=>rhs;rw [<-Jt (j - i) q]
 simp
theorem rot_eq {G:Array α}{m i j:Nat}{dk:Array α}(h:RotI G m i j dk)(hij:i=j):
 ∃ X p M q Y:List α,dk=(X ++ p ++ M ++ q ++ Y).toArray/\p.length=i/\q.length=i/\m - i=X.length/\m=X.length+i+M.length/\(X ++ q ++ M ++ p ++ Y).toArray=G:=by obtain ⟨X,p,q,Y,rfl,hX,hp,hq,hi,hj,hG⟩:=h;exact ⟨X,p,[],q,Y,by simp,hp,by omega,by omega,by simp;omega,by rw [<-hG];simp⟩
theorem rot_start (X u v Y:List α)(a m b:Nat)(ha:a=X.length)(hm:m=a+u.length)(hb:b=m+v.length)(h1:a<m)(h2:m<b):RotI (X ++ v ++ u ++ Y).toArray m (m - a) (b - m) (X ++ u ++ v ++ Y).toArray:=
 ⟨X,u,v,Y,rfl,by omega,by omega,by omega,by omega,by omega,rfl⟩
theorem srt_take {l:List α}(h:Srt lt l)(k:Nat):Srt lt (l.take k):=List.Pairwise.sublist (List.take_sublist _ _) h
theorem srt_drop {l:List α}(h:Srt lt l)(k:Nat):Srt lt (l.drop k):=List.Pairwise.sublist (List.drop_sublist _ _) h
theorem srt_le {l:List α}(hO:SWO lt)(h:Srt lt l)(i j:Nat)(hij:i<=j)(hj:j<l.length):lt l[j] (l[i]'(by omega))=false:=by
 rcases Nat.lt_or_eq_of_le hij with h1 | h1
 ·exact (List.pairwise_iff_getElem.1 h) i j (by omega) hj h1
 ·subst h1;exact hO.irrefl _
theorem mem_take {l:List α}{k:Nat}{x:α}(h:x∈l.take k):∃ i,∃ hi:i<l.length,i<k/\x=l[i]:=by obtain ⟨i,hi,rfl⟩:=Xe h;have:=hi;rw [Jk] at this;exact ⟨i,by omega,by omega,by rw [List.getElem_take]⟩
theorem mem_drop {l:List α}{k:Nat}{x:α}(h:x∈l.drop k):∃ i,∃ hi:i<l.length,k<=i/\x=l[i]:=by obtain ⟨i,hi,rfl⟩:=Xe h;have:=hi;rw [Jy] at this;exact ⟨k+i,by omega,by omega,by rw [List.getElem_drop]⟩
theorem lt_of_le (hO:SWO lt){y y1 x x1:α}(h1:lt y1 y=false)(h2:lt y1 x1=true)(h3:lt x x1=false):lt y x=true:=by
 cases e:lt y x with
 | true=>rfl
 | false=>
   have:=hO.ntrans y1 x x1 (hO.ntrans y1 y x h1 e) h3
   rw [h2] at this;cases this
theorem sym_first [Inhabited α](hO:SWO lt)(X v Y:List α)(x:α)(m b i:Nat)(hm:m=X.length+1)(hb:b=m+v.length)(hs:Srt lt v)(h0:m<=i)(h0':i<=b)
 (h1:i=m\/lt (X ++ [x] ++ v ++ Y).toArray[i - 1]! x=true) (h2:i=b\/lt (X ++ [x] ++ v ++ Y).toArray[i]! x=false) :
 mg lt [x] v=v.take (i - m) ++ x :: v.drop (i - m):=by
 have e1:=mg_parts lt _ [] [x] (v.take (i - m)) (v.drop (i - m)) lr (fun _ hz=>by simp at hz) (fun y hy z hz=>by
  simp at hz;subst hz;obtain ⟨t,ht,htk,rfl⟩:=mem_take hy;rcases h1 with h1 | h1
  ·omega
  ·rw [at_app (X ++ [z]) v Y (i - 1) (i - 1 - m) (by simp;omega) (by omega)] at h1;exact lt_of_le lt hO (srt_le lt hO hs t (i - 1 - m) (by omega) (by omega)) h1 (hO.irrefl z))
 have e2:=mg_parts lt _ [x] [] [] (v.drop (i - m)) lr (fun z hz y hy=>by
  simp at hz;subst hz;obtain ⟨t,ht,htk,rfl⟩:=mem_drop hy;rcases h2 with h2 | h2
  ·omega
  ·rw [at_app (X ++ [z]) v Y i (i - m) (by simp;omega) (by omega)] at h2;exact hO.ntrans _ _ _ (srt_le lt hO hs (i - m) t (by omega) (by omega)) h2) (fun y hy=>by simp at hy)
 rw [Jt,Jp,mg_nil] at e1;rw [Je,Jp,mg_nil',mg_nil] at e2;rw [e1,e2];rfl
theorem sym_last [Inhabited α](hO:SWO lt)(X u Y:List α)(y:α)(a m i:Nat)(ha:a=X.length)(hm:m=a+u.length)(hs:Srt lt u)(h0:a<=i)(h0':i<=m)
 (h1:i=a\/lt y (X ++ u ++ ([y] ++ Y)).toArray[i - 1]! = false) (h2:i=m\/lt y (X ++ u ++ ([y] ++ Y)).toArray[i]! = true) :
 mg lt u [y]=u.take (i - a) ++ y :: u.drop (i - a):=by
 have e1:=mg_parts lt _ (u.take (i - a)) (u.drop (i - a)) [] [y] lr (fun x hx z hz=>by
  simp at hz;subst hz;obtain ⟨t,ht,htk,rfl⟩:=mem_take hx;rcases h1 with h1 | h1
  ·omega
  ·rw [at_app X u _ (i - 1) (i - 1 - a) (by omega) (by omega)] at h1;exact hO.ntrans _ _ _ h1 (srt_le lt hO hs t (i - 1 - a) (by omega) (by omega))) (fun _ hz=>by simp at hz)
 have e2:=mg_parts lt _ [] (u.drop (i - a)) [y] [] lr (fun _ hz=>by simp at hz) (fun z hz x hx=>by
  simp at hz;subst hz;obtain ⟨t,ht,htk,rfl⟩:=mem_drop hx;rcases h2 with h2 | h2
  ·omega
  ·rw [at_app X u _ i (i - a) (by omega) (by omega)] at h2;exact lt_of_le lt hO (hO.irrefl z) h2 (srt_le lt hO hs (i - a) t (by omega) (by omega)))
 rw [Jt,Jp,mg_nil'] at e1;rw [Je,Jp,mg_nil',mg_nil] at e2;rw [e1,e2];rfl
def wandA (X:List α)(x:α)(v Y:List α)(k:Nat):Array α:=(X ++ v.take k ++ x :: (v.drop k ++ Y)).toArray
theorem wand_right [Inhabited α](X:List α)(x:α)(v Y:List α)(k a:Nat)(ha:a=X.length)(hk:k<v.length):swp (wandA X x v Y k) (a+k) (a+k+1)=wandA X x v Y (k+1):=by unfold wandA;rw [Zu hk];rw [show X ++ v.take k ++ x :: (v[k] :: v.drop (k+1) ++ Y)=(X ++ v.take k) ++ x :: ([] ++ v[k] :: (v.drop (k+1) ++ Y)) by simp only [Jj,Jn,Jp]];rw [swp_lists _ _ _ _ _ _ _ (by simp;omega) (by simp;omega),Jf hk];simp only [Jj,Jn,Jp]
theorem wand_left [Inhabited α](X:List α)(x:α)(v Y:List α)(k a:Nat)(ha:a=X.length)(hk:k<v.length):swp (wandA X x v Y (k+1)) (a+k+1) (a+k)=wandA X x v Y k:=by unfold wandA;rw [Zu hk];rw [Jf hk];rw [show X ++ (v.take k ++ [v[k]]) ++ x :: (v.drop (k+1) ++ Y)=(X ++ v.take k) ++ v[k] :: ([] ++ x :: (v.drop (k+1) ++ Y)) by simp only [Jj,Jn,Jp]];rw [swp_comm' _ _ _ _ _ _ _ (by simp;omega) (by simp;omega)];simp only [Jj,Jn,Jp]
theorem sym_part [Inhabited α](hO:SWO lt)(X u v Y:List α)(a m b mid n lo hi st en:Nat)(d:Array α)(hd:d=(X ++ u ++ v ++ Y).toArray)(ha:a=X.length)(hm:m=a+u.length)(hb:b=m+v.length)(hmid:mid=(a+b) / 2)(hn:n=mid+m)(h1m:a<m)(h2m:m<b)
 (hl:m > mid->lo=n - b/\hi=mid) (hl':¬ m > mid->lo=a/\hi=m) (hs1:lo<=st) (hs2:st<=hi) (he:en=n - st) (hu:Srt lt u) (hv:Srt lt v)
 (h1:st=lo\/lt d[n - st]! d[st - 1]! = false) (h2:st=hi\/lt d[n - 1 - st]! d[st]! = true) :
 a<=st/\st<=m/\m<=en/\en<=b/\(st - a)+(en - m)=mid - a/\st<=mid/\mid<=en/\mg lt u v=mg lt (u.take (st - a)) (v.take (en - m)) ++ mg lt (u.drop (st - a)) (v.drop (en - m)):=by
 have hk:a<=st/\st<=m/\m<=en/\en<=b/\(st - a)+(en - m)=mid - a/\st<=mid/\mid<=en:=by
  by_cases h:m > mid
  ·obtain ⟨rfl,rfl⟩:=hl h;omega
  ·obtain ⟨rfl,rfl⟩:=hl' h;omega
 obtain ⟨k1,k2,k3,k4,k5,k6,k7⟩:=hk;refine ⟨k1,k2,k3,k4,k5,k6,k7,?_⟩;have hat1:∀ i t,i=a+t->∀ ht:t<u.length,d[i]! = u[t]:=fun i t hi ht=>by rw [hd,show X ++ u ++ v ++ Y=X ++ u ++ (v ++ Y) by simp];exact at_app X u _ i t (by omega) ht
 have hat2:∀ i t,i=m+t->∀ ht:t<v.length,d[i]! = v[t]:=fun i t hi ht=>by rw [hd];exact at_app (X ++ u) v Y i t (by simp;omega) ht
 have e:=mg_parts lt _ (u.take (st - a)) (u.drop (st - a)) (v.take (en - m)) (v.drop (en - m)) lr (fun x hx y hy=>by
  obtain ⟨t,ht,htk,rfl⟩:=mem_take hx;obtain ⟨s,hs,hsk,rfl⟩:=mem_drop hy;have hst:¬ st=lo:=by
   intro h;by_cases hc:m > mid
   ·obtain ⟨rfl,rfl⟩:=hl hc;omega
   ·obtain ⟨rfl,rfl⟩:=hl' hc;omega
  have h1:=h1.resolve_left hst;rw [hat2 (n - st) (en - m) (by omega) (by omega),hat1 (st - 1) (st - 1 - a) (by omega) (by omega)] at h1;exact hO.ntrans _ _ _ (srt_le lt hO hv (en - m) s (by omega) hs) (hO.ntrans _ _ _ h1 (srt_le lt hO hu t (st - 1 - a) (by omega) (by omega)))) (fun y hy x hx=>by
  obtain ⟨t,ht,htk,rfl⟩:=mem_drop hx;obtain ⟨s,hs,hsk,rfl⟩:=mem_take hy;have hst:¬ st=hi:=by
   intro h;by_cases hc:m > mid
   ·obtain ⟨rfl,rfl⟩:=hl hc;omega
   ·obtain ⟨rfl,rfl⟩:=hl' hc;omega
  have h2:=h2.resolve_left hst;rw [hat2 (n - 1 - st) (en - m - 1) (by omega) (by omega),hat1 st (st - a) (by omega) (by omega)] at h2;exact lt_of_le lt hO (srt_le lt hO hv s (en - m - 1) (by omega) (by omega)) h2 (srt_le lt hO hu (st - a) t (by omega) ht))
 rw [Jt,Jt] at e;exact e
def cs (bs:Nat)(l:List α):List α:=if h:bs=0\/l=[] then [] else insS lt (l.take bs) ++ cs bs (l.drop bs)
termination_by l.length
decreasing_by
 have:l.length≠0:=fun e=>h (Or.inr (Ja e))
 simp;omega
theorem cs_nil (bs:Nat):cs lt bs []=[]:=by rw [cs];simp
theorem cs_step (bs:Nat)(l:List α)(hb:0<bs)(hl:l≠[]):cs lt bs l=insS lt (l.take bs) ++ cs lt bs (l.drop bs):=by rw [cs,dif_neg (by rintro (h | h);omega;exact hl h)]
theorem cs_short (bs:Nat)(l:List α)(hb:0<bs)(hl:l.length<=bs):cs lt bs l=insS lt l:=by
 by_cases h:l=[]
 ·subst h;rw [cs_nil];rfl
 ·rw [cs_step lt bs l hb h,Zb hl,List.drop_of_length_le hl,cs_nil,Je]
theorem cs_append (bs:Nat)(hb:0<bs):∀ (c:Nat) (A B:List α),A.length=bs * c->cs lt bs (A ++ B)=cs lt bs A ++ cs lt bs B:=by
 intro c
 induction c with
 | zero=>
   intro A B h
   obtain rfl:A=[]:=Ja (by simpa using h)
   rw [cs_nil];rfl
 | succ c ih=>
   intro A B h
   rw [Nat.mul_succ] at h
   have hA:A≠[]:=by intro e;rw [e] at h;simp at h;omega
   rw [cs_step lt bs (A ++ B) hb (by simp [hA]),cs_step lt bs A hb hA,List.take_append_of_le_length (by omega),List.drop_append_of_le_length (by omega),ih _ B (by simp;omega)]
   simp
theorem cs_length (bs:Nat)(hb:0<bs):∀ (n:Nat) (l:List α),l.length<=n->(cs lt bs l).length=l.length:=by
 intro n
 induction n with
 | zero=>
   intro l h
   obtain rfl:l=[]:=Ja (by omega)
   rw [cs_nil]
 | succ n ih=>
   intro l h
   by_cases hl:l=[]
   ·subst hl;rw [cs_nil]
   ·have:l.length≠0:=fun e=>hl (Ja e)
    rw [cs_step lt bs l hb hl,Kw,insS_length,ih _ (by simp;omega)]
    simp;omega
def P1 (l:List α)(a:Nat)(d:Array α):Prop:=a<=l.length/\(∃ c,a=20 * c)/\d=(cs lt 20 (l.take a) ++ l.drop a).toArray
theorem P1.start (l:List α):P1 lt l 0 l.toArray:=⟨Kh _,⟨0,rfl⟩,by simp [cs_nil]⟩
theorem P1.parts {l:List α}{a:Nat}{d:Array α}(h:P1 lt l a d)(hb:a+20<=l.length):∃ X B Y,d=(X ++ B ++ Y).toArray/\a=X.length/\a+20=a+B.length/\B≠[]/\P1 lt l (a+20) (X ++ insS lt B ++ Y).toArray:=by
 obtain ⟨h1,⟨c,h2⟩,rfl⟩:=h;refine ⟨cs lt 20 (l.take a),(l.drop a).take 20,l.drop (a+20),?_,?_,?_,?_,hb,⟨c+1,by omega⟩,?_⟩
 ·rw [Jj];congr 2
  conv=>lhs;rw [<-Jt 20 (l.drop a),Zr]
 ·rw [cs_length lt 20 (by omega) _ _ lr];simp;omega
 ·simp;omega
 ·intro e;have:=Kq List.length e;simp at this;omega
 ·have e:l.take (a+20)=l.take a ++ (l.drop a).take 20:=by rw [List.take_add]
  rw [e,cs_append lt 20 (by omega) c _ _ (by simp;omega),cs_short lt 20 ((l.drop a).take 20) (by omega) (by simp;omega)]
theorem P1.last {l:List α}{a:Nat}{d:Array α}(h:P1 lt l a d)(hb:l.length<a+20)(ha:a<l.length):∃ X B Y,d=(X ++ B ++ Y).toArray/\a=X.length/\l.length=a+B.length/\B≠[]/\(X ++ insS lt B ++ Y).toArray=(cs lt 20 l).toArray:=by
 obtain ⟨h1,⟨c,h2⟩,rfl⟩:=h;refine ⟨cs lt 20 (l.take a),l.drop a,[],by simp,?_,by simp;omega,?_,?_⟩
 ·rw [cs_length lt 20 (by omega) _ _ lr];simp;omega
 ·intro e;have:=Kq List.length e;simp at this;omega
 ·have e:=cs_append lt 20 (by omega) c (l.take a) (l.drop a) (by simp;omega);rw [Jt,cs_short lt 20 (l.drop a) (by omega) (by simp;omega)] at e;rw [e];simp
theorem P1.done {l:List α}{a:Nat}{d:Array α}(h:P1 lt l a d)(ha:¬ a<l.length):d=(cs lt 20 l).toArray:=by
 obtain ⟨h1,_,rfl⟩:=h;have:a=l.length:=by omega
 subst this;simp
theorem insertion_none [Inhabited α](d:Array α)(a b:Nat)(h:b<=a+1):insertionSort lt d a b=d:=by unfold insertionSort;rw [insOuter_stop _ _ _ _ _ (by omega)]
def P2 (bs:Nat)(l:List α)(a:Nat)(d:Array α):Prop:=0<bs/\a<=l.length/\(∃ c,a=2 * bs * c)/\d=(cs lt (2 * bs) (l.take a) ++ cs lt bs (l.drop a)).toArray
theorem P2.start {bs:Nat}{l:List α}(hb:0<bs):P2 lt bs l 0 (cs lt bs l).toArray:=⟨hb,Kh _,⟨0,rfl⟩,by simp [cs_nil]⟩
theorem P2.parts (hO:SWO lt){bs:Nat}{l:List α}{a:Nat}{d:Array α}(h:P2 lt bs l a d)(hb:a+2 * bs<=l.length):∃ X u v Y,d=(X ++ u ++ v ++ Y).toArray/\a=X.length/\a+bs=a+u.length/\a+2 * bs=a+bs+v.length/\Srt lt u/\Srt lt v/\P2 lt bs l (a+2 * bs) (X ++ mg lt u v ++ Y).toArray:=by
 obtain ⟨h0,h1,⟨c,h2⟩,rfl⟩:=h;have hl1:((l.drop a).take bs).length=bs:=by simp;omega
 have hl2:(((l.drop a).drop bs).take bs).length=bs:=by simp;omega
 have ed:l.drop a=(l.drop a).take bs ++ (((l.drop a).drop bs).take bs ++ l.drop (a+2 * bs)):=by
  conv=>lhs;rw [<-Jt bs (l.drop a),<-Jt bs ((l.drop a).drop bs),Zr,Zr]
  rw [show a+bs+bs=a+2 * bs by omega,Zr]
 refine ⟨cs lt (2 * bs) (l.take a),insS lt ((l.drop a).take bs),insS lt (((l.drop a).drop bs).take bs),cs lt bs (l.drop (a+2 * bs)),?_,?_,?_,?_,srt_insS lt hO _,srt_insS lt hO _,h0,hb,⟨c+1,by rw [Nat.mul_succ];omega⟩,?_⟩
 ·have e:cs lt bs (l.drop a)=insS lt ((l.drop a).take bs) ++ (insS lt (((l.drop a).drop bs).take bs) ++ cs lt bs (l.drop (a+2 * bs))):=by
   conv=>lhs;rw [ed]
   rw [cs_append lt bs h0 1 _ _ (by omega),cs_append lt bs h0 1 _ _ (by omega),cs_short lt bs _ h0 (by omega),cs_short lt bs _ h0 (by omega)]
  rw [e];simp
 ·rw [cs_length lt (2 * bs) (by omega) _ _ lr];simp;omega
 ·rw [insS_length,hl1]
 ·rw [insS_length,hl2];omega
 ·have e:l.take (a+2 * bs)=l.take a ++ ((l.drop a).take bs ++ ((l.drop a).drop bs).take bs):=by rw [List.take_add];congr 1;rw [show 2 * bs=bs+bs by omega,List.take_add]
  rw [e,cs_append lt (2 * bs) (by omega) c _ _ (by simp;omega),cs_short lt (2 * bs) ((l.drop a).take bs ++ ((l.drop a).drop bs).take bs) (by omega) (by rw [Kw,hl1,hl2];omega),insS_append lt hO]
theorem P2.last (hO:SWO lt){bs:Nat}{l:List α}{a:Nat}{d:Array α}(h:P2 lt bs l a d)(hb:l.length<a+2 * bs)(ha:a+bs<l.length):∃ X u v Y,d=(X ++ u ++ v ++ Y).toArray/\a=X.length/\a+bs=a+u.length/\l.length=a+bs+v.length/\Srt lt u/\Srt lt v/\(X ++ mg lt u v ++ Y).toArray=(cs lt (2 * bs) l).toArray:=by
 obtain ⟨h0,h1,⟨c,h2⟩,rfl⟩:=h;have hl1:((l.drop a).take bs).length=bs:=by simp;omega
 have ed:l.drop a=(l.drop a).take bs ++ (l.drop a).drop bs:=(Jt _ _).symm;refine ⟨cs lt (2 * bs) (l.take a),insS lt ((l.drop a).take bs),insS lt ((l.drop a).drop bs),[],?_,?_,?_,?_,srt_insS lt hO _,srt_insS lt hO _,?_⟩
 ·have e:cs lt bs (l.drop a)=insS lt ((l.drop a).take bs) ++ insS lt ((l.drop a).drop bs):=by
   conv=>lhs;rw [ed]
   rw [cs_append lt bs h0 1 _ _ (by omega),cs_short lt bs _ h0 (by omega),cs_short lt bs _ h0 (by simp;omega)]
  rw [e];simp
 ·rw [cs_length lt (2 * bs) (by omega) _ _ lr];simp;omega
 ·rw [insS_length,hl1]
 ·rw [insS_length];simp;omega
 ·have e:=cs_append lt (2 * bs) (by omega) c (l.take a) (l.drop a) (by simp;omega);rw [Jt,cs_short lt (2 * bs) (l.drop a) (by omega) (by simp;omega)] at e;rw [e,<-insS_append lt hO,<-ed];simp
theorem P2.done {bs:Nat}{l:List α}{a:Nat}{d:Array α}(h:P2 lt bs l a d)(ha:¬ a+bs<l.length):d=(cs lt (2 * bs) l).toArray:=by obtain ⟨h0,h1,⟨c,h2⟩,rfl⟩:=h;have e:=cs_append lt (2 * bs) (by omega) c (l.take a) (l.drop a) (by simp;omega);rw [Jt,cs_short lt (2 * bs) (l.drop a) (by omega) (by simp;omega)] at e;rw [e,cs_short lt bs (l.drop a) h0 (by simp;omega)]
end
end Go.Proofs.YtjdhaacmlpegoaaGreatDoor
