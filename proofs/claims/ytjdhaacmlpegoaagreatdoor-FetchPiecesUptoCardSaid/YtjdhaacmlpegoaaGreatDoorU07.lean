/- Part 7 of what the proof needs: B4. -/
import Derived.Test.YtjdhaacmlpegoaaGreatDoorU06
import Derived.RangeFuncNested
import Derived.RangeFuncBound
import Derived.Shelf.RegionOpen
import Derived.OwnWalkIn
import Derived.LoopNIn
import Derived.LoopIn
set_option maxRecDepth 20000
set_option maxHeartbeats 16000000
set_option linter.unusedSimpArgs false
set_option linter.unusedVariables false
namespace Go.Proofs.YtjdhaacmlpegoaaGreatDoor
open Go.RowKit
theorem fld_dir0 (a b c:Bool)(d:Int)(w:World):(Instr.field 228 (.agg #[.bool a,.bool b,.bool c,.int .i64 d]) 0).run Tryz.prog w = .ok (.bool a) w:=by simp [Instr.field,run_underlying Tryz.underlying228,go_sem,asAgg]
attribute [local go_sem] fld_dir0
def okSt (st:Int):Bool:=decide (st=200\/st=203\/st=301\/st=308\/st=404\/st=410)
def storL (st:Int)(rq hs:List Hd):Bool:=okSt st && (!((dirL rq).ns || (dirL hs).ns || (varyL hs).contains [42]) && (decide (0<lifeL hs) || !(chkL hs).isEmpty))
theorem contS_is (ps:List ByteArray)(L:List (List UInt8))(h:lists ps=L):Lib.containsS ps ⟨#[42]⟩=L.contains [42]:=by
 rw [Zm,Lib.containsS_iff,<-h,List.contains_iff_mem];unfold lists;constructor
 ·intro hm;exact List.mem_map.2 ⟨_,hm,rfl⟩
 ·intro hm;obtain ⟨p,hp,he⟩:=List.mem_map.1 hm;have:p=⟨#[42]⟩:=ba_ext' he
  rwa [this] at hp
theorem star_is (ps:List ByteArray)(L:List (List UInt8))(hl:lists ps=L)(a:Option Addr)(c:Nat)(B:Nat)(w:World)(hown:w.ownsRow B 9 1 (.slice a ps.length c) ps.length (strsV ps))(hn:ps.length<=9223372036854775807)(R:Bool)(hR:L.contains [42]=R):
 Calls Tryz.prog 103 #[.slice a ps.length c,.string ⟨#[42]⟩] w fun e w'=>e = .returned (.bool R)/\w=w':=by
 obtain ⟨_,_,hve,hlc,hlm,hra⟩:=own_reads hown;injection hve with e1 _ e3;subst e1 e3;rcases hra with ⟨rfl,h0⟩ | ⟨g,rfl,hgB,hgw,hcg⟩
 ·have hp:ps=[]:=Ja h0;subst hp;have hLe:L=[]:=hl.symm;subst hLe;subst hR;refine (Tryz.slices_Contains_string_empty none c ⟨#[42]⟩ w).mono ?_;rintro e w' ⟨rfl,rfl⟩;exact ⟨rfl,rfl⟩
 ·refine (Tryz.slices_Contains_string g 0 ps.length c ps ⟨#[42]⟩ w lr hn (fun j hj=>by rw [Jm];exact hcg j _ (by simp [strsV,hj]))).mono ?_;rintro e w' ⟨rfl,rfl⟩;exact ⟨ret_bool (by rw [Jq,contS_is ps L hl,hR]),rfl⟩
theorem st_cases (st:Int):(okSt st=true/\(st=200\/st=203\/st=301\/st=308\/st=404\/st=410))\/(okSt st=false/\st≠200/\st≠203/\st≠301/\st≠308/\st≠404/\st≠410):=by
 unfold okSt;by_cases h:st=200\/st=203\/st=301\/st=308\/st=404\/st=410
 ·exact .inl ⟨Kx h,h⟩
 ·exact .inr ⟨Kj h,by omega⟩
theorem N6{p:Prop}(h:p:=by
 go_enter Tryz.func192,Tryz.ntmps192
 go_wp2_with
  (first
    | (with_reducible refine (CD1.out _ hM hv).mono ?_;rintro e w1 ⟨rfl,hb1⟩;have hM1:=hM.below hb1 lr;have hw1:=hw.below hb1 lr)
    | (with_reducible refine (CD2.out _ hM1 hw1).mono ?_;rintro e w2 ⟨rfl,hb2⟩;have hB2:=Kd hb1 hb2;have hM2:=hM.below hB2 lr;have hw2:=hw.below hB2 lr)
    | (with_reducible refine (CV.out _ hM2 hw2).mono ?_;rintro e w3 hq;obtain ⟨ps,pa,pc,rfl,hown,hps,hb3⟩:=wordsq_open hq;clear hq;have hB3:=Kd hB2 hb3;have hM3:=hM.below hB3 lr;have hw3:=hw.below hB3 lr;have HPS:=Kb hps;clear hps;have hpn:ps.length<=9223372036854775807:=(by obtain ⟨_,_,hve,hlc,hlm,_⟩:=own_reads hown;unfold maxLen at hlm;omega))
    | (with_reducible refine (star_is ps L HPS.out pa pc _ w3 hown hpn _ HS.out).mono ?_;rintro e w4 ⟨rfl,rfl⟩)
    | (with_reducible refine (CL.out _ hM3 hw3).mono ?_;rintro e w5 ⟨rfl,hb5⟩;have hB5:=Kd hB3 hb5;have hw5:=hw.below hB5 lr)
    | (with_reducible refine (CC.out _ hw5).mono ?_;rintro e w6 hq;rcases hdsq_open hq with ⟨hk,rfl,hb6⟩ | ⟨hk,g,c,rfl,_,hb6⟩ <;> clear hq))
 first
  |go_ret;exact ⟨ret_bool (by rw [<-HR.out,HOK.out];simp),hb1⟩
  |go_ret
   exact ⟨ret_bool (by rw [<-HR.out,HOK.out];simp),hB2⟩
  |go_ret
   exact ⟨ret_bool (by rw [<-HR.out,HOK.out];simp),hB3⟩
  |go_ret
   exact ⟨ret_bool (by rw [<-HR.out,HOK.out,hd];rfl),hB5⟩
  |all_goals
    go_ret
    exact ⟨ret_bool (by rw [<-HR.out,HOK.out,HD.out];cases K <;> simp at hk ⊢),Kd hB5 hb6⟩
 ):p:=h
theorem stor_is (st:Int)(rq hs:List Hd)(v vh:Value)(w:World)(hM:MaxAt w)(hv:SlK hdC 2 w v rq)(hw:SlK hdC 2 w vh hs)(hz:HdSz rq)(hy:HdSz hs)(R:Bool)(hR:storL st rq hs=R):
 Calls Tryz.prog 192 #[.int .i64 st,v,vh] w fun e w'=>e = .returned (.bool R)/\Below w.heap.size w w':=by
 unfold storL at hR;have hlb:=lifeL_bd hs;obtain ⟨D1,hD1⟩:∃ D,dirL rq=D:=⟨_,rfl⟩
 obtain ⟨D2,hD2⟩:∃ D,dirL hs=D:=⟨_,rfl⟩
 obtain ⟨L,hL⟩:=Ka (varyL hs);obtain ⟨S,hS⟩:=Ka (L.contains [42]);obtain ⟨F,hF⟩:=Ka (lifeL hs);obtain ⟨K,hK⟩:=Ka (chkL hs);rw [hD1,hD2,hL,hS,hF,hK] at hR;rw [hF] at hlb;have cD1:=fun w hM hv=>dir_is rq v w hM hv hz D1 hD1;have cD2:=fun w hM hv=>dir_is hs vh w hM hv hy D2 hD2;have CV:=Kb (fun w hM hv=>vary_is hs vh w hM hv hy L hL);have CL:=Kb (fun w hM hv=>life_is hs vh w hM hv hy F hF);have CC:=Kb (fun w hv=>chk_is hs vh w hv hy K hK);have HS:=Kb hS;have HR:=Kb hR;obtain ⟨sa,sc,rfl,_⟩:=hv.shape;obtain ⟨sb,sd,rfl,_⟩:=hw.shape;obtain ⟨a1,a2,a3,a4⟩:=D1;obtain ⟨b1,b2,b3,b4⟩:=D2;have CD1:=Kb (fun w hM hv=>(cD1 w hM hv).mono fun e w' (h:e=Ending.returned (dirA ⟨a1,a2,a3,a4⟩)/\Below w.heap.size w w')=>(show e=Ending.returned (.agg #[.bool a1,.bool a2,.bool a3,.int .i64 a4])/\Below w.heap.size w w' from h));have CD2:=Kb (fun w hM hv=>(cD2 w hM hv).mono fun e w' (h:e=Ending.returned (dirA ⟨b1,b2,b3,b4⟩)/\Below w.heap.size w w')=>(show e=Ending.returned (.agg #[.bool b1,.bool b2,.bool b3,.int .i64 b4])/\Below w.heap.size w w' from h));obtain ⟨hl1,hl2⟩:=hlb;have hst:=st_cases st;obtain ⟨ok,hok⟩:=Ka (okSt st);rw [hok] at hst;have HOK:=Kb hok;clear cD1 cD2 hD1 hD2 hL hS hF hK hR hz hy hok;rcases hst with ⟨rfl,hst⟩ | ⟨rfl,n1,n2,n3,n4,n5,n6⟩
 ·cases a1 with
  | true=>
    rcases hst with rfl | rfl | rfl | rfl | rfl | rfl
    all_goals
     exact N6
  | false=>
    cases b1 with
    | true=>
      rcases hst with rfl | rfl | rfl | rfl | rfl | rfl
      all_goals
       exact N6
    | false=>
      cases S with
      | true =>
        rcases hst with rfl | rfl | rfl | rfl | rfl | rfl
        all_goals
         exact N6
      | false =>
        by_cases hF0:0<F
        ·have hd:decide (0<F)=true:=Kx hF0
         rcases hst with rfl | rfl | rfl | rfl | rfl | rfl
         all_goals
          exact N6
        ·have hd:decide (0<F)=false:=Kj hF0
         have HD:=Kb hd
         rcases hst with rfl | rfl | rfl | rfl | rfl | rfl
         all_goals
          exact N6
 ·go_enter Tryz.func192,Tryz.ntmps192;go_wp2_with fail;go_ret;exact ⟨ret_bool (by rw [<-HR.out,HOK.out];rfl),Kc _⟩
end Go.Proofs.YtjdhaacmlpegoaaGreatDoor
namespace Go.Proofs.YtjdhaacmlpegoaaGreatDoor
open Go.RowKit
attribute [local go_sem] fld_dir0
end Go.Proofs.YtjdhaacmlpegoaaGreatDoor
namespace Go.Proofs.YtjdhaacmlpegoaaGreatDoor
open Go.RowKit
abbrev Ee:=Er × En
abbrev eeC (x:Ee):List Value:=erC x.1
abbrev eeA (x:Ee):Value:=erA x.1
abbrev hdA (h:Hd):Value:=.agg #[.string h.1,.string h.2]
def ee0:Ee:=(⟨⟨#[]⟩,.slice none 0 0,0,.slice none 0 0,⟨#[]⟩,0⟩,⟨⟨#[]⟩,[],0,[],⟨#[]⟩,0⟩)
def eeShp (x:Ee):Prop:=(∃ a n k,x.1.vv = .slice a n k)/\(∃ a n k,x.1.hv = .slice a n k)
theorem Rd.shp {w:World}{x:Ee}(h:Rd w x.1 x.2):eeShp x:=by obtain ⟨a,c,h1,_⟩:=h.va.shape;obtain ⟨a2,c2,h2,_⟩:=h.hd.shape;exact ⟨⟨_,_,_,h1⟩,⟨_,_,_,h2⟩⟩
theorem eezone:∀ v∈(eeA ee0).cells.toList,v.oneCell'=true:=by intro v hv;simp [ee0,Value.cells] at hv;rcases hv with rfl | rfl | rfl | rfl | rfl | rfl <;> rfl
theorem hdzone:∀ v∈(hdA (⟨#[]⟩,⟨#[]⟩)).cells.toList,v.oneCell'=true:=by intro v hv;simp [Value.cells] at hv;subst hv;rfl
theorem cellsG_take {α:Type}{enc:α->List Value}{k:Nat}(hk:∀ x,(enc x).length=k)(l:List α)(i:Nat)(hi:i<=l.length):(cellsK enc l).take (i * k)=cellsK enc (l.take i):=by
 conv=>lhs;rw [<-Jt i l,cellsK_app]
 rw [List.take_left' (by rw [cellsK_len hk,Jk,Zd hi])]
theorem cellsG_drop {α:Type}{enc:α->List Value}{k:Nat}(hk:∀ x,(enc x).length=k)(l:List α)(q:Nat)(h:q<=l.length):(cellsK enc l).drop (q * k)=cellsK enc (l.drop q):=by
 conv=>lhs;rw [<-Jt q l,cellsK_app]
 rw [List.drop_left' (by rw [cellsK_len hk,Jk,Zd h])]
theorem cellsK_set {α:Type}{enc:α->List Value}{k:Nat}(hk:∀ x,(enc x).length=k)(l:List α)(i:Nat)(hi:i<l.length)(c:α):cellsK enc (l.set i c)=(cellsK enc l).take (i * k) ++ (enc c ++ (cellsK enc l).drop (i * k+(enc c).length)):=by rw [cellsG_take hk l i (by omega),hk,show i * k+k=(i+1) * k by rw [Nat.add_mul,Nat.one_mul],cellsG_drop hk l (i+1) (by omega)];rw [List.set_eq_take_append_cons_drop,Kf hi,cellsK_app];simp [cellsK]
theorem own_setCells2 {b e s n g cap:Nat}:∀ (vs:List Value) (o:Nat) (w:World) (xs:List Value),w.ownsRow b e s (.slice (some ⟨g,0,none⟩) n cap) n xs->o+vs.length<=n * s ->
 (w.setCells g o vs).ownsRow b e s (.slice (some ⟨g,0,none⟩) n cap) n (xs.take o ++ (vs ++ xs.drop (o+vs.length))):=by
 intro vs
 induction vs with
 | nil=>
   intro o w xs h _
   show w.ownsRow b e s (.slice (some ⟨g,0,none⟩) n cap) n (xs.take o ++ ([] ++ xs.drop (o+0)))
   simpa using h
 | cons v r ih=>
   intro o w xs h ho
   rw [Kv] at ho
   have hx:xs.length=n * s:=h.1
   have h1:=ih (o+1) _ _ (own_set h o v (by omega)) (by omega)
   have e1:(xs.set o v).take (o+1)=xs.take o ++ [v]:=by
    rw [Jf (by rw [Zk];omega),List.getElem_set_self,List.take_set_of_le lr]
   have e2:(xs.set o v).drop (o+1+r.length)=xs.drop (o+(r.length+1)):=by
    rw [List.drop_set_of_lt (by omega),show o+1+r.length=o+(r.length+1) by omega]
   rw [e1,e2] at h1
   show ((w.setCell ⟨g,o,none⟩ v).setCells g (o+1) r).ownsRow b e s (.slice (some ⟨g,0,none⟩) n cap) n (xs.take o ++ (v :: r ++ xs.drop (o+(r.length+1))))
   simpa using h1
theorem BelowBut.toRow {n g:Nat}{w w':World}(h:BelowBut n g w w')(jb:Nat):RowBut n jb (some g) w w':=
 ⟨h.os,h.tape,h.output,h.size,fun k hk _ ho=>h.block k hk (fun e=>ho (by rw [e]))⟩
theorem filtg_start {α:Type}(p:α->Bool)(l:List α)(k:Nat)(h:idxI p l=k):∃ hk:k<l.length,p l[k]=true/\(l.take (k+1)).filter (fun c=>!p c)=l.take k:=by
 unfold idxI at h;by_cases ha:l.any p
 ·exact N51
 ·rw [Ke ha] at h;omega
theorem filtg_none {α:Type}(p:α->Bool)(l:List α)(h:idxI p l = -1):l.filter (fun c=>!p c)=l:=by
 unfold idxI at h;by_cases ha:l.any p
 ·rw [Kf ha] at h;omega
 ·rw [List.filter_eq_self];intro a hm;cases hq:p a with
  | false=>rfl
  | true=>exact absurd (List.any_eq_true.2 ⟨a,hm,hq⟩) ha
def DelQ {α:Type}(enc:α->List Value)(K T B:Nat)(w:World)(v:Value)(l':List α)(x:Ending)(w':World):Prop:=
 ∃ v',x = .returned v'/\w'.ownsRow B T K v' l'.length (cellsK enc l')/\v'.ownBlock=v.ownBlock/\∀ jb,RowBut w.heap.size jb v.ownBlock w w'
theorem delq_open {α:Type}{enc:α->List Value}{K T B:Nat}{w:World}{v:Value}{l':List α}{x:Ending}{w':World}(h:DelQ enc K T B w v l' x w'):
 ∃ a c,x = .returned (.slice a l'.length c)/\w'.ownsRow B T K (.slice a l'.length c) l'.length (cellsK enc l')/\(Value.slice a l'.length c).ownBlock=v.ownBlock/\∀ jb,RowBut w.heap.size jb v.ownBlock w w':=by obtain ⟨v',rfl,h1,h2,h3⟩:=h;obtain ⟨a,c,rfl,_⟩:=own_reads h1;exact ⟨a,c,rfl,h1,h2,h3⟩
abbrev eeput (W:World)(g o:Nat)(c:Ee):World:=((((((W.setCell ⟨g,o,none⟩ (.string c.1.u)).setCell ⟨g,o+1,none⟩ (c.1.vv)).setCell ⟨g,o+2,none⟩ (.int .i64 c.1.st)).setCell ⟨g,o+3,none⟩ (c.1.hv)).setCell ⟨g,o+4,none⟩ (.string c.1.bo)).setCell ⟨g,o+5,none⟩ (.int .i64 c.1.ti))
theorem eeput_eq (W:World)(g o:Nat)(c:Ee):eeput W g o c=W.setCells g o (eeC c):=rfl
theorem eelen (c:Ee):(eeC c).length=6:=rfl
theorem eeown_put {w:World}{b e n g cap:Nat}{l:List Ee}(hl:l.length=n)(h:w.ownsRow b e 6 (.slice (some ⟨g,0,none⟩) n cap) n (cellsK eeC l))(k:Nat)(hk:k<n)(c:Ee):
 (eeput w g (k * 6) c).ownsRow b e 6 (.slice (some ⟨g,0,none⟩) n cap) n (cellsK eeC (l.set k c)):=by rw [eeput_eq,cellsK_set eelen l k (by omega) c];exact own_setCells2 (eeC c) (k * 6) w _ h (by rw [eelen];omega)
theorem N38{p:Prop}(h:p:=by
 rw [hq] at hcall;have HQ:=Kb hq;have HCall:=Kb hcall;clear hq hcall;go_wp2_with (go_at_fn g;refine HCall.out.mono ?_;rintro e w' ⟨rfl,hb'⟩)
 go_roundw
 case rel=>
  refine ⟨kk+1,by omega,by go_num,BW.trans (hb'.mono hBs),fun j h hj=>?_⟩;by_cases e:j=kk
  ·subst e;rw [HY.out];exact HQ.out
  ·exact HA.out j h (by omega)
 case measure=>simp [intOf];omega
 ):p:=h
theorem N52{p:Prop}(h:p:=by
 rw [hq] at hcall;have HQ:=Kb hq;have HCall:=Kb hcall;clear hq hcall;go_wp2_with (go_at_fn g;refine HCall.out.mono ?_;rintro e w' ⟨rfl,hb'⟩)
 go_ret
 first
  |exact ⟨ret_int (by rw [<-HR.out];exact (idxI_hit p l kk hlt (by rw [HY.out];exact HQ.out) (fun j hj=>HA.out j (by omega) hj)).symm),BW.trans (hb'.mono hBs)⟩
  |exact ⟨ret_int (by rw [<-HR.out];exact (idxI_hit p l kk hlt (by rw [HY.out];exact HQ.out) (fun j hj=>HA.out j (by omega) hj)).symm),hb'⟩
 ):p:=h
theorem M26{p:Prop}(h:p:=by
 obtain rfl:kk=l.length:=by omega
 go_wp2;go_ret;exact ⟨ret_int (by rw [<-HR.out];exact (idxI_miss p l (fun j hj=>HA.out j hj hj)).symm),BW⟩
 ):p:=h
theorem eeidxf (p:Ee->Bool)(g:Nat)(cb:Array Value)(eg:∀ args w,(callFunc g args).run Tryz.prog w = .ok (.enter g args) w)(l:List Ee)(b off cap:Nat)(w:World)
 (hp:∀ W d,d∈l->Below w.heap.size w W->Calls Tryz.prog g (#[eeA d] ++ cb) W fun e W'=>e = .returned (.bool (p d))/\Below W.heap.size W W') (hn:l.length<=1000000) (hb:b<w.heap.size) (hc:∀ i (h:i<l.length) j u,(eeC l[i])[j]? = some u->w.cell? ⟨b,off+i * 6+j,none⟩=some u) (R:Int) (hR:idxI p l=R) :
 Calls Tryz.prog 242 #[.slice (some ⟨b,off,none⟩) l.length cap,.func (.func g) #[] cb] w fun e w'=>e = .returned (.int .i64 R)/\Below w.heap.size w w':=by
 have HR:=Kb hR;have HC:=Kb hc;have HP:=Kb hp;clear hR hc hp;go_enter Tryz.func242,Tryz.ntmps242;go_wp2;go_loopw [5,8] (fun _ s8 wr=>∃ kk:Nat,kk<=l.length/\s8 = .int .i64 kk/\Below w.heap.size w wr/\∀ j (h:j<l.length),j<kk->p l[j]=false) (fun _ s8 _=>l.length - (intOf s8).toNat);case atStart=>exact ⟨0,Kh _,rfl,Kc w,fun j _ hj=>absurd hj (Nat.not_lt_zero _)⟩
 case round=>
  obtain ⟨kk,hkk,rfl,BW,A⟩:=hrel;have HA:=Kb A;clear A;by_cases hlt:kk<l.length
  ·have hltz:(kk:Int)<(l.length:Int):=by omega
   have hcc:=HC.out kk hlt;have cc:∀ j u,(eeC l[kk])[j]? = some u->wr.cell? ⟨b,off+kk * 6+j,none⟩=some u:=fun j u hu=>(BW.cell (p:=⟨b,off+kk * 6+j,none⟩) hb).trans (hcc j u hu);have hcall:=HP.out wr l[kk] (Ky hlt) BW;obtain ⟨y,hy⟩:=Ka (l[kk]);rw [hy] at cc hcall;have HY:=Kb hy;have c0:=cc 0 _ rfl;have c1:=cc 1 _ rfl;have c2:=cc 2 _ rfl;have c3:=cc 3 _ rfl;have c4:=cc 4 _ rfl;have c5:=cc 5 _ rfl;simp only [Ku] at c0;clear cc hcc hy;have hBs:=BW.size;cases hq:p y with
   | true=>
     exact N52
   | false=>
     exact N38
  ·exact M26
theorem eeidx_nil (fv:Value)(a:Option Addr)(cap:Nat)(w:World):
 Calls Tryz.prog 242 #[.slice a 0 cap,fv] w fun e w'=>e = .returned (.int .i64 (-1))/\w=w':=by go_enter Tryz.func242,Tryz.ntmps242;go_wp2;refine wp_loop_rounds 1 ?_;rw [rounds_succ];go_wp2;go_ret;exact ⟨rfl,rfl⟩
theorem eeidx (p:Ee->Bool)(g:Nat)(cb:Array Value)(eg:∀ args w,(callFunc g args).run Tryz.prog w = .ok (.enter g args) w)(l:List Ee)(v:Value)(w:World)
 (hv:SlK eeC 6 w v l) (hp:∀ W d,d∈l->Below w.heap.size w W->Calls Tryz.prog g (#[eeA d] ++ cb) W fun e W'=>e = .returned (.bool (p d))/\Below W.heap.size W W') (hn:l.length<=1000000) (R:Int) (hR:idxI p l=R) :
 Calls Tryz.prog 242 #[v,.func (.func g) #[] cb] w fun e w'=>e = .returned (.int .i64 R)/\Below w.heap.size w w':=by
 rcases hv with ⟨rfl,a,cap,rfl,h2⟩ | ⟨h0,b,off,cap,rfl,h2,h3,h4,h5⟩
 ·subst hR;refine (eeidx_nil _ a cap w).mono ?_;rintro e w' ⟨rfl,rfl⟩;exact ⟨rfl,Kc _⟩
 ·exact eeidxf p g cb eg l b off cap w hp hn h4 h5 R hR
theorem eerow_cells {w:World}{b e n g cap:Nat}{l:List Ee}(hl:l.length=n)(h:w.ownsRow b e 6 (.slice (some ⟨g,0,none⟩) n cap) n (cellsK eeC l))(h0:0<n):b<=g/\g<w.heap.size/\∀ i (hi:i<l.length) j u,(eeC l[i])[j]? = some u->w.cell? ⟨g,i * 6+j,none⟩=some u:=by
 obtain ⟨a,cap',hv,hc,hm,ha⟩:=own_reads h;injection hv with e1 e2 e3;rcases ha with ⟨rfl,h1⟩ | ⟨g',rfl,hg,hgw,hcell⟩
 ·omega
 ·injection e1 with e1;injection e1 with e1;subst e1;exact ⟨hg,hgw,fun i hi j u hu=>hcell _ _ (cellsK_get eelen l i hi j u hu)⟩
theorem N56{p:Prop}(h:p:=by
 rw [hq] at hcall hfil;have HCall:=Kb hcall;have HF:=Kb hfil;clear hcall hfil hq;go_wp2_with (go_at_fn gf;refine HCall.out.mono ?_;rintro e w' ⟨rfl,hb'⟩)
 go_roundw;case rel=>have hbt:=hbA.trans (hb'.mono hbA.size);exact ⟨i,j+1,M,by omega,by omega,rfl,by go_num,hM,by rw [HMi.out,HF.out];simp,hdrop,own_below ho hbt lr,hbb.below hbt hbb.size⟩
 case measure=>simp [intOf];omega
 ):p:=h
theorem eedel_some (p:Ee->Bool)(gf:Nat)(cb:Array Value)(eg:∀ args w,(callFunc gf args).run Tryz.prog w = .ok (.enter gf args) w)(l:List Ee)(g cap:Nat)(w:World)(B:Nat)(hsh:∀ x∈l,eeShp x)
 (hown:w.ownsRow B 90 6 (.slice (some ⟨g,0,none⟩) l.length cap) l.length (cellsK eeC l))
 (hp:∀ W d,d∈l->BelowBut w.heap.size g w W->Calls Tryz.prog gf (#[eeA d] ++ cb) W fun e W'=>e = .returned (.bool (p d))/\Below W.heap.size W W')
 (hn:l.length<=1000) (k:Nat) (hR:idxI p l=k) :
 Calls Tryz.prog 190 #[.slice (some ⟨g,0,none⟩) l.length cap,.func (.func gf) #[] cb] w fun e w'=>
  e = .returned (.slice (some ⟨g,0,none⟩) (l.filter (fun c=>!p c)).length cap)/\w'.ownsRow B 90 6 (.slice (some ⟨g,0,none⟩) (l.filter (fun c=>!p c)).length cap) (l.filter (fun c=>!p c)).length (cellsK eeC (l.filter (fun c=>!p c)))/\BelowBut w.heap.size g w w':=by
 obtain ⟨hkl,hpk,hfk⟩:=filtg_start p l k hR;have CX:=Kb (eeidx p gf cb eg l _ w (SlK.of_own eelen hown) (fun W d hd hb=>hp W d hd ((BelowBut.refl _ g w).below hb lr)) (by omega) k hR);have HP:=Kb hp;have hk1:((k:Int) == -1)=false:=Ki.2 (by omega);clear hp hR;go_enter Tryz.func190,Tryz.ntmps190;go_wp2_with (with_reducible refine CX.out.mono ?_;rintro x w1 ⟨rfl,hb1⟩)
 have hown1:=own_below hown hb1 lr;have hbb1:BelowBut w.heap.size g w w1:=(BelowBut.refl _ g w).below hb1 lr;go_loopw [5,6] (fun iv jv wr=>∃ (i j:Nat) (M:List Ee),i<j/\j<=l.length/\iv = .int .i64 i/\jv = .int .i64 j/\M.length=l.length/\M.take i=(l.take j).filter (fun c=>!p c)/\M.drop j=l.drop j/\wr.ownsRow B 90 6 (.slice (some ⟨g,0,none⟩) l.length cap) l.length (cellsK eeC M)/\BelowBut w.heap.size g w wr) (fun _ jv _=>l.length - (intOf jv).toNat);case atStart=>exact ⟨k,k+1,l,by omega,by omega,rfl,by go_num,rfl,hfk.symm,rfl,hown1,hbb1⟩
 case round=>
  obtain ⟨i,j,M,hij,hjl,rfl,rfl,hM,hMi,hMj,ho,hbb⟩:=hrel;by_cases hlt:j<l.length
  ·obtain ⟨hBg,hgw,hcell⟩:=eerow_cells hM ho (by omega);have hfree:=own_free ho;have hy0:M[j]'(by omega)=l[j]:=by have e:=Kq List.head? hMj;rw [List.head?_drop,List.head?_drop,Jd (by omega),Jd hlt] at e;exact Zl e
   have cc:∀ q u,(eeC l[j])[q]? = some u->wr.cell? ⟨g,j * 6+q,none⟩=some u:=fun q u hu=>hcell j (by omega) q u (by rw [hy0];exact hu);have hdrop:M.drop (j+1)=l.drop (j+1):=by
    have e:=Kq (List.drop 1) hMj
    rwa [Zr,Zr] at e
   have hfil:(l.take (j+1)).filter (fun c=>!p c)=(l.take j).filter (fun c=>!p c) ++ (if p l[j] then [] else [l[j]]):=by rw [Jf hlt,Zs];cases hq:p l[j] <;> simp [hq]
   have hmem:=Ky hlt;have hsy:=hsh _ hmem;obtain ⟨y,hy⟩:=Ka (l[j]);rw [hy] at cc hfil hy0 hmem hsy;have HY:=Kb hy;have HC:=Kb cc;clear hy hcell;obtain ⟨⟨yu,yvv,yst,yhv,ybo,yti⟩,ye⟩:=y;obtain ⟨⟨a1,n1,k1,e1⟩,a2,n2,k2,e2⟩:=hsy;have e1:yvv = .slice a1 n1 k1:=e1;have e2:yhv = .slice a2 n2 k2:=e2;subst e1 e2;have c0:=cc 0 _ rfl;have c1:=cc 1 _ rfl;have c2:=cc 2 _ rfl;have c3:=cc 3 _ rfl;have c4:=cc 4 _ rfl;have c5:=cc 5 _ rfl;simp only [Ku] at c0;have YA:=AtL.new wr (eeC (⟨yu,.slice a1 n1 k1,yst,.slice a2 n2 k2,ybo,yti⟩,ye)) 90;have hbA:Below wr.heap.size wr (wr.alloc (.cells (eeC (⟨yu,.slice a1 n1 k1,yst,.slice a2 n2 k2,ybo,yti⟩,ye)).toArray 90)):=(Kc wr).alloc lr _;have hBwr:w.heap.size<=wr.heap.size:=hbb.size;have hcall:=HP.out _ (⟨yu,.slice a1 n1 k1,yst,.slice a2 n2 k2,ybo,yti⟩,ye) hmem (hbb.below hbA hBwr);have hji:(j:Int)<(l.length:Int):=by omega
   have hii:(i:Int)<(l.length:Int):=by omega
   have hIc:=(eerow_cells hM ho (by omega)).2.2 i (by omega);have HIc:=Kb hIc;have HMi:=Kb hMi;clear cc hIc hMi hmem;cases hq:p (⟨yu,.slice a1 n1 k1,yst,.slice a2 n2 k2,ybo,yti⟩,ye) with
   | true=>
     exact N56
   | false=>
     rw [hq] at hcall hfil;have HCall:=Kb hcall;have HF:=Kb hfil;clear hcall hfil hq;go_wp2_with (go_at_fn gf;refine HCall.out.mono ?_;rintro e w' ⟨rfl,hb'⟩;have hbt:=hbA.trans (hb'.mono hbA.size);have Y2:=YA.next hb';have z_:=Y2.o6;have hzl:=Y2.lt;have o2:=own_below ho hbt lr;have r0:=(brl hbt _ _ hgw).trans (HIc.out 0 _ rfl);have r1:=(brl hbt _ _ hgw).trans (HIc.out 1 _ rfl);have r2:=(brl hbt _ _ hgw).trans (HIc.out 2 _ rfl);have r3:=(brl hbt _ _ hgw).trans (HIc.out 3 _ rfl);have r4:=(brl hbt _ _ hgw).trans (HIc.out 4 _ rfl);have r5:=(brl hbt _ _ hgw).trans (HIc.out 5 _ rfl);simp only [Ku] at r0;have f0:=own_free o2 (i * 6);have f1:=own_free o2 (i * 6+1);have f2:=own_free o2 (i * 6+2);have f3:=own_free o2 (i * 6+3);have f4:=own_free o2 (i * 6+4);have f5:=own_free o2 (i * 6+5))
     go_roundw
     case rel=>
      have o4:=eeown_put hM o2 i (by omega) (⟨yu,.slice a1 n1 k1,yst,.slice a2 n2 k2,ybo,yti⟩,ye);have hb3:=hbb.below hbt hbb.size;have hb4:BelowBut w.heap.size g w (eeput w' g (i * 6) (⟨yu,.slice a1 n1 k1,yst,.slice a2 n2 k2,ybo,yti⟩,ye)):=by rw [eeput_eq];exact BelowBut.setCells _ _ _ hb3
      refine ⟨i+1,j+1,M.set i (⟨yu,.slice a1 n1 k1,yst,.slice a2 n2 k2,ybo,yti⟩,ye),by omega,by omega,by go_num,by go_num,by rw [Zk];exact hM,?_,?_,o4,hb4⟩
      ·rw [HF.out,<-HMi.out,Jf (by rw [Zk];omega)];simp [List.take_set_of_le]
      ·rw [<-hdrop,List.drop_set_of_lt (by omega)]
     case measure=>simp [intOf];omega
  ·obtain rfl:j=l.length:=by omega
   have hin:(i:Int)<=(l.length:Int):=by omega
   have hcap:l.length<=cap:=by obtain ⟨a2,c2,hv2,hc2,_,_⟩:=own_reads ho;injection hv2 with _ _ e3;omega
   have hic:(i:Int)<=(cap:Int):=by omega
   have hlc:(l.length:Int)<=(cap:Int):=by omega
   have hic':¬ cap=i:=by omega
   have hfil:(l.filter (fun c=>!p c)).length=i:=by have e:=Kq List.length hMi;rw [Jq,Jk,hM,Zd (by omega)] at e;exact e.symm
   have hfr:∀ j,j<(l.length - i) * 6->wr.frozen? ⟨g,i * 6+j,none⟩=false:=fun j _=>own_free ho _;have hce:∀ j,j<(l.length - i) * 6->(wr.cell? ⟨g,i * 6+j,none⟩).isSome=true:=fun j hj=>by
    obtain ⟨a2,c2,hv2,_,_,ha2⟩:=own_reads ho;injection hv2 with e1 _ _;rcases ha2 with ⟨rfl,_⟩ | ⟨g',rfl,_,_,hcc⟩
    ·cases e1
    ·injection e1 with e1;injection e1 with e1;subst e1;have hlt:i * 6+j<(cellsK eeC M).length:=by rw [cellsK_len eelen,hM];omega
     rw [hcc _ _ (Jd hlt)];rfl
   obtain ⟨zs,hzl,hcl⟩:=run_clearK (P:=Tryz.prog) wr 25 90 0 (eeA ee0) 6 Tryz.underlying25 (zero_run (by kernel_rfl)) rfl eezone g (i * 6) (l.length - i) (cap - i) (by omega) (by decide) hce hfr;obtain ⟨xs',hx1,hx2⟩:=own_setCells zs (i * 6) wr (cellsK eeC M) ho (by rw [hzl];omega);have hr:=own_cut hx1 i (by omega);rw [hx2,cellsG_take eelen M i (by omega),hMi,Jq] at hr;have hbz:=BelowBut.setCells zs (i * 6) wr hbb;clear hx1 hx2 hfr hce hzl hMi hMj ho hbb;have hr':(wr.setCells g (i * 6) zs).ownsRow B 90 6 (.slice (some ⟨g,0,none⟩) (l.filter (fun c=>!p c)).length cap) (l.filter (fun c=>!p c)).length (cellsK eeC (l.filter (fun c=>!p c))):=by rw [hfil];exact hr
   have HF:=Kb hfil;clear hfil;go_wp2_with fail;go_ret;exact ⟨by rw [HF.out];rfl,hr',hbz⟩
theorem eedel_none (p:Ee->Bool)(g:Nat)(cb:Array Value)(eg:∀ args w,(callFunc g args).run Tryz.prog w = .ok (.enter g args) w)(l:List Ee)(v:Value)(w:World)
 (hv:SlK eeC 6 w v l) (hp:∀ W d,d∈l->Below w.heap.size w W->Calls Tryz.prog g (#[eeA d] ++ cb) W fun e W'=>e = .returned (.bool (p d))/\Below W.heap.size W W') (hn:l.length<=1000000) (hR:idxI p l = -1) :
 Calls Tryz.prog 190 #[v,.func (.func g) #[] cb] w fun e w'=>e = .returned v/\Below w.heap.size w w':=by
 have CX:=Kb (eeidx p g cb eg l v w hv hp hn (-1) hR);obtain ⟨sa,sc,rfl,_⟩:=hv.shape;clear hv hp hR;go_enter Tryz.func190,Tryz.ntmps190;go_wp2_with (with_reducible refine CX.out.mono ?_;rintro x w1 ⟨rfl,hb1⟩)
 go_ret;exact ⟨rfl,hb1⟩
theorem N64{p:Prop}(h:p:=by
 obtain ⟨k,hk⟩:∃ k:Nat,idxI p l=k:=by
  unfold idxI at hR ⊢;split
  ·exact ⟨_,rfl⟩
  ·next h=>rw [Ke h] at hR;exact absurd rfl hR
 obtain ⟨hkl,-,-⟩:=filtg_start p l k hk;obtain ⟨a,cap,rfl,_,_,ha⟩:=own_reads hown;rcases ha with ⟨_,h0⟩ | ⟨g,rfl,_⟩
 first
  |·omega
   ·refine (eedel_some p gf cb eg l g cap w B hsh hown (fun W d hd hb=>hp W d hd (fun jb=>hb.toRow jb)) hn k hk).mono ?_;rintro e w' ⟨rfl,ho,hb⟩;exact ⟨_,rfl,ho,rfl,fun jb=>hb.toRow jb⟩
  |·omega
   ·refine (hddel_some p gf cb eg l g cap w B hown (fun W d hd hb=>hp W d hd (fun jb=>hb.toRow jb)) hn k hk).mono ?_;rintro e w' ⟨rfl,ho,hb⟩;exact ⟨_,rfl,ho,rfl,fun jb=>hb.toRow jb⟩
 ):p:=h
theorem eedel (p:Ee->Bool)(gf:Nat)(cb:Array Value)(eg:∀ args w,(callFunc gf args).run Tryz.prog w = .ok (.enter gf args) w)(l:List Ee)(v:Value)(w:World)(B:Nat)(hsh:∀ x∈l,eeShp x)
 (hown:w.ownsRow B 90 6 v l.length (cellsK eeC l))
 (hp:∀ W d,d∈l->(∀ jb,RowBut w.heap.size jb v.ownBlock w W)->Calls Tryz.prog gf (#[eeA d] ++ cb) W fun e W'=>e = .returned (.bool (p d))/\Below W.heap.size W W')
 (hn:l.length<=1000) :
 Calls Tryz.prog 190 #[v,.func (.func gf) #[] cb] w (DelQ eeC 6 90 B w v (l.filter (fun c=>!p c))):=by
 have hq:∀ W d,d∈l->Below w.heap.size w W->Calls Tryz.prog gf (#[eeA d] ++ cb) W fun e W'=>e = .returned (.bool (p d))/\Below W.heap.size W W':=fun W d hd hb=>hp W d hd (fun jb=>(RowBut.refl _ jb _ w).below hb lr);by_cases hR:idxI p l = -1
 ·refine (eedel_none p gf cb eg l v w (SlK.of_own eelen hown) hq (by omega) hR).mono ?_;rintro e w' ⟨rfl,hb⟩;rw [filtg_none p l hR];exact ⟨v,rfl,own_below hown hb lr,rfl,fun jb=>(RowBut.refl _ jb _ w).below hb lr⟩
 ·exact N64
abbrev hdput (W:World)(g o:Nat)(c:Hd):World:=((W.setCell ⟨g,o,none⟩ (.string c.1)).setCell ⟨g,o+1,none⟩ (.string c.2))
theorem hdput_eq (W:World)(g o:Nat)(c:Hd):hdput W g o c=W.setCells g o (hdC c):=rfl
theorem hdlen (c:Hd):(hdC c).length=2:=rfl
theorem hdown_put {w:World}{b e n g cap:Nat}{l:List Hd}(hl:l.length=n)(h:w.ownsRow b e 2 (.slice (some ⟨g,0,none⟩) n cap) n (cellsK hdC l))(k:Nat)(hk:k<n)(c:Hd):
 (hdput w g (k * 2) c).ownsRow b e 2 (.slice (some ⟨g,0,none⟩) n cap) n (cellsK hdC (l.set k c)):=by rw [hdput_eq,cellsK_set hdlen l k (by omega) c];exact own_setCells2 (hdC c) (k * 2) w _ h (by rw [hdlen];omega)
theorem hdidxf (p:Hd->Bool)(g:Nat)(cb:Array Value)(eg:∀ args w,(callFunc g args).run Tryz.prog w = .ok (.enter g args) w)(l:List Hd)(b off cap:Nat)(w:World)
 (hp:∀ W d,d∈l->Below w.heap.size w W->Calls Tryz.prog g (#[hdA d] ++ cb) W fun e W'=>e = .returned (.bool (p d))/\Below W.heap.size W W') (hn:l.length<=1000000) (hb:b<w.heap.size) (hc:∀ i (h:i<l.length) j u,(hdC l[i])[j]? = some u->w.cell? ⟨b,off+i * 2+j,none⟩=some u) (R:Int) (hR:idxI p l=R) :
 Calls Tryz.prog 184 #[.slice (some ⟨b,off,none⟩) l.length cap,.func (.func g) #[] cb] w fun e w'=>e = .returned (.int .i64 R)/\Below w.heap.size w w':=by
 have HR:=Kb hR;have HC:=Kb hc;have HP:=Kb hp;clear hR hc hp;go_enter Tryz.func184,Tryz.ntmps184;go_wp2;go_loopw [5,8] (fun _ s8 wr=>∃ kk:Nat,kk<=l.length/\s8 = .int .i64 kk/\Below w.heap.size w wr/\∀ j (h:j<l.length),j<kk->p l[j]=false) (fun _ s8 _=>l.length - (intOf s8).toNat);case atStart=>exact ⟨0,Kh _,rfl,Kc w,fun j _ hj=>absurd hj (Nat.not_lt_zero _)⟩
 case round=>
  obtain ⟨kk,hkk,rfl,BW,A⟩:=hrel;have HA:=Kb A;clear A;by_cases hlt:kk<l.length
  ·have hltz:(kk:Int)<(l.length:Int):=by omega
   have hcc:=HC.out kk hlt;have cc:∀ j u,(hdC l[kk])[j]? = some u->wr.cell? ⟨b,off+kk * 2+j,none⟩=some u:=fun j u hu=>(BW.cell (p:=⟨b,off+kk * 2+j,none⟩) hb).trans (hcc j u hu);have hcall:=HP.out wr l[kk] (Ky hlt) BW;obtain ⟨y,hy⟩:=Ka (l[kk]);rw [hy] at cc hcall;have HY:=Kb hy;have c0:=cc 0 _ rfl;have c1:=cc 1 _ rfl;simp only [Ku] at c0;clear cc hcc hy;have hBs:=BW.size;cases hq:p y with
   | true=>
     exact N52
   | false=>
     exact N38
  ·exact M26
theorem hdidx_nil (fv:Value)(a:Option Addr)(cap:Nat)(w:World):
 Calls Tryz.prog 184 #[.slice a 0 cap,fv] w fun e w'=>e = .returned (.int .i64 (-1))/\w=w':=by go_enter Tryz.func184,Tryz.ntmps184;go_wp2;refine wp_loop_rounds 1 ?_;rw [rounds_succ];go_wp2;go_ret;exact ⟨rfl,rfl⟩
theorem hdidx (p:Hd->Bool)(g:Nat)(cb:Array Value)(eg:∀ args w,(callFunc g args).run Tryz.prog w = .ok (.enter g args) w)(l:List Hd)(v:Value)(w:World)
 (hv:SlK hdC 2 w v l) (hp:∀ W d,d∈l->Below w.heap.size w W->Calls Tryz.prog g (#[hdA d] ++ cb) W fun e W'=>e = .returned (.bool (p d))/\Below W.heap.size W W') (hn:l.length<=1000000) (R:Int) (hR:idxI p l=R) :
 Calls Tryz.prog 184 #[v,.func (.func g) #[] cb] w fun e w'=>e = .returned (.int .i64 R)/\Below w.heap.size w w':=by
 rcases hv with ⟨rfl,a,cap,rfl,h2⟩ | ⟨h0,b,off,cap,rfl,h2,h3,h4,h5⟩
 ·subst hR;refine (hdidx_nil _ a cap w).mono ?_;rintro e w' ⟨rfl,rfl⟩;exact ⟨rfl,Kc _⟩
 ·exact hdidxf p g cb eg l b off cap w hp hn h4 h5 R hR
theorem hdrow_cells {w:World}{b e n g cap:Nat}{l:List Hd}(hl:l.length=n)(h:w.ownsRow b e 2 (.slice (some ⟨g,0,none⟩) n cap) n (cellsK hdC l))(h0:0<n):b<=g/\g<w.heap.size/\∀ i (hi:i<l.length) j u,(hdC l[i])[j]? = some u->w.cell? ⟨g,i * 2+j,none⟩=some u:=by
 obtain ⟨a,cap',hv,hc,hm,ha⟩:=own_reads h;injection hv with e1 e2 e3;rcases ha with ⟨rfl,h1⟩ | ⟨g',rfl,hg,hgw,hcell⟩
 ·omega
 ·injection e1 with e1;injection e1 with e1;subst e1;exact ⟨hg,hgw,fun i hi j u hu=>hcell _ _ (cellsK_get hdlen l i hi j u hu)⟩
theorem hddel_some (p:Hd->Bool)(gf:Nat)(cb:Array Value)(eg:∀ args w,(callFunc gf args).run Tryz.prog w = .ok (.enter gf args) w)(l:List Hd)(g cap:Nat)(w:World)(B:Nat)
 (hown:w.ownsRow B 70 2 (.slice (some ⟨g,0,none⟩) l.length cap) l.length (cellsK hdC l))
 (hp:∀ W d,d∈l->BelowBut w.heap.size g w W->Calls Tryz.prog gf (#[hdA d] ++ cb) W fun e W'=>e = .returned (.bool (p d))/\Below W.heap.size W W')
 (hn:l.length<=1000) (k:Nat) (hR:idxI p l=k) :
 Calls Tryz.prog 121 #[.slice (some ⟨g,0,none⟩) l.length cap,.func (.func gf) #[] cb] w fun e w'=>
  e = .returned (.slice (some ⟨g,0,none⟩) (l.filter (fun c=>!p c)).length cap)/\w'.ownsRow B 70 2 (.slice (some ⟨g,0,none⟩) (l.filter (fun c=>!p c)).length cap) (l.filter (fun c=>!p c)).length (cellsK hdC (l.filter (fun c=>!p c)))/\BelowBut w.heap.size g w w':=by
 obtain ⟨hkl,hpk,hfk⟩:=filtg_start p l k hR;have CX:=Kb (hdidx p gf cb eg l _ w (SlK.of_own hdlen hown) (fun W d hd hb=>hp W d hd ((BelowBut.refl _ g w).below hb lr)) (by omega) k hR);have HP:=Kb hp;have hk1:((k:Int) == -1)=false:=Ki.2 (by omega);clear hp hR;go_enter Tryz.func121,Tryz.ntmps121;go_wp2_with (with_reducible refine CX.out.mono ?_;rintro x w1 ⟨rfl,hb1⟩)
 have hown1:=own_below hown hb1 lr;have hbb1:BelowBut w.heap.size g w w1:=(BelowBut.refl _ g w).below hb1 lr;go_loopw [5,6] (fun iv jv wr=>∃ (i j:Nat) (M:List Hd),i<j/\j<=l.length/\iv = .int .i64 i/\jv = .int .i64 j/\M.length=l.length/\M.take i=(l.take j).filter (fun c=>!p c)/\M.drop j=l.drop j/\wr.ownsRow B 70 2 (.slice (some ⟨g,0,none⟩) l.length cap) l.length (cellsK hdC M)/\BelowBut w.heap.size g w wr) (fun _ jv _=>l.length - (intOf jv).toNat);case atStart=>exact ⟨k,k+1,l,by omega,by omega,rfl,by go_num,rfl,hfk.symm,rfl,hown1,hbb1⟩
 case round=>
  obtain ⟨i,j,M,hij,hjl,rfl,rfl,hM,hMi,hMj,ho,hbb⟩:=hrel;by_cases hlt:j<l.length
  ·obtain ⟨hBg,hgw,hcell⟩:=hdrow_cells hM ho (by omega);have hfree:=own_free ho;have hy0:M[j]'(by omega)=l[j]:=by have e:=Kq List.head? hMj;rw [List.head?_drop,List.head?_drop,Jd (by omega),Jd hlt] at e;exact Zl e
   have cc:∀ q u,(hdC l[j])[q]? = some u->wr.cell? ⟨g,j * 2+q,none⟩=some u:=fun q u hu=>hcell j (by omega) q u (by rw [hy0];exact hu);have hdrop:M.drop (j+1)=l.drop (j+1):=by
    have e:=Kq (List.drop 1) hMj
    rwa [Zr,Zr] at e
   have hfil:(l.take (j+1)).filter (fun c=>!p c)=(l.take j).filter (fun c=>!p c) ++ (if p l[j] then [] else [l[j]]):=by rw [Jf hlt,Zs];cases hq:p l[j] <;> simp [hq]
   have hmem:=Ky hlt;obtain ⟨y,hy⟩:=Ka (l[j]);rw [hy] at cc hfil hy0 hmem;have HY:=Kb hy;have HC:=Kb cc;clear hy hcell;obtain ⟨yn,yv⟩:=y;have c0:=cc 0 _ rfl;have c1:=cc 1 _ rfl;simp only [Ku] at c0;have YA:=AtL.new wr (hdC (yn,yv)) 70;have hbA:Below wr.heap.size wr (wr.alloc (.cells (hdC (yn,yv)).toArray 70)):=(Kc wr).alloc lr _;have hBwr:w.heap.size<=wr.heap.size:=hbb.size;have hcall:=HP.out _ (yn,yv) hmem (hbb.below hbA hBwr);have hji:(j:Int)<(l.length:Int):=by omega
   have hii:(i:Int)<(l.length:Int):=by omega
   have hIc:=(hdrow_cells hM ho (by omega)).2.2 i (by omega);have HIc:=Kb hIc;have HMi:=Kb hMi;clear cc hIc hMi hmem;cases hq:p (yn,yv) with
   | true =>
     exact N56
   | false =>
     rw [hq] at hcall hfil;have HCall:=Kb hcall;have HF:=Kb hfil;clear hcall hfil hq;go_wp2_with (go_at_fn gf;refine HCall.out.mono ?_;rintro e w' ⟨rfl,hb'⟩;have hbt:=hbA.trans (hb'.mono hbA.size);have Y2:=YA.next hb';have z0:=Y2.c 0 rfl;have z1:=Y2.c 1 rfl;have hzl:=Y2.lt;have o2:=own_below ho hbt lr;have r0:=(brl hbt _ _ hgw).trans (HIc.out 0 _ rfl);have r1:=(brl hbt _ _ hgw).trans (HIc.out 1 _ rfl);simp only [Ku] at r0;have f0:=own_free o2 (i * 2);have f1:=own_free o2 (i * 2+1))
     go_roundw
     case rel=>
      have o4:=hdown_put hM o2 i (by omega) (yn,yv);have hb3:=hbb.below hbt hbb.size;have hb4:BelowBut w.heap.size g w (hdput w' g (i * 2) (yn,yv)):=by rw [hdput_eq];exact BelowBut.setCells _ _ _ hb3
      refine ⟨i+1,j+1,M.set i (yn,yv),by omega,by omega,by go_num,by go_num,by rw [Zk];exact hM,?_,?_,o4,hb4⟩
      ·rw [HF.out,<-HMi.out,Jf (by rw [Zk];omega)];simp [List.take_set_of_le]
      ·rw [<-hdrop,List.drop_set_of_lt (by omega)]
     case measure=>simp [intOf];omega
  ·obtain rfl:j=l.length:=by omega
   have hin:(i:Int)<=(l.length:Int):=by omega
   have hcap:l.length<=cap:=by obtain ⟨a2,c2,hv2,hc2,_,_⟩:=own_reads ho;injection hv2 with _ _ e3;omega
   have hic:(i:Int)<=(cap:Int):=by omega
   have hlc:(l.length:Int)<=(cap:Int):=by omega
   have hic':¬ cap=i:=by omega
   have hfil:(l.filter (fun c=>!p c)).length=i:=by have e:=Kq List.length hMi;rw [Jq,Jk,hM,Zd (by omega)] at e;exact e.symm
   have hfr:∀ j,j<(l.length - i) * 2->wr.frozen? ⟨g,i * 2+j,none⟩=false:=fun j _=>own_free ho _;have hce:∀ j,j<(l.length - i) * 2->(wr.cell? ⟨g,i * 2+j,none⟩).isSome=true:=fun j hj=>by
    obtain ⟨a2,c2,hv2,_,_,ha2⟩:=own_reads ho;injection hv2 with e1 _ _;rcases ha2 with ⟨rfl,_⟩ | ⟨g',rfl,_,_,hcc⟩
    ·cases e1
    ·injection e1 with e1;injection e1 with e1;subst e1;have hlt:i * 2+j<(cellsK hdC M).length:=by rw [cellsK_len hdlen,hM];omega
     rw [hcc _ _ (Jd hlt)];rfl
   obtain ⟨zs,hzl,hcl⟩:=run_clearK (P:=Tryz.prog) wr 28 70 0 (hdA (⟨#[]⟩,⟨#[]⟩)) 2 Tryz.underlying28 (zero_run (by kernel_rfl)) rfl hdzone g (i * 2) (l.length - i) (cap - i) (by omega) (by decide) hce hfr;obtain ⟨xs',hx1,hx2⟩:=own_setCells zs (i * 2) wr (cellsK hdC M) ho (by rw [hzl];omega);have hr:=own_cut hx1 i (by omega);rw [hx2,cellsG_take hdlen M i (by omega),hMi,Jq] at hr;have hbz:=BelowBut.setCells zs (i * 2) wr hbb;clear hx1 hx2 hfr hce hzl hMi hMj ho hbb;have hr':(wr.setCells g (i * 2) zs).ownsRow B 70 2 (.slice (some ⟨g,0,none⟩) (l.filter (fun c=>!p c)).length cap) (l.filter (fun c=>!p c)).length (cellsK hdC (l.filter (fun c=>!p c))):=by rw [hfil];exact hr
   have HF:=Kb hfil;clear hfil;go_wp2_with fail;go_ret;exact ⟨by rw [HF.out];rfl,hr',hbz⟩
theorem hddel_none (p:Hd->Bool)(g:Nat)(cb:Array Value)(eg:∀ args w,(callFunc g args).run Tryz.prog w = .ok (.enter g args) w)(l:List Hd)(v:Value)(w:World)
 (hv:SlK hdC 2 w v l) (hp:∀ W d,d∈l->Below w.heap.size w W->Calls Tryz.prog g (#[hdA d] ++ cb) W fun e W'=>e = .returned (.bool (p d))/\Below W.heap.size W W') (hn:l.length<=1000000) (hR:idxI p l = -1) :
 Calls Tryz.prog 121 #[v,.func (.func g) #[] cb] w fun e w'=>e = .returned v/\Below w.heap.size w w':=by
 have CX:=Kb (hdidx p g cb eg l v w hv hp hn (-1) hR);obtain ⟨sa,sc,rfl,_⟩:=hv.shape;clear hv hp hR;go_enter Tryz.func121,Tryz.ntmps121;go_wp2_with (with_reducible refine CX.out.mono ?_;rintro x w1 ⟨rfl,hb1⟩)
 go_ret;exact ⟨rfl,hb1⟩
theorem hddel (p:Hd->Bool)(gf:Nat)(cb:Array Value)(eg:∀ args w,(callFunc gf args).run Tryz.prog w = .ok (.enter gf args) w)(l:List Hd)(v:Value)(w:World)(B:Nat)
 (hown:w.ownsRow B 70 2 v l.length (cellsK hdC l))
 (hp:∀ W d,d∈l->(∀ jb,RowBut w.heap.size jb v.ownBlock w W)->Calls Tryz.prog gf (#[hdA d] ++ cb) W fun e W'=>e = .returned (.bool (p d))/\Below W.heap.size W W')
 (hn:l.length<=1000) :
 Calls Tryz.prog 121 #[v,.func (.func gf) #[] cb] w (DelQ hdC 2 70 B w v (l.filter (fun c=>!p c))):=by
 have hq:∀ W d,d∈l->Below w.heap.size w W->Calls Tryz.prog gf (#[hdA d] ++ cb) W fun e W'=>e = .returned (.bool (p d))/\Below W.heap.size W W':=fun W d hd hb=>hp W d hd (fun jb=>(RowBut.refl _ jb _ w).below hb lr);by_cases hR:idxI p l = -1
 ·refine (hddel_none p gf cb eg l v w (SlK.of_own hdlen hown) hq (by omega) hR).mono ?_;rintro e w' ⟨rfl,hb⟩;rw [filtg_none p l hR];exact ⟨v,rfl,own_below hown hb lr,rfl,fun jb=>(RowBut.refl _ jb _ w).below hb lr⟩
 ·exact N64
def valL (rq:List Hd)(name:List UInt8):ByteArray:=(hdrL rq name).getD ⟨#[]⟩
def misH (rq:List Hd)(d:Hd):Bool:=!((valL rq d.1.data.toList).toList == d.2.toList)
def urlB (u v:ByteArray):Bool:=u.toList == v.toList
def ansB (x:En)(url:ByteArray)(rq:List Hd):Bool:=urlB x.u url && !(x.va.any (misH rq))
theorem M27{p:Prop}(h:p:=by
 go_enter Tryz.func194,Tryz.ntmps194
 go_wp2_with (with_reducible refine C.out.mono ?_;rintro e w1 ⟨rfl,hb1⟩)
 go_ret
 exact ⟨rfl,hb1⟩
 ):p:=h
theorem hdcont (p:Hd->Bool)(g:Nat)(cb:Array Value)(eg:∀ args w,(callFunc g args).run Tryz.prog w = .ok (.enter g args) w)(l:List Hd)(v:Value)(w:World)
 (hv:SlK hdC 2 w v l) (hp:∀ W d,d∈l->Below w.heap.size w W->Calls Tryz.prog g (#[hdA d] ++ cb) W fun e W'=>e = .returned (.bool (p d))/\Below W.heap.size W W') (hn:l.length<=1000000) (R:Bool) (hR:l.any p=R) :
 Calls Tryz.prog 194 #[v,.func (.func g) #[] cb] w fun e w'=>e = .returned (.bool R)/\Below w.heap.size w w':=by
 obtain ⟨sa,sc,rfl,_⟩:=hv.shape
 cases R with
 | true=>
   have e:idxI p l=((l.findIdx p:Nat):Int):=by unfold idxI;rw [Kf hR]
   obtain ⟨n,hn2⟩:=Ka (l.findIdx p)
   rw [hn2] at e
   have C:=Kb (hdidx p g cb eg l _ w hv hp hn _ e)
   clear e hn2 hR hp hv
   exact M27
 | false=>
   have e:idxI p l = -1:=by unfold idxI;rw [Ke (by rw [hR];simp)]
   have C:=Kb (hdidx p g cb eg l _ w hv hp hn _ e)
   clear e hR hp hv
   exact M27
theorem ansclos (rq:List Hd)(vr:Value)(B:Nat)(W:World)(d:Hd)(hA:AtL W B [vr])(hv:SlK hdC 2 W vr rq)(hz:HdSz rq)(hd:d.1.size<=100000)(R:Bool)(hR:misH rq d=R):
 Calls Tryz.prog 240 #[hdA d,.pointer (some ⟨B,0,none⟩)] W fun e W'=>e = .returned (.bool R)/\Below W.heap.size W W':=by
 obtain ⟨yn,yv⟩:=d;have hd:yn.size<=100000:=hd;have hR:(!((valL rq yn.data.toList).toList == yv.toList))=R:=hR;unfold valL at hR;obtain ⟨V,hV⟩:=Ka ((hdrL rq yn.data.toList).getD ⟨#[]⟩);obtain ⟨B2,hB2⟩:=Ka ((hdrL rq yn.data.toList).isSome);rw [hV] at hR;have HR:=Kb hR;have CH:=Kb (fun w hv=>hdr_at rq vr yn w hv hz hd V B2 hV hB2);have hal:=(Kc W).alloc lr (.cells (hdC (yn,yv)).toArray 70);have KA:=AtL.new W (hdC (yn,yv)) 70;have hv1:=hv.below hal lr;obtain ⟨sa,sc,rfl,_⟩:=hv.shape;have b0:=hA.c 0 rfl;have bl:=hA.lt;clear hV hB2 hR hz hv hA;go_enter Tryz.func240,Tryz.ntmps240;go_wp2_with (with_reducible refine (CH.out _ hv1).mono ?_;rintro e w1 ⟨rfl,hb1⟩;have K1:=KA.next hb1;have z0:=K1.c 0 rfl;have z1:=K1.c 1 rfl;have kl:=K1.lt)
 go_ret;exact ⟨ret_bool (by rw [<-HR.out]),hal.trans (hb1.mono hal.size)⟩
theorem ans_is (x:Ee)(url:ByteArray)(rq:List Hd)(vr:Value)(w:World)(hr:Rd w x.1 x.2)(hv:SlK hdC 2 w vr rq)(hz:HdSz rq)(hy:HdSz x.2.va)(R:Bool)(hR:ansB x.2 url rq=R):
 Calls Tryz.prog 183 #[eeA x,.string url,vr] w fun e w'=>e = .returned (.bool R)/\Below w.heap.size w w':=by
 obtain ⟨⟨u,vv,st,hh,bo,ti⟩,⟨u',va,st',hd,bo',ti'⟩⟩:=x
 obtain rfl:u=u':=hr.u
 have hva:SlK hdC 2 w vv va:=hr.va
 have hhd:SlK hdC 2 w hh hd:=hr.hd
 have hy:HdSz va:=hy
 have hR2:(urlB u url && !(va.any (misH rq)))=R:=hR
 clear hR
 obtain ⟨M,hM⟩:=Ka (va.any (misH rq))
 rw [hM] at hR2
 have hB0:Below w.heap.size w ((w.alloc (.cells (erC ⟨u,vv,st,hh,bo,ti⟩).toArray 90)).alloc (.cells [vr].toArray 28)):=((Kc w).alloc lr _).alloc (by simp) _
 have A0:=AtL.new (w.alloc (.cells (erC ⟨u,vv,st,hh,bo,ti⟩).toArray 90)) [vr] 28
 rw [show (w.alloc (.cells (erC ⟨u,vv,st,hh,bo,ti⟩).toArray 90)).heap.size=w.heap.size+1 by simp] at A0
 have hv1:=hv.below hB0 lr
 have hva1:=hva.below hB0 lr
 have CC:=Kb (fun (W:World) (B:Nat) (hA:AtL W B [vr]) (hva:SlK hdC 2 W vv va) (hvq:SlK hdC 2 W vr rq)=>hdcont (misH rq) 240 #[.pointer (some ⟨B,0,none⟩)] (enters_of Tryz.func240 (by kernel_rfl) rfl) va vv W hva
  (fun W' d hd hb=>ansclos rq vr B W' d (hA.next hb) (hvq.below hb lr) hz (hy.2 d hd).1 _ rfl) hy.1 M hM)
 obtain ⟨sa,sc,rfl,_⟩:=hv.shape
 obtain ⟨ta,tc,rfl,_⟩:=hva.shape
 obtain ⟨ua,uc,rfl,_⟩:=hhd.shape
 have HR:=Kb hR2
 clear hM hR2 hr hv hva hhd hz hy
 cases hu:urlB u url with
 | false=>
   have hu2:(u.toList == url.toList)=false:=hu
   have HU:=Kb hu
   clear hu
   go_enter Tryz.func183,Tryz.ntmps183
   go_wp2_with fail
   go_ret
   exact ⟨ret_bool (by rw [<-HR.out,HU.out];rfl),hB0⟩
 | true=>
   have hu2:(u.toList == url.toList)=true:=hu
   have HU:=Kb hu
   clear hu
   go_enter Tryz.func183,Tryz.ntmps183
   go_wp2_with (with_reducible refine (CC.out _ _ A0 hva1 hv1).mono ?_;rintro e w1 ⟨rfl,hb1⟩)
   go_ret
   exact ⟨ret_bool (by rw [<-HR.out,HU.out];rfl),Kd hB0 hb1⟩
theorem slE:SlTy Tryz.prog 25 90 6 96:=.mk' (z:=eeA ee0) Tryz.underlying25 (by kernel_rfl) rfl (by decide)
def RowTo (v v':Value)(n:Nat):Prop:=∀ g,v'.ownBlock=some g->v.ownBlock=some g\/n<=g
theorem RowTo.refl (v:Value)(n:Nat):RowTo v v n:=fun _ h=>.inl h
theorem rowto_k {v:Value}{K g:Nat}(h:v.ownBlock=some g\/K<=g)(n cap:Nat):RowTo v (.slice (some ⟨g,0,none⟩) n cap) K:=fun g' e=>by
 simp only [Value.ownBlock,Js] at e
 subst e;exact h
def FarV (hs:List Hd)(u:Value)(jb:Nat)(o:Option Nat):Prop:=hs≠[]->∀ b off n c,u = .slice (some ⟨b,off,none⟩) n c->b≠jb/\o≠some b
theorem slk_row {hs:List Hd}{u:Value}{n jb:Nat}{o:Option Nat}{w w':World}(h:SlK hdC 2 w u hs)(hr:RowBut n jb o w w')(hn:w.heap.size<=n)(hf:FarV hs u jb o):SlK hdC 2 w' u hs:=by
 rcases h with h | ⟨h0,b,off,cap,hv,e2,e3,h4,h5⟩
 ·exact .inl h
 ·obtain ⟨f1,f2⟩:=hf h0 b off _ _ hv;exact .inr ⟨h0,b,off,cap,hv,e2,e3,Ko h4 hr.size,fun i hi j u hu=>(World.cell?_of_block (w:=w) (a:=⟨b,off+i * 2+j,none⟩) (hr.block b (by omega) f1 f2)).trans (h5 i hi j u hu)⟩
theorem FarV.to {hs:List Hd}{u v v':Value}{n jb:Nat}{w:World}(hf:FarV hs u jb v.ownBlock)(h:SlK hdC 2 w u hs)(ht:RowTo v v' n)(hn:w.heap.size<=n):FarV hs u jb v'.ownBlock:=by
 intro h0 b off m c hu;obtain ⟨f1,f2⟩:=hf h0 b off m c hu;refine ⟨f1,fun e=>?_⟩;rcases ht b e with h1 | h1
 ·exact f2 h1
 ·rcases h with ⟨h2,_⟩ | ⟨_,b2,off2,cap,hv,_,_,h4,_⟩
  ·exact h0 h2
  ·rw [hv] at hu;injection hu with e1 _ _;injection e1 with e1;injection e1 with e1;omega
structure FarE (x:Ee)(jb:Nat)(o:Option Nat):Prop where
 va:FarV x.2.va x.1.vv jb o
 hd:FarV x.2.hd x.1.hv jb o
theorem Rd.row {x:Ee}{n jb:Nat}{o:Option Nat}{w w':World}(h:Rd w x.1 x.2)(hr:RowBut n jb o w w')(hn:w.heap.size<=n)(hf:FarE x jb o):Rd w' x.1 x.2:=
 ⟨h.u,h.st,h.bo,h.ti,slk_row h.va hr hn hf.va,slk_row h.hd hr hn hf.hd⟩
theorem FarE.to {x:Ee}{v v':Value}{n jb:Nat}{w:World}(hf:FarE x jb v.ownBlock)(h:Rd w x.1 x.2)(ht:RowTo v v' n)(hn:w.heap.size<=n):FarE x jb v'.ownBlock:=⟨hf.va.to h.va ht hn,hf.hd.to h.hd ht hn⟩
structure CaIn (w:World)(jb B:Nat)(v:Value)(l:List Ee):Prop where
 at_:AtL w jb [v]
 own:w.ownsRow B 90 6 v l.length (cellsK eeC l)
 ne:v.ownBlock≠some jb
 le:B<=w.heap.size
 rd:∀ x∈l,Rd w x.1 x.2
 far:∀ x∈l,FarE x jb v.ownBlock
theorem CaIn.reads {w:World}{jb B:Nat}{v:Value}{l:List Ee}(h:CaIn w jb B v l):SlK eeC 6 w v l:=SlK.of_own eelen h.own
theorem CaIn.below {w w':World}{jb B n:Nat}{v:Value}{l:List Ee}(h:CaIn w jb B v l)(hb:Below n w w')(hn:w.heap.size<=n):CaIn w' jb B v l:=
 ⟨h.at_.below hb (Ko h.at_.1 hn),own_below h.own hb hn,h.ne,Kg h.le hb.size,fun x hx=>(h.rd x hx).below hb hn,h.far⟩
def CaTo (w:World)(jb B:Nat)(v:Value)(l':List Ee)(w':World):Prop:=(∃ v',CaIn w' jb B v' l'/\RowTo v v' w.heap.size)/\RowBut w.heap.size jb v.ownBlock w w'
theorem CaTo.refl {w:World}{jb B:Nat}{v:Value}{l:List Ee}(h:CaIn w jb B v l):CaTo w jb B v l w:=⟨⟨v,h,RowTo.refl _ _⟩,RowBut.refl _ _ _ _⟩
theorem CaTo.out {w w':World}{jb B:Nat}{v:Value}{l':List Ee}(h:CaTo w jb B v l' w'):∃ a c,CaIn w' jb B (.slice a l'.length c) l'/\RowTo v (.slice a l'.length c) w.heap.size/\RowBut w.heap.size jb v.ownBlock w w':=by obtain ⟨⟨v',h1,h2⟩,h3⟩:=h;obtain ⟨a,c,rfl,_⟩:=own_reads h1.own;exact ⟨a,c,h1,h2,h3⟩
theorem CaTo.below {w w' w2:World}{jb B:Nat}{v:Value}{l':List Ee}(h:CaTo w jb B v l' w')(hb:Below w'.heap.size w' w2):CaTo w jb B v l' w2:=by obtain ⟨⟨v',h1,h2⟩,h3⟩:=h;exact ⟨⟨v',h1.below hb lr,h2⟩,h3.below hb h3.size⟩
theorem CaTo.trans {w w' w2:World}{jb B:Nat}{v v':Value}{l l2:List Ee}(hv:RowTo v v' w.heap.size)(hr:RowBut w.heap.size jb v.ownBlock w w')(h:CaTo w' jb B v' l2 w2):CaTo w jb B v l2 w2:=by
 obtain ⟨⟨v2,h1,h2⟩,h3⟩:=h;refine ⟨⟨v2,h1,fun g e=>?_⟩,hr.trans ⟨h3.os,h3.tape,h3.output,h3.size,fun k hk hj ho=>h3.block k (Ko hk hr.size) hj (fun e=>?_)⟩⟩
 ·rcases h2 g e with h4 | h4
  ·exact hv g h4
  ·exact .inr (Kg hr.size h4)
 ·rcases hv k e with h4 | h4
  ·exact ho h4
  ·omega
theorem own_shiftG {W:World}{B E size n cap g q i:Nat}{xs:List Value}(h:W.ownsRow B E size (.slice (some ⟨g,0,none⟩) n cap) n xs)(hi:i<=q)(hq:q<=n):
 ∃ cur,W.heap[g]? = some (.cells cur E (0,0))/\i * size+(xs.drop (q * size)).length<=cur.size/\n<=cap/\(xs.drop (q * size)).length=(n - q) * size/\∃ ys,(W.setRow g (cur.toList.take (i * size) ++ xs.drop (q * size) ++ cur.toList.drop (i * size+(xs.drop (q * size)).length)).toArray).ownsRow B E size (.slice (some ⟨g,0,none⟩) n cap) n ys/\ys.take ((i+(n - q)) * size)=xs.take (i * size) ++ xs.drop (q * size):=by
 obtain ⟨h1,h2⟩:=h;rcases h2 with ⟨h2,_⟩ | ⟨g',cap',cur,hv,hg,hh,hc,hcm,hs,ht⟩
 ·cases h2
 ·injection hv with e1 e2 e3;injection e1 with e1;injection e1 with e1;subst e1 e3;have hnl:(xs.drop (q * size)).length=(n - q) * size:=by rw [Jy,h1,Nat.sub_mul]
  have h3:i * size+(n - q) * size<=n * size:=by rw [<-Nat.add_mul];exact Zq _ (by omega)
  have h4:n * size<=cap * size:=Zq _ hc;have h5:i * size<=n * size:=Zq _ (by omega);have htk:cur.toList.take (i * size)=xs.take (i * size):=by rw [<-ht,List.take_take,Zd h5]
  have hxl:(xs.take (i * size)).length=i * size:=by rw [Jk,h1,Zd h5]
  have hlen:(xs.take (i * size) ++ xs.drop (q * size) ++ cur.toList.drop (i * size+(n - q) * size)).length=cap * size:=by rw [Kw,Kw,hnl,hxl,Jy,Array.length_toList,hs];omega
  refine ⟨cur,hh,by rw [hnl,hs];omega,hc,hnl,_,⟨?_,.inr ⟨g,cap,_,rfl,hg,setRow_heap W g cur _ E (0,0) hh,hc,hcm,?_,rfl⟩⟩,?_⟩
  ·rw [htk,hnl,Jk,hlen];omega
  ·rw [htk,hnl,List.size_toArray,hlen]
  ·rw [htk,hnl,List.take_take,Zd (by rw [Nat.add_mul];omega),List.take_left' (by rw [Kw,hxl,hnl,Nat.add_mul])]
theorem step_shiftG {P:Program}{T E size bytes:Nat}(ty:SlTy P T E size bytes)(W:World){ops:Array Oper}{o:Oper}{a:Act}{K:Act->World->Prop}{Q:Exit->Act->World->Prop}{Ep:Prop}
 (hgd:o.guard=none) (s x:Operand) (ho:o.op = .call { callee:=.builtin .append,args:=#[s,x],argTypes:=#[T,T] })
 (B g n cap i q r:Nat) (xs:List Value) (hown:W.ownsRow B E size (.slice (some ⟨g,0,none⟩) n cap) n xs) (hi:i<=q) (hq:q<=n)
 (m c:Nat) (ad:Addr) (hs:a.eval s = .slice (some ⟨g,0,none⟩) i cap) (hx:a.eval x = .slice (some ad) m c) (hm:n - q=m) (hrr:i+m=r) (had:m=0\/ad=⟨g,q * size,none⟩) (h1:∀ u∈xs,u.oneCell'=true)
 (h:∀ w' ys,w'.ownsRow B E size (.slice (some ⟨g,0,none⟩) n cap) n ys->ys.take (r * size)=xs.take (i * size) ++ xs.drop (q * size)->BelowBut W.heap.size g W w'->K (a.put o.dst (.slice (some ⟨g,0,none⟩) r cap)) w') :
 if Region.wanted o (yielded ops a.tmps)=true then Oper.wp P o a W K Q else Ep:=by
 subst hm hrr;obtain ⟨hu,⟨ii,z,hii,hz,h2,h3,h4⟩,hp⟩:=ty;have hw:Region.wanted o (yielded ops a.tmps)=true:=by simp [Region.wanted,hgd]
 rw [Kf hw];obtain ⟨cur,hh,hfit,hc,hnl,ys,hy1,hy2⟩:=own_shiftG hown hi hq;have hcell:∀ j u,(xs.drop (q * size))[j]? = some u->W.cell? (ad.add j)=some u:=fun j u hu=>by
  rcases had with h0 | rfl
  ·have hj:=(Xi.1 hu).1;rw [hnl,h0,Nat.zero_mul] at hj;omega
  rw [add_none];rw [List.getElem?_drop] at hu;obtain ⟨a2,c2,hv2,_,_,ha2⟩:=own_reads hown;injection hv2 with e1 _ _;rcases ha2 with ⟨rfl,_⟩ | ⟨g',rfl,_,_,hcc⟩
  ·cases e1
  ·injection e1 with e1;injection e1 with e1;subst e1;exact hcc _ _ hu
 have hrun:=run_append_room (P:=P) W T o.type E ii hu hii g i cap cur hh ad (n - q) c (xs.drop (q * size)) (by rw [h2];exact hnl) hcell (fun u hu=>h1 u (List.mem_of_mem_drop hu)) (by omega) (by rw [h2];exact hfit);rw [h2] at hrun;have hk:=h _ ys hy1 hy2 ((BelowBut.refl W.heap.size g W).setRow _);unfold Oper.wp;simp [execOp,ho,resolve,invoke,builtin,hs,hx,hrun,Result.andThen];rw [Oper.upon_value];simpa using hk
theorem one6 (x:Ee)(h:eeShp x):∀ u∈eeC x,u.oneCell'=true:=by obtain ⟨⟨a1,n1,k1,e1⟩,a2,n2,k2,e2⟩:=h;intro u hu;simp [e1,e2] at hu;rcases hu with rfl | rfl | rfl | rfl | rfl | rfl <;> rfl
theorem one6s (l:List Ee)(h:∀ x∈l,eeShp x):∀ u∈cellsK eeC l,u.oneCell'=true:=by intro u hu;obtain ⟨c,hc,hu⟩:=List.mem_flatMap.1 hu;exact one6 c (h c hc) u hu
theorem erase_cells (l:List Ee)(i:Nat)(hi:i<l.length):(cellsK eeC l).take (i * 6) ++ (cellsK eeC l).drop ((i+1) * 6)=cellsK eeC (l.eraseIdx i):=by rw [cellsG_take eelen l i (by omega),cellsG_drop eelen l (i+1) (by omega),<-cellsK_app,List.eraseIdx_eq_take_drop_succ]
theorem M16{p:Prop}(h:p:=by
 obtain ⟨a2,c2,hv2,_,_,ha2⟩:=own_reads hown5;injection hv2 with e1 _ _;rcases ha2 with ⟨rfl,_⟩ | ⟨g',rfl,_,_,hcc⟩
 ·cases e1
 ·injection e1 with e1;injection e1 with e1;subst e1;have hlt:r * 6+j<ys.length:=by rw [hown5.1];have:=HR.out;omega
  rw [hcc _ _ (Jd hlt)];rfl
 ):p:=h
theorem del_at (l:List Ee)(g n cap i r:Nat)(w:World)(B:Nat)(hsh:∀ x∈l,eeShp x)(hln:l.length=n)(hown:w.ownsRow B 90 6 (.slice (some ⟨g,0,none⟩) n cap) n (cellsK eeC l))(hi:i<n)(hr:n=r+1)(hn:n<=1000):
 Calls Tryz.prog 185 #[.slice (some ⟨g,0,none⟩) n cap,.int .i64 i,.int .i64 ((i:Int)+1)] w fun e w'=>e = .returned (.slice (some ⟨g,0,none⟩) r cap)/\w'.ownsRow B 90 6 (.slice (some ⟨g,0,none⟩) r cap) r (cellsK eeC (l.eraseIdx i))/\BelowBut w.heap.size g w w':=by
 have hcap:n<=cap:=by obtain ⟨a2,c2,hv2,hc2,_,_⟩:=own_reads hown;injection hv2 with _ _ e3;omega
 have hec:=erase_cells l i (by omega);have hone:=Kb (one6s l hsh);have hq1:((i:Int) == (i:Int)+1)=false:=Ki.2 (by omega);have hq0:(0:Int)<=(i:Int):=by omega
 have hq2:(i:Int)+1<=(n:Int):=by omega
 have hq3:(n:Int)<=(cap:Int):=by omega
 have hq4:(i:Int)+1<=(cap:Int):=by omega
 have hq6:¬ n=i:=by omega
 have hq7:¬ cap=i:=by omega
 have hq8:(i:Int)<=(cap:Int):=by omega
 have hrn:(r:Int)<=(n:Int):=by omega
 have hrc:(r:Int)<=(cap:Int):=by omega
 have hrc':¬ cap=r:=by omega
 have hnr1:n - r=1:=by omega
 have hr1:r+1=n:=by omega
 have HR:=Kb hr;have HR1:=Kb hr1;have HL:=Kb hln;have ho1:=Kb hown;have HEC:=Kb hec;have hz:((i:Int)+1).toNat=i+1:=by omega
 have hy1:(i:Int)<=(i:Int)+1:=by omega
 have hy2:(0:Int)<=(i:Int)+1:=by omega
 clear hown hr hln hr1 hec;by_cases hcq:cap=i+1
 ·subst hcq;go_enter Tryz.func185,Tryz.ntmps185;go_wp2_with fail;go_region_law (refine step_shiftG slE w.drew (by rfl) (.tmp 22) (.tmp 25) (by rfl) B g n (i+1) i (i+1) r (cellsK eeC l) ho1.out.drew (by omega) (by omega) _ _ _ (by rfl) (by rfl) (by have:=HR.out;omega) (by have:=HR.out;omega) (by first | (right;rfl) | (left;have:=HR.out;omega)) hone.out ?_;intro w5 ys hown5 hys hbb5)
  all_goals
   have hce:∀ j,j<1 * 6->(w5.cell? ⟨g,r * 6+j,none⟩).isSome=true:=fun j hj=>by
    exact M16
   have hfr:∀ j,j<1 * 6->w5.frozen? ⟨g,r * 6+j,none⟩=false:=fun j _=>own_free hown5 _;obtain ⟨zs,hzl,hcl⟩:=run_clearK (P:=Tryz.prog) w5 25 90 0 (eeA ee0) 6 Tryz.underlying25 (zero_run (by kernel_rfl)) rfl eezone g (r * 6) 1 (i+1 - r) (by decide) (by decide) hce hfr;obtain ⟨xs',hx1,hx2⟩:=own_setCells zs (r * 6) w5 ys hown5 (by rw [hzl];have:=HR.out;omega);have hcut:=own_cut hx1 r (by have:=HR.out;omega);rw [hx2,hys,HEC.out] at hcut;have hbz:=BelowBut.setCells zs (r * 6) w5 hbb5;clear hx1 hx2 hfr hce hzl hys hown5 hbb5;go_wp2_with fail;go_ret;exact ⟨rfl,hcut,⟨hbz.os,hbz.tape,hbz.output,hbz.size,hbz.block⟩⟩
 ·have hcq':i+1<cap:=by omega
  go_enter Tryz.func185,Tryz.ntmps185;go_wp2_with fail;go_region_law (refine step_shiftG slE w.drew (by rfl) (.tmp 22) (.tmp 25) (by rfl) B g n cap i (i+1) r (cellsK eeC l) ho1.out.drew (by omega) (by omega) _ _ _ (by rfl) (by rfl) (by have:=HR.out;omega) (by have:=HR.out;omega) (by first | (right;rfl) | (left;have:=HR.out;omega)) hone.out ?_;intro w5 ys hown5 hys hbb5)
  all_goals
   have hce:∀ j,j<1 * 6->(w5.cell? ⟨g,r * 6+j,none⟩).isSome=true:=fun j hj=>by
    exact M16
   have hfr:∀ j,j<1 * 6->w5.frozen? ⟨g,r * 6+j,none⟩=false:=fun j _=>own_free hown5 _;obtain ⟨zs,hzl,hcl⟩:=run_clearK (P:=Tryz.prog) w5 25 90 0 (eeA ee0) 6 Tryz.underlying25 (zero_run (by kernel_rfl)) rfl eezone g (r * 6) 1 (cap - r) (by decide) (by decide) hce hfr;obtain ⟨xs',hx1,hx2⟩:=own_setCells zs (r * 6) w5 ys hown5 (by rw [hzl];have:=HR.out;omega);have hcut:=own_cut hx1 r (by have:=HR.out;omega);rw [hx2,hys,HEC.out] at hcut;have hbz:=BelowBut.setCells zs (r * 6) w5 hbb5;clear hx1 hx2 hfr hce hzl hys hown5 hbb5;go_wp2_with fail;go_ret;exact ⟨rfl,hcut,⟨hbz.os,hbz.tape,hbz.output,hbz.size,hbz.block⟩⟩
structure RowIn (w:World)(jb B:Nat)(v:Value)(l:List Ee):Prop where
 own:w.ownsRow B 90 6 v l.length (cellsK eeC l)
 ne:v.ownBlock≠some jb
 le:B<=w.heap.size
 rd:∀ x∈l,Rd w x.1 x.2
 far:∀ x∈l,FarE x jb v.ownBlock
theorem CaIn.row {w:World}{jb B:Nat}{v:Value}{l:List Ee}(h:CaIn w jb B v l):RowIn w jb B v l:=⟨h.own,h.ne,h.le,h.rd,h.far⟩
theorem RowIn.below {w w':World}{jb B n:Nat}{v:Value}{l:List Ee}(h:RowIn w jb B v l)(hb:Below n w w')(hn:w.heap.size<=n):RowIn w' jb B v l:=
 ⟨own_below h.own hb hn,h.ne,Kg h.le hb.size,fun x hx=>(h.rd x hx).below hb hn,h.far⟩
theorem RowIn.al {w:World}{jb B:Nat}{v:Value}{l:List Ee}(h:RowIn w jb B v l)(o:Obj):RowIn (w.alloc o) jb B v l:=h.below ((Kc w).alloc lr o) lr
theorem RowIn.dr {w:World}{jb B:Nat}{v:Value}{l:List Ee}(h:RowIn w jb B v l):RowIn w.drew jb B v l:=h.below (Kc w).drew lr
theorem RowIn.less {w w':World}{jb B:Nat}{v v':Value}{l l':List Ee}(h:RowIn w jb B v l)(own':w'.ownsRow B 90 6 v' l'.length (cellsK eeC l'))(sub:∀ y∈l',y∈l)(hb:RowBut w.heap.size jb v.ownBlock w w')(ho:v'.ownBlock=v.ownBlock):RowIn w' jb B v' l':=
 ⟨own',by rw [ho];exact h.ne,Kg h.le hb.size,fun x hx=>(h.rd x (sub x hx)).row hb lr (h.far x (sub x hx)),fun x hx=>by rw [ho];exact h.far x (sub x hx)⟩
theorem RowBut.of_grown {jb:Nat}{o:Option Nat}{w w':World}(hg:w.grownBy w' o):RowBut w.heap.size jb o w w':=(RowBut.refl w.heap.size jb o w).grown hg lr
theorem M31{p:Prop}(h:p:=by
 rcases Kz.1 hy with h1 | h1
 ·exact (h.rd y h1).row hrb lr (h.far y h1)
 ·obtain rfl:=Jc.1 h1;exact hx.row hrb lr hfx
 ):p:=h
theorem M34{p:Prop}(h:p:=by
 rcases Kz.1 hy with h1 | h1
 ·exact (h.far y h1).to (h.rd y h1) ht lr
 ·obtain rfl:=Jc.1 h1;exact hfx.to hx ht lr
 ):p:=h
theorem RowIn.app {W w5:World}{jb B g' cap' n:Nat}{v:Value}{l:List Ee}{x:Ee}(h:RowIn W jb B v l)(hx:Rd W x.1 x.2)(hfx:FarE x jb v.ownBlock)(hjb:jb<W.heap.size)(hn:n=l.length+1)
 (h5:w5.ownsRow B 90 6 (.slice (some ⟨g',0,none⟩) n cap') n (cellsK eeC l ++ eeC x)) (hg:W.grownBy w5 v.ownBlock) (hat:v.ownBlock=some g'\/g'=W.heap.size) :
 RowIn w5 jb B (.slice (some ⟨g',0,none⟩) n cap') (l ++ [x])/\RowTo v (.slice (some ⟨g',0,none⟩) n cap') W.heap.size:=by
 have ht:RowTo v (.slice (some ⟨g',0,none⟩) n cap') W.heap.size:=rowto_k (hat.imp id (fun e=>by omega)) n cap';have hrb:=RowBut.of_grown (jb:=jb) hg;refine ⟨⟨own_eq h5 (by rw [hn];simp) (by rw [cellsK_app];simp [cellsK]),?_,Kg h.le hg.size,fun y hy=>?_,fun y hy=>?_⟩,ht⟩
 ·intro e;rcases ht jb e with h1 | h1
  ·exact h.ne h1
  ·omega
 ·exact M31
 ·exact M34
theorem slk_far {hs:List Hd}{u:Value}{w:World}{jb:Nat}{o:Option Nat}{x:Value}(h:SlK hdC 2 w u hs)(hf:FarV hs u jb o):SlK hdC 2 (w.setCell ⟨jb,0,none⟩ x) u hs:=
 slk_row h ((RowBut.refl w.heap.size jb o w).setCell ⟨jb,0,none⟩ (Or.inl rfl) x) lr hf
theorem RowIn.store {w:World}{jb B:Nat}{u v:Value}{l:List Ee}(h:RowIn w jb B v l)(hA:AtL w jb [u]):CaIn (w.setCell ⟨jb,0,none⟩ v) jb B v l:=by have hrb:=(RowBut.refl w.heap.size jb v.ownBlock w).setCell ⟨jb,0,none⟩ (Or.inl rfl) v;exact ⟨hA.set 0 v,ownsRow_setCell_other (a:=⟨jb,0,none⟩) h.own h.ne v,h.ne,by rw [World.size_setCell];exact h.le,fun x hx=>(h.rd x hx).row hrb lr (h.far x hx),h.far⟩
theorem AtL.row {n jb k:Nat}{o:Option Nat}{w w':World}{vs:List Value}(hA:AtL w k vs)(h:RowBut n jb o w w')(hk:k<n)(h1:k≠jb)(h2:o≠some k):AtL w' k vs:=by have hh:=h.block k hk h1 h2;exact ⟨Ko hA.1 h.size,fun j v hv=>⟨(World.cell?_of_block (w:=w) hh).trans (hA.c j hv),(World.frozen?_of_block (w:=w) hh).trans (hA.f j hv)⟩⟩
theorem step_appG {P:Program}{T E size bytes:Nat}(ty:SlTy P T E size bytes)(W:World){ops:Array Oper}{o:Oper}{a:Act}{K:Act->World->Prop}{Q:Exit->Act->World->Prop}{Ep:Prop}
 (hgd:o.guard=none) (s x:Operand) (ho:o.op = .call { callee:=.builtin .append,args:=#[s,x],argTypes:=#[T,T] })
 (B:Nat) (v:Value) (n:Nat) (xs:List Value) (hs:a.eval s=v) (hown:W.ownsRow B E size v n xs) (news:List Value) (m:Nat)
 (kk:Nat) (hx:a.eval x = .slice (some ⟨kk,0,none⟩) m m) (hA:AtL W kk news) (hl:news.length=m * size) (h1:∀ u∈news,u.oneCell'=true)
 (hm:0<m) (hb:(n+m) * bytes<=140737488355328) (hn:n+m<=140737488355328) (hB:B<=W.heap.size)
 (h:∀ g cap w',w'.ownsRow B E size (.slice (some ⟨g,0,none⟩) (n+m) cap) (n+m) (xs ++ news)->W.grownBy w' v.ownBlock->(v.ownBlock=some g\/g=W.heap.size)->g<w'.heap.size->K (a.put o.dst (.slice (some ⟨g,0,none⟩) (n+m) cap)) w') :
 if Region.wanted o (yielded ops a.tmps)=true then Oper.wp P o a W K Q else Ep:=by obtain ⟨hu,⟨i,z,hi,hz,h2,h3,h4⟩,hp⟩:=ty;exact step_append_lies _ hgd s x T ho B E i z size bytes hu hi hz h2 h3 h4 hp v n xs hs hown ⟨kk,0,none⟩ m m news hx hl (fun j u hu=>by rw [add_none,Jm];exact hA.c j hu) h1 hm (by unfold maxLen;omega) hb hB W.heap.size rfl h
theorem erase_mem (l:List Ee)(i:Nat)(hi:i<l.length):∀ y∈l.eraseIdx i ++ [l[i]],y∈l:=by
 intro y hy;rcases Kz.1 hy with h | h
 ·exact Xr h
 ·obtain rfl:=Jc.1 h;exact Ky hi
theorem RowIn.del {w w':World}{jb B g n r cap:Nat}{l l':List Ee}(h:RowIn w jb B (.slice (some ⟨g,0,none⟩) n cap) l)(hr:l'.length=r)(own':w'.ownsRow B 90 6 (.slice (some ⟨g,0,none⟩) r cap) r (cellsK eeC l'))(sub:∀ y∈l',y∈l)(hb:BelowBut w.heap.size g w w'):RowIn w' jb B (.slice (some ⟨g,0,none⟩) r cap) l':=by subst hr;exact h.less own' sub (hb.toRow jb) rfl
theorem BelowBut.of {n g:Nat}{w w1 w2:World}(h:Below n w w1)(k:BelowBut w1.heap.size g w1 w2)(hn:n<=w1.heap.size):BelowBut n g w w2:=
 ⟨k.os.trans h.os,k.tape.trans h.tape,k.output.trans h.output,Kg h.size k.size,fun x hx hne=>(k.block x (by omega) hne).trans (h.block x hx)⟩
theorem move_is (jb B:Nat)(v:Value)(l:List Ee)(w:World)(hJ:CaIn w jb B v l)(i:Nat)(hi:i<l.length)(hl:l.length<=1000)(x:Ee)(hx:l[i]=x):
 Calls Tryz.prog 123 #[.pointer (some ⟨jb,0,none⟩),.int .i64 i] w fun e w'=>e = .returned (.tuple #[])/\CaTo w jb B v (l.eraseIdx i ++ [x]) w':=by
 obtain ⟨a,cap,rfl,hcap,hcm,ha⟩:=own_reads hJ.own;rcases ha with ⟨_,h0⟩ | ⟨g,rfl,hBg,hgw,hcell⟩
 ·omega
 have hmem:∀ y∈l.eraseIdx i ++ [x],y∈l:=by rw [<-hx];exact erase_mem l i hi
 have hrd:=hJ.rd x (hmem x (by simp));have hfar:=hJ.far x (hmem x (by simp));have hshp:=hrd.shp;have hshl:∀ y∈l,eeShp y:=fun y hy=>(hJ.rd y hy).shp;obtain ⟨n,hn⟩:=Ka l.length;obtain ⟨r,hr⟩:∃ r,n=r+1:=⟨n - 1,by omega⟩
 have hlr:(l.eraseIdx i).length=r:=by rw [List.length_eraseIdx,Kf hi];omega
 have cc:∀ j u,(eeC x)[j]? = some u->w.cell? ⟨g,i * 6+j,none⟩=some u:=fun j u hu=>hcell _ _ (cellsK_get eelen l i hi j u (by rw [hx];exact hu));have one:=one6 x hshp;have hgj:g≠jb:=fun e=>hJ.ne (by rw [e];rfl);rw [hn] at hJ hcap hi hl;have CD:=Kb (fun (w:World) (hown:w.ownsRow B 90 6 (.slice (some ⟨g,0,none⟩) n cap) n (cellsK eeC l))=>del_at l g n cap i r w B hshl hn hown hi hr (by omega));have hown:w.ownsRow B 90 6 (.slice (some ⟨g,0,none⟩) n cap) n (cellsK eeC l):=own_eq hJ.own hn rfl;obtain ⟨⟨u,vv,st,hh,bo,ti⟩,xe⟩:=x;obtain ⟨⟨a1,n1,k1,e1⟩,a2,n2,k2,e2⟩:=hshp;have e1:vv = .slice a1 n1 k1:=e1;have e2:hh = .slice a2 n2 k2:=e2;subst e1 e2;have c0:=cc 0 _ rfl;have c1:=cc 1 _ rfl;have c2:=cc 2 _ rfl;have c3:=cc 3 _ rfl;have c4:=cc 4 _ rfl;have c5:=cc 5 _ rfl;simp only [Ku] at c0;have hii:(i:Int)<(n:Int):=by omega
 have hi0:(0:Int)<=(i:Int):=by omega
 have j0:=hJ.at_.c 0 rfl;have jl:=hJ.at_.lt;have K1:=AtL.new w (eeC (⟨u,.slice a1 n1 k1,st,.slice a2 n2 k2,bo,ti⟩,xe)) 90;have hb1:Below w.heap.size w (w.alloc (.cells (eeC (⟨u,.slice a1 n1 k1,st,.slice a2 n2 k2,bo,ti⟩,xe)).toArray 90)):=(Kc w).alloc lr _;have J1:=hJ.below hb1 lr;have hKg:w.heap.size≠g:=by omega
 have hKj:w.heap.size≠jb:=by omega
 have hown1:=own_below hown hb1 lr;have HMEM:=Kb hmem;have HLR:=Kb hlr;have HONE:=Kb one;have HJ:=Kb hJ;have HN:=Kb hn;have HR:=Kb hr;have HX:=Kb hx;clear hmem hlr one hshl cc hcell hx hJ hn hr hown;go_enter Tryz.func123,Tryz.ntmps123;go_wp2_with fail;obtain ⟨w1,hw1⟩:∃ w1:World,w.alloc (.cells (eeC (⟨u,.slice a1 n1 k1,st,.slice a2 n2 k2,bo,ti⟩,xe)).toArray 90)=w1:=⟨_,rfl⟩
 obtain ⟨K,hK⟩:=Ka w.heap.size;rw [hw1] at K1 hb1 J1 hown1;rw [hK] at K1 hKg hKj;rw [hw1,hK];have HK:=Kb hK;clear hw1 hK c0 c1 c2 c3 c4 c5;have z_:=K1.o6;have q0:=J1.at_.c 0 rfl;have f0:=J1.at_.f 0 rfl;have kl:=K1.lt;have jl1:=J1.at_.lt;clear j0;have R1:=J1.row;have rb1:RowBut K jb (some g) w w1:=(RowBut.refl K jb (some g) w).below hb1 (Jl HK.out.symm);have hK1:K<=w1.heap.size:=Kl kl;have hB1:=J1.le;have hg1:w1.heap.size≠g:=by have:=hb1.size;omega
 have R1:RowIn w1 jb B (.slice (some ⟨g,0,none⟩) n cap) l:=by have:=HN.out;subst this;exact R1
 have hX1:Rd w1 ⟨u,.slice a1 n1 k1,st,.slice a2 n2 k2,bo,ti⟩ xe:=R1.rd _ (HMEM.out _ (Kz.2 (.inr (Jc.2 rfl))));have hwr:IntKind.i64.wrap ((i:Int)+1)=(i:Int)+1:=IntWalk.i64_in _ (by omega);have hrl:r+1<=1000:=by have:=HR.out;omega
 have RB0:=Kb rb1;have HX1:=Kb hX1;have HF:=Kb hfar;have HR1:=Kb R1;have HJ1:=Kb J1;clear rb1 hX1 hfar hrd R1 J1
 go_region_law (first
  | (go_simp;(with_reducible refine (CD.out w1.drew hown1.drew).mono ?_);rintro e wD ⟨rfl,hownD,hbD⟩;have hb9:=BelowBut.of (n:=w1.heap.size) (Kc w1).drew hbD lr;have KD:=K1.but hb9 kl hKg;have JD:=HJ1.out.at_.but hb9 jl1 (Ne.symm hgj);have RD:=HR1.out.dr.del HLR.out hownD (fun y hy=>HMEM.out y (Kz.2 (.inl hy))) hbD;have rbD:=RB0.out.trans ((hb9.toRow jb).mono hK1);have XD:=HX1.out.row (x:=(⟨u,.slice a1 n1 k1,st,.slice a2 n2 k2,bo,ti⟩,xe)) (hb9.toRow jb) lr HF.out;have y_:=KD.o6;have t0:=JD.c 0 rfl;have u0:=JD.f 0 rfl;have klD:=KD.lt;have jlD:=JD.lt;have hDz:=hb9.size)
  | (go_simp;(with_reducible refine (CD.out (w1.alloc (.cells #[.string u,.slice a1 n1 k1,.int .i64 st,.slice a2 n2 k2,.string bo,.int .i64 ti] 90)).drew (hown1.alloc _).drew).mono ?_);rintro e wD ⟨rfl,hownD,hbD⟩;have hb9:=BelowBut.of (n:=w1.heap.size) ((Kc w1).alloc lr (.cells #[.string u,.slice a1 n1 k1,.int .i64 st,.slice a2 n2 k2,.string bo,.int .i64 ti] 90)).drew hbD (by simp);have NA:=(AtL.new w1 (eeC (⟨u,.slice a1 n1 k1,st,.slice a2 n2 k2,bo,ti⟩,xe)) 90).drew.but hbD (by simp) hg1;have KD:=K1.but hb9 kl hKg;have JD:=HJ1.out.at_.but hb9 jl1 (Ne.symm hgj);have RD:=(HR1.out.al _).dr.del HLR.out hownD (fun y hy=>HMEM.out y (Kz.2 (.inl hy))) hbD;have rbD:=RB0.out.trans ((hb9.toRow jb).mono hK1);have XD:=HX1.out.row (x:=(⟨u,.slice a1 n1 k1,st,.slice a2 n2 k2,bo,ti⟩,xe)) (hb9.toRow jb) lr HF.out;have y_:=KD.o6;have t0:=JD.c 0 rfl;have u0:=JD.f 0 rfl;have klD:=KD.lt;have jlD:=JD.lt;have hDz:=hb9.size)
  | (refine step_appG slE wD (by rfl) (.tmp 20) (.tmp 22) (by rfl) B _ r (cellsK eeC (l.eraseIdx i)) (by rfl) hownD (eeC (⟨u,.slice a1 n1 k1,st,.slice a2 n2 k2,bo,ti⟩,xe)) 1 w1.heap.size (by rfl) NA rfl HONE.out (by decide) (by omega) (by omega) (Kg hB1 hDz) ?_;intro g5 cap5 w5 hown5 hgrow hat hlt;have F5:=RowIn.app RD XD HF.out jlD (by rw [HLR.out]) hown5 hgrow hat;have rb5:=rbD.grown hgrow (Kg hK1 hDz);have J5:=JD.grown hgrow (fun e=>hgj (Zl e));have t5:=J5.c 0 rfl;have u5:=J5.f 0 rfl;have jl5:=J5.lt)
  | (refine step_appG slE (wD.alloc (.cells #[.string u,.slice a1 n1 k1,.int .i64 st,.slice a2 n2 k2,.string bo,.int .i64 ti] 90)) (by rfl) (.tmp 20) (.tmp 22) (by rfl) B _ r (cellsK eeC (l.eraseIdx i)) (by rfl) (hownD.alloc _) (eeC (⟨u,.slice a1 n1 k1,st,.slice a2 n2 k2,bo,ti⟩,xe)) 1 wD.heap.size (by rfl) (AtL.new wD (eeC (⟨u,.slice a1 n1 k1,st,.slice a2 n2 k2,bo,ti⟩,xe)) 90) rfl HONE.out (by decide) (by omega) (by omega) (by simp;have:=Kg hB1 hDz;omega) ?_;intro g5 cap5 w5 hown5 hgrow hat hlt;have F5:=RowIn.app (RD.al _) (XD.below ((Kc wD).alloc lr _) lr) HF.out (by simp;omega) (by rw [HLR.out]) hown5 hgrow hat;have rb5:=(rbD.below ((Kc wD).alloc lr _) (Kg hK1 hDz)).grown hgrow (by simp;have:=Kg hK1 hDz;omega);have J5:=(JD.alloc _).grown hgrow (fun e=>hgj (Zl e));have t5:=J5.c 0 rfl;have u5:=J5.f 0 rfl;have jl5:=J5.lt))
 all_goals
  clear hwr;go_wp2_with fail;go_end0;obtain ⟨F1,F2⟩:=F5;refine ⟨rfl,⟨_,F1.store J5,?_⟩,?_⟩
  ·rw [HK.out];exact fun g' e=>(F2 g' e).imp id (fun h=>by first | (simp at h;omega) | omega)
  ·rw [HK.out];exact rb5.setCell ⟨jb,0,none⟩ (Or.inl rfl) _
end Go.Proofs.YtjdhaacmlpegoaaGreatDoor
namespace Go.Proofs.YtjdhaacmlpegoaaGreatDoor
open Go.RowKit Go.Shelf
attribute [local go_sem] Oper.semAt_some
def LastAt {α:Type}(p:α->Bool)(l:List α)(R:Int):Prop:=(R = -1/\∀ j (h:j<l.length),p l[j]=false)\/(∃ k,∃ h:k<l.length,R=(k:Nat)/\p l[k]=true/\∀ j (h:j<l.length),k<j->p l[j]=false)
theorem LastAt.none {α:Type}{p:α->Bool}{l:List α}{R:Int}(h:LastAt p l R)(hn:∀ j (h:j<l.length),p l[j]=false):R = -1:=by
 rcases h with ⟨h,_⟩ | ⟨k,hk,_,h2,_⟩
 ·exact h
 ·rw [hn k hk] at h2;cases h2
theorem LastAt.some {α:Type}{p:α->Bool}{l:List α}{R:Int}(h:LastAt p l R)(k:Nat)(hk:k<l.length)(hp:p l[k]=true)(hn:∀ j (h:j<l.length),k<j->p l[j]=false):R=(k:Nat):=by
 rcases h with ⟨_,h⟩ | ⟨k2,hk2,h1,h2,h3⟩
 ·rw [h k hk] at hp;cases hp
 ·rcases Nat.lt_trichotomy k k2 with e | e | e
  ·rw [hn k2 hk2 e] at h2;cases h2
  ·rw [h1,e]
  ·rw [h3 k hk e] at hp;cases hp
theorem LastAt.bd {α:Type}{p:α->Bool}{l:List α}{R:Int}(h:LastAt p l R): -1<=R/\R<l.length:=by rcases h with ⟨h,_⟩ | ⟨k,hk,h,_⟩ <;> omega
def bk (n k:Nat):List Nat:=(List.range k).map (fun j=>n - 1 - j)
theorem bk_succ (n k:Nat):bk n (k+1)=bk n k ++ [n - 1 - k]:=by simp [bk,List.range_succ]
theorem bk_length (n k:Nat):(bk n k).length=k:=by simp [bk]
theorem bw_in (F:Fence)(n:Nat)(hF:F.fn 182)(hro:F.round=none)(a:Option Addr)(len cap:Nat)(w:World):
 CallsIn F n Tryz.prog 182 #[.slice a len cap] w fun e w'=>e = .returned (.func (.func 239) #[] #[.pointer (some ⟨w.heap.size,0,none⟩)])/\w'=w.alloc (.cells #[.slice a len cap] 25):=by
 refine callsIn_of_wp Tryz.func182 rfl hF ?_ hro
 simp only [Tryz.ntmps182,List.size_toArray,Kv,Zg,Nat.reduceAdd,Nat.reduceSub,Array.replicate_succ,Array.replicate_zero,List.push_toArray,List.append_toArray,Jp,Jn]
 gi_wp2
 go_ret
 exact ⟨rfl,rfl⟩
theorem bw1_in (F:Fence)(n:Nat)(hF:F.fn 239)(hro:F.round=none)(hn:1<=n)(l:List Ee)(lp Bs n₀ b off cap:Nat)(hb:b<n₀)(hBn:Bs<n₀)(hlen:l.length<=1000)(h0l:0<l.length)(J Jx:List (Fin l.length)->World->Prop)
 (hY:∀ pre (x:Fin l.length) W,J pre W->pre.length<l.length->YieldAt F (n - 1) Tryz.prog lp #[.int .i64 ((x.val:Nat):Int),eeA l[x]] W fun e W'=>
   (e = .returned (.bool true)/\J (pre ++ [x]) W'/\Below n₀ W W')\/(e = .returned (.bool false)/\Jx (pre ++ [x]) W'))
 (W:World) (hBs:W.cell? ⟨Bs,0,none⟩=some (.slice (some ⟨b,off,none⟩) l.length cap)) (hc:∀ i (h:i<l.length) j u,(eeC l[i])[j]? = some u->W.cell? ⟨b,off+i * 6+j,none⟩=some u) (h0:J [] W) :
 CallsIn F n Tryz.prog 239 #[.func (.yield lp) #[] #[],.pointer (some ⟨Bs,0,none⟩)] W fun e W'=>(∃ v,e = .returned v) /\
  ((∃ ys,ys.map Fin.val=bk l.length l.length/\J ys W')\/(∃ pre,(∃ k,k<=l.length/\pre.map Fin.val=bk l.length k)/\Jx pre W')):=by
 refine callsIn_of_wp Tryz.func239 rfl hF ?_ hro
 simp only [Tryz.ntmps239,List.size_toArray,Kv,Zg,Nat.reduceAdd,Nat.reduceSub,Array.replicate_succ,Array.replicate_zero,List.push_toArray,List.append_toArray,Jp,Jn]
 obtain ⟨N,hN⟩:∃ N,l.length=N+1:=⟨l.length - 1,by omega⟩
 have hNN:(l.length:Int) - 1=(N:Int):=by omega
 have HN:=Kb hN
 have HC:=Kb hc
 have HY:=Kb hY
 clear hN hc hY
 gi_wp2
 gi_loopw [3] (fun i wr=>∃ (m k:Nat) (pre:List (Fin l.length)),m+k=l.length/\i = .int .i64 ((m:Int) - 1)/\Hid (pre.map Fin.val=bk l.length k)/\J pre wr/\Below n₀ W wr) (fun i _=>(intOf i+1).toNat)
 case atStart=>exact ⟨l.length,0,[],by omega,by rw [hNN],Kb rfl,h0,Kc _⟩
 case round=>
  obtain ⟨m,k,pre,hmk,rfl,HP,hJs,hnx⟩:=hrel
  have hB1:=(hnx.cell (p:=⟨Bs,0,none⟩) hBn).trans hBs
  cases m with
  | zero=>
    obtain rfl:k=l.length:=by omega
    have hz:((0:Nat):Int) - 1 = -1:=by omega
    rw [hz]
    gi_wp2
    go_end0
    exact ⟨⟨_,rfl⟩,.inl ⟨_,HP.out,hJs⟩⟩
  | succ m=>
    have hml:m<l.length:=by omega
    have hz:((m+1:Nat):Int) - 1=(m:Int):=by omega
    rw [hz]
    have hmi:(m:Int)<(l.length:Int):=by omega
    have hm0:(0:Int)<=(m:Int):=by omega
    have hpl:pre.length=k:=by have:=Kq List.length HP.out;rw [bk_length] at this;simpa using this
    have hbs:(pre ++ [(⟨m,hml⟩:Fin l.length)]).map Fin.val=bk l.length (k+1):=by
     rw [Zi,HP.out,bk_succ]
     have e:m=l.length - 1 - k:=by omega
     simp [<-e]
    have HBS:=Kb hbs
    obtain ⟨fn,tmps,assign,body,hy,hR⟩:=HY.out pre ⟨m,hml⟩ wr hJs (by omega)
    have hcc:=HC.out m hml
    have cc:∀ j u,(eeC l[m])[j]? = some u->wr.cell? ⟨b,off+m * 6+j,none⟩=some u:=fun j u hu=>(hnx.cell (p:=⟨b,off+m * 6+j,none⟩) hb).trans (hcc j u hu)
    have hy:(Instr.yield lp #[.int .i64 (m:Int),eeA l[m]]).run Tryz.prog wr = .ok (.round lp fn tmps assign body) wr:=hy
    obtain ⟨y,hyy⟩:=Ka (l[m])
    rw [hyy] at cc hy
    clear hyy hcc hpl hbs
    obtain ⟨⟨u,vv,st,hh,bo,ti⟩,ye⟩:=y
    have hy:(Instr.yield lp #[.int .i64 (m:Int),.agg #[.string u,vv,.int .i64 st,hh,.string bo,.int .i64 ti]]).run Tryz.prog wr = .ok (.round lp fn tmps assign body) wr:=hy
    have c0:=cc 0 _ rfl
    have c1:=cc 1 _ rfl
    have c2:=cc 2 _ rfl
    have c3:=cc 3 _ rfl
    have c4:=cc 4 _ rfl
    have c5:=cc 5 _ rfl
    simp only [Ku] at c0
    clear cc
    gi_wp2
    refine hR.mono ?_
    rintro e W3 (⟨rfl,hJ3,hk3⟩ | ⟨rfl,hJx3⟩)
    ·gi_wp2
     go_roundw
     case rel=>exact ⟨m,k+1,_,by omega,rfl,HBS,hJ3,hnx.trans hk3⟩
     case measure=>simp [intOf]
    ·gi_wp2
     refine bodyPost_ret (results_none rfl _ _ _) rfl ?_
     exact ⟨⟨_,rfl⟩,.inr ⟨_,⟨k+1,by omega,HBS.out⟩,hJx3⟩⟩
theorem bw1_nil_in (F:Fence)(n:Nat)(hF:F.fn 239)(hro:F.round=none)(a:Option Addr)(cap:Nat)(lp Bs:Nat)(J:World->Prop)(W:World)(hBs:W.cell? ⟨Bs,0,none⟩=some (.slice a 0 cap))(h0:J W):
 CallsIn F n Tryz.prog 239 #[.func (.yield lp) #[] #[],.pointer (some ⟨Bs,0,none⟩)] W fun e W'=>(∃ v,e = .returned v)/\J W':=by
 refine callsIn_of_wp Tryz.func239 rfl hF ?_ hro
 simp only [Tryz.ntmps239,List.size_toArray,Kv,Zg,Nat.reduceAdd,Nat.reduceSub,Array.replicate_succ,Array.replicate_zero,List.push_toArray,List.append_toArray,Jp,Jn]
 gi_wp2
 gi_loopw [3] (fun i wr=>i = .int .i64 (-1)/\J wr) (fun _ _=>0)
 case atStart=>exact ⟨rfl,h0⟩
 case round=>
  obtain ⟨rfl,hJs⟩:=hrel
  gi_wp2
  go_end0
  exact ⟨⟨_,rfl⟩,hJs⟩
theorem bw_stops (F:Fence)(n:Nat)(hF:F.fn 239)(hro:F.round=none)(hn:1<=n)(l:List Ee)(v:Value)(Bs n₀:Nat)(hlen:l.length<=1000)(w:World)(hBs:w.cell? ⟨Bs,0,none⟩=some v)(hBn:Bs<n₀)(hnw:n₀<=w.heap.size)(hv:∀ w2,Below w.heap.size w w2->SlK eeC 6 w2 v l)(hvb:∀ b off m c,v = .slice (some ⟨b,off,none⟩) m c->l≠[]->b<n₀):
 SeqStopsK F n Tryz.prog 239 #[.pointer (some ⟨Bs,0,none⟩)] (fun x:Fin l.length=>#[.int .i64 ((x.val:Nat):Int),eeA l[x]]) (Below n₀) (fun ys=>ys.map Fin.val=bk l.length l.length) (fun pre=>∃ k,k<=l.length/\pre.map Fin.val=bk l.length k) l.length w:=fun lp J Jx W hW _ _ hY h0=>by
 have hBl:Bs<w.heap.size:=cell_lt hBs
 have hc':=(hW.cell (p:=⟨Bs,0,none⟩) hBl).trans hBs
 rcases hv W hW with ⟨h1,a,cap,h2,_⟩ | ⟨h1,b,off,cap,h2,_,_,h4,h5⟩
 ·subst h2
  have hl0:l.length=0:=by rw [h1];rfl
  refine (bw1_nil_in F n hF hro a cap lp Bs (J []) W (by simpa using hc') h0).mono fun e W' ⟨he,hj⟩=>⟨he,.inl ⟨[],?_,hj⟩⟩
  rw [hl0];rfl
 ·subst h2
  exact bw1_in F n hF hro hn l lp Bs n₀ b off cap (hvb b off _ _ rfl h1) hBn hlen (Xf.2 h1) J Jx hY W hc' h5 h0
theorem bk_mem (n k j:Nat)(hj:j<n)(h:n - 1 - j<k):j∈bk n k:=by unfold bk;exact List.mem_map.2 ⟨n - 1 - j,List.mem_range.2 h,by omega⟩
theorem bk_split (n k:Nat)(ini:List (Fin n))(last:Fin n)(h:(ini ++ [last]).map Fin.val=bk n k):ini.map Fin.val=bk n (k - 1)/\last.val=n - 1 - (k - 1):=by
 cases k with
 | zero=>simp [bk] at h
 | succ k=>
   rw [bk_succ,Zi] at h
   obtain ⟨h1,h2⟩:=List.append_inj' h rfl
   exact ⟨h1,by simpa using h2⟩
def bB (l:List Ee)(url:ByteArray)(rq:List Hd)(x:Fin l.length):Bool:=ansB l[x].2 url rq
theorem AtL.kept {W W':World}{k:Nat}{vs:List Value}{row:Option Nat}(h:AtL W k vs)(h0:0<vs.length)(hg:W.grownBy W' row)(hr:∀ r,row=some r->∃ o:Obj,W.heap[r]? = some o/\o.isCells=false):AtL W' k vs:=
 ⟨Ko h.1 hg.size,fun j v hv=>⟨cell_kept (h.c j hv) hg hr,(frozen_kept (h.c j hv) hg hr).trans (h.f j hv)⟩⟩
theorem keeps_of_below {W W':World}(h:Below W.heap.size W W')(B:Nat):KeepsFrom B W W':=⟨h.size,fun k o _ hk _=>(h.block k (Xq.1 hk).1).trans hk⟩
theorem find_in (F:Fence)(n:Nat)(h55:F.fn 119)(h76:F.fn 182)(h92:F.fn 239)(h60:F.fn 183)(hro:F.round=none)(hn:3<=n)
 (hans:∀ (l:Nat) (x:Ee) (url:ByteArray) (rq:List Hd) (vr:Value) (W:World),Rd W x.1 x.2->SlK hdC 2 W vr rq->HdSz rq->HdSz x.2.va->CallsIn (F.inRound l) (n - 1 - 1 - 1) Tryz.prog 183 #[eeA x,.string url,vr] W fun e w'=>e = .returned (.bool (ansB x.2 url rq))/\Below W.heap.size W w')
 (jb:Nat) (v:Value) (l:List Ee) (w:World) (hA:AtL w jb [v]) (hv:SlK eeC 6 w v l) (hrd:∀ x∈l,Rd w x.1 x.2/\HdSz x.2.va) (hl:l.length<=1000) (url:ByteArray) (rq:List Hd) (vr:Value) (hq:SlK hdC 2 w vr rq) (hz:HdSz rq) (R:Int) (hR:LastAt (fun x=>ansB x.2 url rq) l R) :
 CallsIn F n Tryz.prog 119 #[.pointer (some ⟨jb,0,none⟩),.string url,vr] w fun e w'=>e = .returned (.int .i64 R)/\Below w.heap.size w w':=by
 have h1:1<=n:=by omega
 have j0:=hA.c 0 rfl
 have jl:=hA.lt
 obtain ⟨sa,sc,rfl,_⟩:=hq.shape
 obtain ⟨ta,tc,rfl,_⟩:=hv.shape
 have HR:=Kb hR
 have HRD:=Kb hrd
 clear hR hrd
 refine callsIn_of_wp_marks Tryz.func119 rfl h55 ?_ hro
 simp only [Tryz.ntmps119,List.size_toArray,Kv,Zg,Nat.reduceAdd,Nat.reduceSub,Array.replicate_succ,Array.replicate_zero,List.push_toArray,List.append_toArray,Jp,Jn]
 have A3:=((hA.alloc (.cells #[.string url] 9)).alloc (.cells #[.slice sa rq.length sc] 28)).alloc (.cells #[.int .i64 0] 3)
 have a30:=A3.c 0 rfl
 have al3:=A3.lt
 gi_wp2_with (gi_at_call 182;refine (bw_in F (n - 1) h76 hro _ _ _ _).mono ?_;rintro e w' ⟨rfl,rfl⟩)
 clear a30 al3 A3 j0
 have U0:=(((AtL.new w [.string url] 9).alloc (.cells #[.slice sa rq.length sc] 28)).alloc (.cells #[.int .i64 0] 3)).alloc (.cells #[.slice ta l.length tc] 25)
 have Q0:=((AtL.new (w.alloc (.cells #[.string url] 9)) [.slice sa rq.length sc] 28).alloc (.cells #[.int .i64 0] 3)).alloc (.cells #[.slice ta l.length tc] 25)
 have R0:=(AtL.new ((w.alloc (.cells #[.string url] 9)).alloc (.cells #[.slice sa rq.length sc] 28)) [.int .i64 0] 3).alloc (.cells #[.slice ta l.length tc] 25)
 have I0:=AtL.new (((w.alloc (.cells #[.string url] 9)).alloc (.cells #[.slice sa rq.length sc] 28)).alloc (.cells #[.int .i64 0] 3)) [.slice ta l.length tc] 25
 have hB0:Below w.heap.size w ((((w.alloc (.cells #[.string url] 9)).alloc (.cells #[.slice sa rq.length sc] 28)).alloc (.cells #[.int .i64 0] 3)).alloc (.cells #[.slice ta l.length tc] 25)):=((((Kc w).alloc lr _).alloc (by simp) _).alloc (by simp;omega) _).alloc (by simp;omega) _
 simp only [World.size_alloc] at U0 Q0 R0 I0 ⊢
 obtain ⟨W0,hW0⟩:∃ W0:World,(((w.alloc (.cells #[.string url] 9)).alloc (.cells #[.slice sa rq.length sc] 28)).alloc (.cells #[.int .i64 0] 3)).alloc (.cells #[.slice ta l.length tc] 25)=W0:=⟨_,rfl⟩
 have hsz:W0.heap.size=w.heap.size+1+1+1+1:=by rw [<-hW0];simp
 obtain ⟨C,hC⟩:=Ka w.heap.size
 have U0:AtL W0 C [.string url]:=by rw [<-hW0,<-hC];exact U0
 have Q0:AtL W0 (C+1) [.slice sa rq.length sc]:=by rw [<-hW0,<-hC];exact Q0
 have R0:AtL W0 (C+1+1) [.int .i64 0]:=by rw [<-hW0,<-hC];exact R0
 have I0:AtL W0 (C+1+1+1) [.slice ta l.length tc]:=by rw [<-hW0,<-hC];exact I0
 rw [hW0] at hB0
 rw [hC] at hB0 hsz
 rw [hW0,hC]
 have hv0:=hv.below hB0 (Jl hC)
 have hq0:=hq.below hB0 (Jl hC)
 have HRD0:=Kb (fun x hx=>((HRD.out x hx).1.below hB0 (Jl hC)))
 clear hW0
 refine wpIn_rangeFunc_ownH hro h1 (gf:=239) (lb:=#[.pointer (some ⟨C+1+1+1,0,none⟩)]) rfl h92 (enters_of Tryz.func239 (by kernel_rfl) rfl)
  (bw_stops F (n - 1) h92 hro (by omega) l _ (C+1+1+1) W0.heap.size hl W0 (I0.c 0 rfl) I0.lt lr (fun w2 h=>hv0.below h lr) (fun b off m c e h0=>by
    rcases hv0 with ⟨h2,_⟩ | ⟨_,b2,off2,cap,h3,_,_,h4,_⟩
    ·exact absurd h2 h0
    ·rw [h3] at e
     injection e with e1 _ _
     injection e1 with e1
     injection e1 with e1
     omega)) belowK_t (belowK_b lr) (Kc _) (fun _=>rfl)
  (fun pre W=>(∀ x∈pre,bB l url rq x=false)/\Below W0.heap.size W0 W)
  (fun c pre W=>(c = .ret/\∃ ini last,pre=ini ++ [last]/\(∀ x∈ini,bB l url rq x=false)/\bB l url rq last=true/\W.cell? ⟨C+1+1,0,none⟩=some (.int .i64 ((last.val:Nat):Int)))/\Below C w W)
  (OwnFrom.and (ownFrom_pure _ _) (ownFrom_below lr lr))
  (fun c=>OwnFrom.and (Own.from (fun s A B row hs hg hr=>by obtain ⟨hc,ini,last,e1,e2,e3,e4⟩:=hs;exact ⟨hc,ini,last,e1,e2,e3,cell_kept e4 hg hr⟩) _) (ownFrom_below (Jl hC.symm) (by omega)))
  ⟨fun x hx=>(by cases hx),Kc _⟩
  (fun x a' W=>∃ Bx,W0.heap.size<=Bx/\AtL W Bx (eeC l[x])/\a'={ tmps:=#[.pointer (some ⟨jb,0,none⟩),.string url,.slice sa rq.length sc,undef,.pointer (some ⟨C,0,none⟩),.pointer (some ⟨C+1,0,none⟩),.pointer (some ⟨C+1+1,0,none⟩),.int .i64 ((x.val:Nat):Int),.pointer (some ⟨Bx,0,none⟩),.pointer (some ⟨jb,0,none⟩),.pointer (some ⟨jb,0,none⟩),.pointer (some ⟨jb,0,none⟩),.slice ta l.length tc,.func (.func 239) #[] #[.pointer (some ⟨C+1+1+1,0,none⟩)],.int .i64 ((x.val:Nat):Int),eeA l[x],undef,undef,undef,undef,undef],defers:=[] })
  (fun x a'=>Own.from (fun _ A B row hs hg hr=>by obtain ⟨Bx,h1,h2,h3⟩:=hs;exact ⟨Bx,h1,h2.kept (by simp) hg hr,h3⟩) _) ?assign ?body ?done ?stop
 case assign=>
  intro lp pre x W K hi hK
  obtain ⟨⟨a1,n1,k1,e1⟩,a2,n2,k2,e2⟩:=(HRD0.out l[x] (Ky x.isLt)).shp
  obtain ⟨y,hy⟩:=Ka (l[x])
  have hK2:K { tmps:=#[.pointer (some ⟨jb,0,none⟩),.string url,.slice sa rq.length sc,undef,.pointer (some ⟨C,0,none⟩),.pointer (some ⟨C+1,0,none⟩),.pointer (some ⟨C+1+1,0,none⟩),.int .i64 ((x.val:Nat):Int),.pointer (some ⟨W.heap.size,0,none⟩),.pointer (some ⟨jb,0,none⟩),.pointer (some ⟨jb,0,none⟩),.pointer (some ⟨jb,0,none⟩),.slice ta l.length tc,.func (.func 239) #[] #[.pointer (some ⟨C+1+1+1,0,none⟩)],.int .i64 ((x.val:Nat):Int),eeA l[x],undef,undef,undef,undef,undef],defers:=[] } (W.alloc (.cells (eeC l[x]).toArray 90)):=
   hK _ _ ((KeepsOthers.alloc _ _).from _) ((Kc W).alloc hi.2.size _) ⟨hi.1,hi.2.alloc hi.2.size _⟩ ⟨W.heap.size,hi.2.size,AtL.new W (eeC l[x]) _,rfl⟩
  simp only [] at hK2 ⊢
  rw [hy] at hK2 e1 e2
  have hk2:=Kb hK2
  clear hK2 hK hi
  obtain ⟨⟨u,vv,st,hh,bo,ti⟩,ye⟩:=y
  have e1:vv = .slice a1 n1 k1:=e1
  have e2:hh = .slice a2 n2 k2:=e2
  subst e1 e2
  show (_:Code).wpIn _ _ _ _ { tmps:=(#[14,15].zip #[.int .i64 ((x.val:Nat):Int),eeA l[x]]).foldl _ _,defers:=[] } W
  rw [hy]
  gi_wp2
  exact hk2.out
 case body=>
  rintro lp pre x a' W hlt ⟨r,hr⟩ ⟨hp,hB⟩ ⟨Bx,hBx,bX,rfl⟩ hlen
  have hn1:1<=n - 1 - 1:=by omega
  have hrx:=(HRD0.out l[x] (Ky x.isLt)).below hB lr
  have hca:=hans lp l[x] url rq _ W hrx (hq0.below hB lr) hz (HRD.out l[x] (Ky x.isLt)).2
  have hbx:ansB l[x].2 url rq=bB l url rq x:=rfl
  rw [hbx] at hca
  obtain ⟨⟨a1,n1,k1,e1⟩,a2,n2,k2,e2⟩:=hrx.shp
  obtain ⟨y,hy⟩:=Ka (l[x])
  rw [hy] at hca bX e1 e2 ⊢
  have UW:=U0.next hB
  have QW:=Q0.next hB
  have uc:=UW.c 0 rfl
  have qc:=QW.c 0 rfl
  have ul:=UW.lt
  have ql:=QW.lt
  have xl:=bX.lt
  have hBz:=hB.size
  have HP:=Kb hp
  clear hy hbx hrx hr hp
  obtain ⟨⟨u,vv,st,hh,bo,ti⟩,ye⟩:=y
  have e1:vv = .slice a1 n1 k1:=e1
  have e2:hh = .slice a2 n2 k2:=e2
  subst e1 e2
  have z_:=bX.o6
  cases hb:bB l url rq x with
  | true=>
    rw [hb] at hca
    have HB:=Kb hb
    have HCA:=Kb hca
    clear hb hca
    gi_wp2_with (gi_at_call 183;refine HCA.out.mono ?_;rintro e w2 ⟨rfl,hb2⟩;have hBA:=hB.trans (hb2.mono hBz);have RW:=R0.next hBA;have rc:=RW.c 0 rfl;have rf:=RW.f 0 rfl;have rl:=RW.lt)
    exact ⟨(keeps_of_below hb2 _).trans ((KeepsOthers.setCell _ _ _).from _),⟨rfl,pre,x,rfl,HP.out,HB.out,World.cell?_setCell_same' _ _ _ (by rw [rc];rfl)⟩,(hB0.trans (hBA.mono (by omega))).setCell (p:=⟨C+1+1,0,none⟩) (by show C<=C+1+1;omega) _⟩
  | false=>
    rw [hb] at hca
    have HB:=Kb hb
    have HCA:=Kb hca
    clear hb hca
    gi_wp2_with (gi_at_call 183;refine HCA.out.mono ?_;rintro e w2 ⟨rfl,hb2⟩)
    exact ⟨keeps_of_below hb2 _,hb2.mono hBz,fun z hz=>(Kz.1 hz).elim (HP.out z) (fun e=>by obtain rfl:=Jc.1 e;exact HB.out),hB.trans (hb2.mono hBz)⟩
 case done=>
  rintro D ys W hD hS ⟨hp,hB⟩ hK
  obtain rfl:R = -1:=HR.out.none (fun j hj=>by
   have hm:j∈ys.map Fin.val:=by rw [hS];exact bk_mem l.length l.length j hj (by omega)
   obtain ⟨x,hx,rfl⟩:=List.mem_map.1 hm
   exact hp x hx)
  have RW:=R0.next hB
  have rc:=RW.c 0 rfl
  have rf:=RW.f 0 rfl
  have rl:=RW.lt
  have HP:=Kb hp
  have HS:=Kb hS
  clear hp hS
  gi_wp2
  have hK':=(KeepsOthers.setCell W ⟨C+1+1,0,none⟩ (.int .i64 (-1))).same D _ hK rfl
  refine ⟨by simp,.inl ⟨_,_,rfl,run_takeDeferred hK',?_⟩⟩
  have hc5:=cell_kept (World.cell?_setCell_same' W ⟨C+1+1,0,none⟩ (.int .i64 (-1)) (by rw [rc];rfl)) (grownBy_putObj' _ D (.deferred none)) (fun r e=>by cases e;exact ⟨_,hK',rfl⟩)
  have hfin:=((hB0.trans (hB.mono (by omega:C<=W0.heap.size))).setCell (p:=⟨C+1+1,0,none⟩) (by show C<=C+1+1;omega) (.int .i64 (-1))).trans (belowK_b (w:=w) (Jl hC.symm) _ D _ (.deferred none) (by omega) hK' rfl rfl)
  refine ⟨.int .i64 (-1),?_,rfl,by rw [hC];exact hfin⟩
  simp [results,Tryz.f119,go_sem,hc5]
 case stop=>
  rintro D c pre W hD ⟨k,hk,hpk⟩ ⟨⟨rfl,ini,last,e1,e2,e3,hcr⟩,hB⟩ hK
  obtain rfl:R=((last.val:Nat):Int):=HR.out.some last.val last.isLt e3 (fun j hj hlt=>by
   obtain ⟨h1,h2⟩:=bk_split l.length k ini last (by rw [<-e1];exact hpk)
   have hm:j∈ini.map Fin.val:=by rw [h1];exact bk_mem l.length (k - 1) j hj (by omega)
   obtain ⟨x,hx,rfl⟩:=List.mem_map.1 hm
   exact e2 x hx)
  clear e1 e2 e3 hpk
  gi_wp2
  refine ⟨by simp,.inl ⟨_,_,rfl,run_takeDeferred hK,?_⟩⟩
  have hc5:=cell_kept hcr (grownBy_putObj' _ D (.deferred none)) (fun r e=>by cases e;exact ⟨_,hK,rfl⟩)
  have hfin:=hB.trans (belowK_b (w:=w) (Jl hC.symm) W D _ (.deferred none) (by omega) hK rfl rfl)
  refine ⟨.int .i64 ((last.val:Nat):Int),?_,rfl,by rw [hC];exact hfin⟩
  simp [results,Tryz.f119,go_sem,hc5]
theorem find_is (jb:Nat)(v:Value)(l:List Ee)(w:World)(hA:AtL w jb [v])(hv:SlK eeC 6 w v l)(hrd:∀ x∈l,Rd w x.1 x.2/\HdSz x.2.va)(hl:l.length<=1000)(url:ByteArray)(rq:List Hd)(vr:Value)(hq:SlK hdC 2 w vr rq)(hz:HdSz rq)(R:Int)(hR:LastAt (fun x=>ansB x.2 url rq) l R):
 Calls Tryz.prog 119 #[.pointer (some ⟨jb,0,none⟩),.string url,vr] w fun e w'=>e = .returned (.int .i64 R)/\Below w.heap.size w w':=
 callsIn_wide.1 (find_in Fence.wide 5 trivial trivial trivial trivial rfl (by omega) (fun l x url rq vr W h1 h2 h3 h4=>CallsIn.inRound l (callsIn_wide.2 (ans_is x url rq vr W h1 h2 h3 h4 _ rfl))) jb v l w hA hv hrd hl url rq vr hq hz R hR)
end Go.Proofs.YtjdhaacmlpegoaaGreatDoor
