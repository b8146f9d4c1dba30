/- Part 6 of what the proof needs: B3. -/
import Derived.Test.YtjdhaacmlpegoaaGreatDoorU05
set_option maxRecDepth 20000
set_option maxHeartbeats 16000000
set_option linter.unusedSimpArgs false
set_option linter.unusedVariables false
namespace Go.Proofs.YtjdhaacmlpegoaaGreatDoor
open Go.RowKit
theorem lowerh_any (s:ByteArray)(w:World)(hs:s.size<=1000000):
 Calls Tryz.prog 40 #[.string s] w fun e w'=>∃ t:ByteArray,e = .returned (.string t)/\t.data.toList=lowL s.data.toList/\Below w.heap.size w w':=by
 obtain ⟨cap,w1,hcv,hby,hb1⟩:=conv_bytes w s;go_enter Tryz.func40,Tryz.ntmps40;go_wp2;go_loopw [10] (fun iv wr=>∃ (k:Nat),k<=s.size/\iv = .int .i64 k/\BytesAt wr w.heap.size (lowL (s.data.toList.take k) ++ s.data.toList.drop k)/\Below w.heap.size w wr) (fun iv _=>s.size - (intOf iv).toNat);case atStart=>exact ⟨0,Kh _,rfl,hby,hb1⟩
 case round=>
  obtain ⟨k,hk,rfl,hbl,hbw⟩:=hrel;clear hby hb1 hcv;by_cases hlt:k<s.size
  ·exact N17
  ·exact N22
theorem lowh_is (s T:ByteArray)(hT:T.data.toList=lowL s.data.toList)(w:World)(hs:s.size<=1000000):
 Calls Tryz.prog 40 #[.string s] w fun e w'=>e = .returned (.string T)/\Below w.heap.size w w':=by refine (lowerh_any s w hs).mono ?_;rintro e w' ⟨t,rfl,ht,h⟩;exact ⟨by rw [ba_ext' (ht.trans hT.symm)],h⟩
theorem clockh_any (x:Int)(w:World):Calls Tryz.prog 259 #[.int .i64 x] w fun e w'=>e = .returned (.int .i64 (clockI x))/\w=w':=by go_enter Tryz.func259,Tryz.ntmps259;go_wp2;go_ret;exact ⟨ret_int rfl,rfl⟩
def digF (n:Nat)(b:UInt8):Nat:=n * 10+(b.toNat - 48)
def digV (l:List UInt8):Nat:=l.foldl digF 0
def secI (l:List UInt8):Int:=if 1<=l.length/\l.length<=9/\l.all digitB=true then (digV l:Nat) else -1
theorem dig_bd (b:UInt8)(h:digitB b=true):48<=b.toNat/\b.toNat<=57:=by simp only [digitB,digitI,Jb] at h;omega
theorem digF_bd:∀ (l:List UInt8)(n k:Nat) ,l.all digitB=true->n<10 ^ k->l.foldl digF n<10 ^ (k+l.length):=by
 intro l
 induction l with
 | nil=>intro n k _ h;simpa using h
 | cons b l ih=>
   intro n k h hn
   simp only [Zz,Jh] at h
   have hb:=dig_bd b h.1
   have:digF n b<10 ^ (k+1):=by
    unfold digF
    rw [Nat.pow_succ]
    omega
   have:=ih _ _ h.2 this
   rw [Kv,show k+(l.length+1)=k+1+l.length by omega]
   exact this
theorem digV_bd (l:List UInt8)(h:l.all digitB=true)(hl:l.length<=9):digV l<1000000000:=by have h1:=digF_bd l 0 0 h (by decide);have h2:10 ^ (0+l.length)<=10 ^ 9:=Nat.pow_le_pow_right (by decide) (by omega);exact Ko h1 h2
theorem secI_bd (l:List UInt8): -1<=secI l/\secI l<1000000000:=by
 unfold secI;split
 ·next h=>have:=digV_bd l h.2.2 h.2.1;omega
 ·omega
theorem decFrom_dig:∀ (l:List UInt8)(n:Nat) ,l.all digitB=true->Lib.decFrom n l=some (l.foldl digF n):=by
 intro l
 induction l with
 | nil=>intro n _;rfl
 | cons b l ih=>
   intro n h
   simp only [Zz,Jh] at h
   have hb:=dig_bd b h.1
   have e:Lib.digitVal b=some (b.toNat - 48):=by unfold Lib.digitVal;rw [Kf hb]
   unfold Lib.decFrom
   rw [e]
   exact ih _ h.2
theorem atoi_dig (l:List UInt8)(h:l.all digitB=true)(h0:l≠[]):Lib.atoi l=some ((digV l:Nat):Int):=by
 match l,h0 with
 | b :: r,_=>
   have hb:48<=b.toNat/\b.toNat<=57:=dig_bd b (by simp only [Zz,Jh] at h;exact h.1)
   have n45:(b == 45)=false:=Ki.2 (fun e=>by subst e;exact absurd hb.1 (by decide))
   have n43:(b == 43)=false:=Ki.2 (fun e=>by subst e;exact absurd hb.1 (by decide))
   unfold Lib.atoi
   show (if (b == 45)=true then (Lib.decNat r).map (fun (m:Nat)=>-(m:Int)) else if (b == 43)=true then (Lib.decNat r).map (fun (m:Nat)=>(m:Int)) else (Lib.decNat (b :: r)).map (fun (m:Nat)=>(m:Int)))=_
   rw [n45,n43]
   simp only [Bool.false_eq_true,if_false]
   have e:Lib.decNat (b :: r)=some (digV (b :: r)):=by
    unfold Lib.decNat
    rw [Ke (by simp)]
    exact decFrom_dig _ _ h
   rw [e]
   rfl
theorem bytes_below (w:World)(s:ByteArray):Below w.heap.size w (Lib.bytesWorld w 5 s):=⟨rfl,rfl,rfl,by rw [Lib.bytesWorld_size];omega,fun k hk=>Lib.bytesWorld_at_old w 5 s k hk⟩
theorem sec_yes (s:ByteArray)(w:World)(h:1<=s.size/\s.size<=9/\s.data.toList.all digitB=true)(n:Int)(hn:n=(digV s.data.toList:Nat)):
 Calls Tryz.prog 258 #[.string s] w fun e w'=>e = .returned (.tuple #[.int .i64 n,.bool true])/\Below w.heap.size w w':=by
 obtain ⟨h1,h9,hdig⟩:=h;have cT:=fun w=>trimcs_any s digCut w (by omega) (by decide) (by decide);obtain ⟨T,hT⟩:∃ T:ByteArray,⟨(Lib.trimS s.data.toList digCut.data.toList).toArray⟩=T:=⟨_,rfl⟩
 have hN:=trimS_dig s.data.toList;rw [hdig] at hN;have hTE:T.toList.isEmpty=true:=by rw [Kt,<-hT];exact hN
 rw [hT] at cT;have hE:=nonempty_of s (by omega);have h9i:¬ (s.size:Int) > 9:=by omega
 have cA:=fun w=>Tryz.strconv_Atoi s n (by omega) (by rw [hn];exact atoi_dig _ hdig (fun e=>by rw [<-size_len,e] at h1;simp at h1)) w;have CA:=Kb cA;have CT:=Kb cT;clear cA cT hT hN hdig hn;go_enter Tryz.func258,Tryz.ntmps258
 go_wp2_with (first
  | (with_reducible refine (CT.out _).mono ?_;rintro e w1 ⟨rfl,hb1⟩)
  | (with_reducible refine (CA.out _).mono ?_;rintro e w2 ⟨rfl,t,rfl⟩))
 go_ret2;exact ⟨rfl,hb1.trans ((bytes_below w1 t).mono hb1.size)⟩
theorem sec_no (s:ByteArray)(w:World)(hs:s.size<=1000000)(h:¬ (1<=s.size/\s.size<=9/\s.data.toList.all digitB=true)):
 Calls Tryz.prog 258 #[.string s] w fun e w'=>e = .returned (.tuple #[.int .i64 0,.bool false])/\Below w.heap.size w w':=by
 by_cases h0:s.size=0
 ·have hE:=empty_of s h0;go_enter Tryz.func258,Tryz.ntmps258;go_wp2_with fail;go_ret2;exact ⟨rfl,Kc _⟩
 ·have hE:=nonempty_of s (by omega);by_cases h9:s.size<=9
  ·have hdig:s.data.toList.all digitB=false:=by
    cases hd:s.data.toList.all digitB with
    | false=>rfl
    | true=>exact absurd ⟨by omega,h9,hd⟩ h
   have cT:=fun w=>trimcs_any s digCut w (by omega) (by decide) (by decide);obtain ⟨T,hT⟩:∃ T:ByteArray,⟨(Lib.trimS s.data.toList digCut.data.toList).toArray⟩=T:=⟨_,rfl⟩
   have hN:=trimS_dig s.data.toList;rw [hdig] at hN;have hTE:T.toList.isEmpty=false:=by rw [Kt,<-hT];exact hN
   rw [hT] at cT;have h9i:¬ (s.size:Int) > 9:=by omega
   have CT:=Kb cT;clear cT hT hN hdig h;go_enter Tryz.func258,Tryz.ntmps258;go_wp2_with (with_reducible refine (CT.out _).mono ?_;rintro e w1 ⟨rfl,hb1⟩)
   go_ret2;exact ⟨rfl,hb1⟩
  ·have h9i:(s.size:Int) > 9:=by omega
   clear h;go_enter Tryz.func258,Tryz.ntmps258;go_wp2_with fail;go_ret2;exact ⟨rfl,Kc _⟩
theorem sec_is (s:ByteArray)(w:World)(hs:s.size<=1000000)(R:Int)(hR:secI s.data.toList=R)(n:Int)(hn:max R 0=n)(b:Bool)(hb:decide (0<=R)=b):
 Calls Tryz.prog 258 #[.string s] w fun e w'=>e = .returned (.tuple #[.int .i64 n,.bool b])/\Below w.heap.size w w':=by
 have hl:=size_len s;subst hn hb;by_cases h:1<=s.size/\s.size<=9/\s.data.toList.all digitB=true
 ·have e:R=(digV s.data.toList:Nat):=by rw [<-hR,secI,Kf (by rw [hl];exact h)]
  have e1:max R 0=(digV s.data.toList:Nat):=by rw [e];omega
  have e2:decide (0<=R)=true:=by rw [e];exact Kx (by omega)
  rw [e2];exact sec_yes s w h _ e1
 ·have e:R = -1:=by rw [<-hR,secI,Ke (by rw [hl];exact h)]
  subst e;exact sec_no s w hs h
def wordsL (s:List UInt8):List (List UInt8):=((segs 44 s).map trimC).filter (fun x=>!x.isEmpty)
theorem words_step (L:List (List UInt8))(k:Nat)(h:k<L.length)(x:List UInt8)(hx:L[k]=x):((L.take (k+1)).map trimC).filter (fun x=>!x.isEmpty)=((L.take k).map trimC).filter (fun x=>!x.isEmpty) ++ (if trimC x=[] then [] else [trimC x]):=by subst hx;rw [Jf h,Zi,Zs];congr 1;simp only [Jw,Zt,List.filter_cons,List.filter_nil];cases ht:trimC L[k] <;> simp
def WordsQ (w:World)(L:List (List UInt8))(x:Ending)(w':World):Prop:=∃ v ps,x = .returned v/\w'.ownsRow w.heap.size 9 1 v ps.length (strsV ps)/\lists ps=L/\Below w.heap.size w w'
theorem wordsq_open {w:World}{L:List (List UInt8)}{x:Ending}{w':World}(h:WordsQ w L x w'):∃ (ps:List ByteArray) (a:Option Addr) (c:Nat),x = .returned (.slice a ps.length c)/\w'.ownsRow w.heap.size 9 1 (.slice a ps.length c) ps.length (strsV ps)/\lists ps=L/\Below w.heap.size w w':=by obtain ⟨v,ps,rfl,h1,h2,h3⟩:=h;obtain ⟨a,c,rfl,_⟩:=own_reads h1;exact ⟨ps,a,c,rfl,h1,h2,h3⟩
theorem isEmpty_bs (l:List UInt8)(R:Bool)(h:l.isEmpty=R):(bs l).toList.isEmpty=R:=by rw [Kt,bs_list];exact h
theorem words_is (s:ByteArray)(w:World)(hs:s.size<=100000)(hM:MaxAt w)(L:List (List UInt8))(hL:wordsL s.data.toList=L):
 Calls Tryz.prog 244 #[.string s] w (WordsQ w L):=by
 obtain ⟨l,hl,cS⟩:=split_is 44 s (by omega);have hsz:=segs_sizes hl;have hlen:=hsz.1;have HSZ:=Kb hsz.2;have HL:=Kb hL;have HLL:=Kb hl;have CS:=Kb (cS w hM);have hal:=(Kc w).alloc lr (.cells (l.map Value.string).toArray 9);have A0:=AtL.new w (l.map Value.string) 9;clear hL hl cS hsz;go_enter Tryz.func244,Tryz.ntmps244;go_wp2_with (with_reducible refine CS.out.mono ?_;rintro e w1 ⟨rfl,rfl⟩)
 obtain ⟨w1,hw1⟩:∃ w1:World,w.alloc (.cells (l.map Value.string).toArray 9)=w1:=⟨_,rfl⟩
 obtain ⟨K,hK⟩:=Ka w.heap.size;rw [hw1] at hal A0;rw [hK] at A0;rw [hw1,hK];have HK:=Kb hK;have hKl:=A0.lt;have hKw:w.heap.size<=w1.heap.size:=hal.size;clear hw1 hK;go_loopw [3,9] (fun pv iv wr=>∃ (k:Nat) (ps:List ByteArray),k<=l.length/\iv = .int .i64 k/\wr.ownsRow w1.heap.size 9 1 pv ps.length (strsV ps)/\Hid (lists ps=(((lists l).take k).map trimC).filter (fun x=>!x.isEmpty))/\ps.length<=k/\Below w1.heap.size w1 wr) (fun _ iv _=>l.length - (intOf iv).toNat);case atStart=>exact ⟨0,[],Kh _,rfl,World.ownsRow_nil _ _ _ _,Kb rfl,lr,Kc _⟩
 case round=>
  obtain ⟨k,ps,hk,rfl,hown,HP,hpl,hbw⟩:=hrel;have hwz:=hbw.size;by_cases hlt:k<l.length
  ·have hki:(k:Int)<(l.length:Int):=by omega
   have c0:=(A0.below hbw hKl).c k (v:=.string l[k]) (by rw [Zh,Jd hlt];rfl);have hx:=HSZ.out _ (Ky hlt);have hst:=words_step (lists l) k (by simpa [lists] using hlt) l[k].data.toList (by simp [lists]);obtain ⟨x,hxe⟩:=Ka (l[k]);rw [hxe] at c0 hx hst;obtain ⟨t,ht⟩:=Ka (bs (trimC x.data.toList));have htl:t.data.toList=trimC x.data.toList:=by rw [<-ht];rfl
   have CT:=Kb (fun w=>ctrim_is x t w (by omega) htl);have hKr:K<wr.heap.size:=Ko hKl hwz;cases he:(trimC x.data.toList).isEmpty with
   | true =>
     have hE:t.toList.isEmpty=true:=by rw [<-ht];exact isEmpty_bs _ _ he
     have HST:=Kb (hst.trans (by rw [Kf (Zv.1 he),Je]));clear hst he htl ht hxe;go_wp2_with (with_reducible refine (CT.out _).mono ?_;rintro e w2 ⟨rfl,hb2⟩)
     go_roundw;case rel=>exact ⟨k+1,ps,by omega,by go_num,own_below hown hb2 lr,Kb (HP.out.trans HST.out.symm),by omega,hbw.trans (hb2.mono hwz)⟩
     case measure=>simp [intOf];omega
   | false =>
     have hE:t.toList.isEmpty=false:=by rw [<-ht];exact isEmpty_bs _ _ he
     have HST:=Kb (hst.trans (by rw [Ke (by rw [<-Zv,he];simp),<-htl]));clear hst he htl ht hxe
     go_wp2_with (first
      | (with_reducible refine (CT.out _).mono ?_;rintro e w2 ⟨rfl,hb2⟩;have o2:=own_below hown hb2 lr;have hB2:=hbw.trans (hb2.mono hwz);have hz2:=hB2.size)
      | (refine app2 slS _ (by rfl) (.tmp 17) (.tmp 19) (by rfl) w1.heap.size _ _ _ (by rfl) o2 [_] 1 _ (by rfl) rfl (by rfl) (by intro u hu;simp at hu;subst hu;rfl) (by decide) (by omega) (by omega) hz2 ?_;intro v2 w3 hA gA fA;have hB3:=below_own hB2 o2 gA hz2 lr))
     go_roundw;case rel=>exact ⟨k+1,ps ++ [t],by omega,by go_num,by simpa [strsV] using hA,Kb (by rw [HST.out,<-HP.out];simp [lists]),by simp;omega,hB3⟩
     case measure=>simp [intOf];omega
  ·obtain rfl:k=l.length:=by omega
   go_wp2_with fail;go_ret;refine ⟨_,ps,rfl,own_mono hown hKw,?_,hal.trans (hbw.mono hKw)⟩;rw [HP.out,Zb (by simp [lists]),HLL.out];exact HL.out
abbrev Hd:=ByteArray × ByteArray
abbrev hdC (h:Hd):List Value:=[.string h.1,.string h.2]
theorem hdC_len (h:Hd):(hdC h).length=2:=rfl
def hitH (name:List UInt8)(h:Hd):Bool:=lowL h.1.data.toList == lowL name
def hdrL (hs:List Hd)(name:List UInt8):Option ByteArray:=(hs.find? (hitH name)).map (·.2)
def HdSz (hs:List Hd):Prop:=hs.length<=1000000/\∀ h∈hs,h.1.size<=100000/\h.2.size<=100000
theorem low_size (s:ByteArray):(bs (lowL s.data.toList)).size=s.size:=by rw [<-size_len,bs_list,<-size_len];simp [lowL]
theorem find_drop {α:Type}(p:α->Bool)(l:List α)(k:Nat)(h:k<l.length)(x:α)(hx:l[k]=x)(F:Option α)(hF:(l.drop k).find? p=F):if p x then F=some x else (l.drop (k+1)).find? p=F:=by
 subst hx
 rw [Zu h,List.find?_cons] at hF
 cases hp:p l[k] with
 | true=>rw [hp] at hF;rw [Kf rfl];exact hF.symm
 | false=>rw [hp] at hF;rw [Ke (by simp)];exact hF
def HdrQ (w:World)(F:Option ByteArray)(e:Ending)(w':World):Prop:=e = .returned (.tuple #[.string (F.getD ⟨#[]⟩),.bool F.isSome])/\Below w.heap.size w w'
theorem hdr_is (hs:List Hd)(v:Value)(name:ByteArray)(w:World)(hv:SlK hdC 2 w v hs)(hz:HdSz hs)(hn:name.size<=100000):
 Calls Tryz.prog 15 #[v,.string name] w (HdrQ w (hdrL hs name.data.toList)):=by
 obtain ⟨F,hF⟩:=Ka (hs.find? (hitH name.data.toList));unfold hdrL;rw [hF];obtain ⟨B,hB⟩:=Ka (bs (lowL name.data.toList));have C2:=Kb (fun w=>lowh_is name B (by rw [<-hB];rfl) w (by omega));have HB:=Kb hB;have HF:=Kb hF;have HZ:=Kb hz.2;have hl:=hz.1;obtain ⟨sa,sc,rfl,_⟩:=hv.shape;clear hF hz hB;go_enter Tryz.func15,Tryz.ntmps15;go_wp2_with fail;go_loopw [10] (fun iv wr=>∃ k:Nat,k<=hs.length/\iv = .int .i64 k/\Hid ((hs.drop k).find? (hitH name.data.toList)=F)/\Below w.heap.size w wr) (fun iv _=>hs.length - (intOf iv).toNat);case atStart=>exact ⟨0,Kh _,rfl,Kb HF.out,Kc _⟩
 case round=>
  obtain ⟨k,hk,rfl,HD,hbw⟩:=hrel;have hwz:=hbw.size;by_cases hlt:k<hs.length
  ·have hki:(k:Int)<(hs.length:Int):=by omega
   rcases hv with ⟨rfl,_⟩ | ⟨_,b0,off,cap,he,hc1,hc2,hc3,hcell⟩
   ·simp at hlt
   injection he with e1 e2 e3;subst e1 e3;have cc:∀ j u,(hdC hs[k])[j]? = some u->wr.cell? ⟨b0,off+k * 2+j,none⟩=some u:=fun j u hu=>(hbw.cell (p:=⟨b0,off+k * 2+j,none⟩) hc3).trans (hcell k hlt j u hu);have hsz:=HZ.out _ (Ky hlt);have hfd:=find_drop _ hs k hlt _ rfl F HD.out;obtain ⟨y,hy⟩:=Ka (hs[k]);rw [hy] at cc hsz hfd;clear hy hcell;obtain ⟨yn,yv⟩:=y;have hyn:yn.size<=100000:=hsz.1;have c0:=cc 0 _ rfl;have c1:=cc 1 _ rfl;simp only [Ku] at c0;clear cc hsz;have hal:=(Kc wr).alloc lr (.cells (hdC (yn,yv)).toArray 70);have KA:=AtL.new wr (hdC (yn,yv)) 70;have hBA:=hbw.trans (hal.mono hwz);have hza:=hBA.size;by_cases hq:lowL yn.data.toList=lowL name.data.toList
   ·have C1:=Kb (fun w=>lowh_is yn B (by rw [<-HB.out];exact hq.symm) w (by omega));have hp:hitH name.data.toList (yn,yv)=true:=by unfold hitH;rw [hq];exact beq_self_eq_true _
    rw [hp,Kf rfl] at hfd;have HFD:=Kb hfd;clear hfd hp hq
    go_wp2_with (first
     | (with_reducible refine (C1.out _).mono ?_;rintro e w1 ⟨rfl,hb1⟩;have hB1:=hBA.trans (hb1.mono hza);have K1:=KA.next hb1;have hz1:=hB1.size)
     | (with_reducible refine (C2.out _).mono ?_;rintro e w2 ⟨rfl,hb2⟩;have hB2:=hB1.trans (hb2.mono hz1);have K2:=K1.next hb2;have z0:=K2.c 0 rfl;have z1:=K2.c 1 rfl;have kl2:=K2.lt))
    go_ret2;rw [HFD.out];exact ⟨rfl,hB2⟩
   ·obtain ⟨A,hA⟩:=Ka (bs (lowL yn.data.toList));have C1:=Kb (fun w=>lowh_is yn A (by rw [<-hA];rfl) w (by omega));have hne:¬ A.toList=B.toList:=by rw [Kt,Kt,<-hA,<-HB.out];exact hq
    have hne2:(A.toList == B.toList)=false:=Ki.2 hne;have hp:hitH name.data.toList (yn,yv)=false:=by unfold hitH;exact Ki.2 hq
    rw [hp,Ke (by simp)] at hfd;have HFD:=Kb hfd;clear hfd hp hq hA
    go_wp2_with (first
     | (with_reducible refine (C1.out _).mono ?_;rintro e w1 ⟨rfl,hb1⟩;have hB1:=hBA.trans (hb1.mono hza);have hz1:=hB1.size)
     | (with_reducible refine (C2.out _).mono ?_;rintro e w2 ⟨rfl,hb2⟩;have hB2:=hB1.trans (hb2.mono hz1)))
    go_roundw;case rel=>exact ⟨k+1,by omega,by go_num,HFD,hB2⟩
    case measure=>simp [intOf];omega
  ·obtain rfl:k=hs.length:=by omega
   have hn2:=HD.out;rw [List.drop_eq_nil_of_le lr,List.find?_nil] at hn2;subst hn2;go_wp2_with fail;go_ret2;exact ⟨rfl,hbw⟩
theorem hdr_at (hs:List Hd)(v:Value)(name:ByteArray)(w:World)(hv:SlK hdC 2 w v hs)(hz:HdSz hs)(hn:name.size<=100000)(V:ByteArray)(B:Bool)(hV:(hdrL hs name.data.toList).getD ⟨#[]⟩=V)(hB:(hdrL hs name.data.toList).isSome=B):
 Calls Tryz.prog 15 #[v,.string name] w fun e w'=>e = .returned (.tuple #[.string V,.bool B])/\Below w.heap.size w w':=by subst hV hB;exact hdr_is hs v name w hv hz hn
theorem hdr_size (hs:List Hd)(name:List UInt8)(hz:HdSz hs):((hdrL hs name).getD ⟨#[]⟩).size<=100000:=by
 unfold hdrL
 cases h:hs.find? (hitH name) with
 | none=>exact Kh _
 | some x=>exact (hz.2 x (List.mem_of_find?_eq_some h)).2
def varyL (hs:List Hd):List (List UInt8):=wordsL ((hdrL hs [118,97,114,121]).getD ⟨#[]⟩).data.toList
theorem vary_is (hs:List Hd)(v:Value)(w:World)(hM:MaxAt w)(hv:SlK hdC 2 w v hs)(hz:HdSz hs)(L:List (List UInt8))(hL:varyL hs=L):
 Calls Tryz.prog 193 #[v] w (WordsQ w L):=by
 obtain ⟨B,hB⟩:=Ka ((hdrL hs [118,97,114,121]).isSome);unfold varyL at hL;have hsz:=hdr_size hs [118,97,114,121] hz;obtain ⟨V,hV⟩:=Ka ((hdrL hs [118,97,114,121]).getD ⟨#[]⟩);rw [hV] at hL hsz;have C:=Kb (hdr_at hs v ⟨#[118,97,114,121]⟩ w hv hz (by decide) V B hV hB);have CW:=Kb (fun w hM=>words_is V w hsz hM L hL);obtain ⟨sa,sc,rfl,_⟩:=hv.shape;clear hV hB hv hz hL;go_enter Tryz.func193,Tryz.ntmps193
 go_wp2_with (first
  | (with_reducible refine C.out.mono ?_;rintro e w1 ⟨rfl,hb1⟩;have hM1:=hM.below hb1 lr)
  | (with_reducible refine (CW.out _ hM1).mono ?_;rintro e w2 hq;obtain ⟨ps,a,c,rfl,hown,hl,hb2⟩:=wordsq_open hq;clear hq;have HL:=Kb hl;clear hl))
 go_ret;exact ⟨_,ps,rfl,own_mono hown hb1.size,HL.out,Kd hb1 hb2⟩
structure Dir where
 ns:Bool
 nc:Bool
 mu:Bool
 ma:Int
abbrev dirC (D:Dir):List Value:=[.bool D.ns,.bool D.nc,.bool D.mu,.int .i64 D.ma]
abbrev dirA (D:Dir):Value:=.agg #[.bool D.ns,.bool D.nc,.bool D.mu,.int .i64 D.ma]
abbrev nsN:List UInt8:=[110,111,45,115,116,111,114,101]
abbrev ncN:List UInt8:=[110,111,45,99,97,99,104,101]
abbrev muN:List UInt8:=[109,117,115,116,45,114,101,118,97,108,105,100,97,116,101]
abbrev maN:List UInt8:=[109,97,120,45,97,103,101]
abbrev ccN:List UInt8:=[99,97,99,104,101,45,99,111,110,116,114,111,108]
def dirStep (D:Dir)(w:List UInt8):Dir:=
 if lowL (pre 61 w)=nsN then { D with ns:=true } else if lowL (pre 61 w)=ncN then { D with nc:=true } else if lowL (pre 61 w)=muN then { D with mu:=true }
 else if lowL (pre 61 w)=maN then (if 0<=secI (post 61 w) then { D with ma:=secI (post 61 w) } else D) else D
def dirOne (D:Dir)(h:Hd):Dir:=if lowL h.1.data.toList=ccN then (wordsL h.2.data.toList).foldl dirStep D else D
def dirL (hs:List Hd):Dir:=hs.foldl dirOne ⟨false,false,false,-1⟩
theorem dirStep_bd (D:Dir)(w:List UInt8)(h : -1<=D.ma/\D.ma<1000000000): -1<=(dirStep D w).ma/\(dirStep D w).ma<1000000000:=by
 have:=secI_bd (post 61 w)
 unfold dirStep
 (repeat' split) <;> first | exact h | (simp only;omega)
theorem dirs_bd:∀ (L:List (List UInt8))(D:Dir) ,(-1<=D.ma/\D.ma<1000000000)->-1<=(L.foldl dirStep D).ma/\(L.foldl dirStep D).ma<1000000000:=by
 intro L
 induction L with
 | nil=>intro D h;exact h
 | cons w L ih=>intro D h;exact ih _ (dirStep_bd D w h)
theorem dirL_bd (hs:List Hd): -1<=(dirL hs).ma/\(dirL hs).ma<1000000000:=by
 have:∀ (hs:List Hd) (D:Dir),(-1<=D.ma/\D.ma<1000000000)->-1<=(hs.foldl dirOne D).ma/\(hs.foldl dirOne D).ma<1000000000:=by
  intro hs
  induction hs with
  | nil=>intro D h;exact h
  | cons h hs ih=>
    intro D hD
    refine ih _ ?_
    unfold dirOne
    split
    ·exact dirs_bd _ _ hD
    ·exact hD
 exact this hs _ (by decide)
theorem fold_step {α β:Type}(f:β->α->β)(b:β)(l:List α)(k:Nat)(h:k<l.length)(x:α)(hx:l[k]=x)(y:β)(hy:(l.take k).foldl f b=y):(l.take (k+1)).foldl f b=f y x:=by subst hx hy;rw [Jf h,Xj];rfl
theorem ret4_run {P:Program}{fn:Func}{q T:Nat}(hr:fn.results = #[.cell q T])(hz:∀ w,(Go.sizeOf T).run P w = .ok 4 w)(ha:∀ w,(isAgg T).run P w = .ok true w)(tmps:Array Value)(W:World)(k:Nat)(a b c d:Value)(h2:tmps.getD q undef = .pointer (some ⟨k,0,none⟩))(hA:AtL W k [a,b,c,d]):
 (results fn tmps).run P W = .ok (.agg #[a,b,c,d]) W:=by have c0:=hA.c 0 rfl;have c1:=hA.c 1 rfl;have c2:=hA.c 2 rfl;have c3:=hA.c 3 rfl;rw [Xg] at h2;simp [results,hr,h2,go_sem,hz,ha,c0,c1,c2,c3]
theorem cut_is (s A B:ByteArray)(F:Bool)(w:World)(hs:s.size<=1000000)(hM:MaxAt w)(hA:A.data.toList=pre 61 s.data.toList)(hB:B.data.toList=post 61 s.data.toList)(hF:s.data.toList.contains 61=F):
 Calls Tryz.prog 60 #[.string s,.string ⟨#[61]⟩] w fun e w'=>e = .returned (.tuple #[.string A,.string B,.bool F])/\Below w.heap.size w w':=by obtain ⟨m,hm⟩:=hM;refine (Tryz.strings_Cut s ⟨#[61]⟩ m w (by omega) hm).mono ?_;rintro e w' ⟨he,n,rfl⟩;rw [show (⟨#[61]⟩:ByteArray).data.toList=[61] from rfl,cut_eq,hF] at he;refine ⟨?_,below_drewN (Kc _) _⟩;have eA:(⟨(pre 61 s.data.toList).toArray⟩:ByteArray)=A:=ba_ext' hA.symm;have eB:(⟨(post 61 s.data.toList).toArray⟩:ByteArray)=B:=ba_ext' hB.symm;rw [he];show Ending.returned (.tuple #[.string ⟨(pre 61 s.data.toList).toArray⟩,.string ⟨(post 61 s.data.toList).toArray⟩,.bool F])=_;rw [eA,eB]
theorem slk_base {α:Type}{enc:α->List Value}{k:Nat}{w:World}{sa:Option Addr}{n c:Nat}{l:List α}(h:SlK enc k w (.slice sa n c) l):∀ b0 off,sa=some ⟨b0,off,none⟩->0<l.length->b0<w.heap.size:=by
 intro b0 off hsa h0;rcases h with ⟨rfl,_⟩ | ⟨_,b,off',cap,he,_,_,hb,_⟩
 ·simp at h0
 ·injection he with e1 _ _;rw [hsa] at e1;injection e1 with e1;injection e1 with e1 _;omega
theorem words_size (s:List UInt8):∀ p∈wordsL s,p.length<=s.length:=by intro p hp;unfold wordsL at hp;obtain ⟨q,hq,rfl⟩:=List.mem_map.1 (Zp.1 hp).1;exact Kg (trimC_len q) (segs_len 44 s q hq)
theorem but_below {B b:Nat}{W w w':World}(h:BelowBut B b W w)(k:Below w.heap.size w w')(hB:B<=w.heap.size):BelowBut B b W w':=h.below k hB
theorem AtL.butk {W W':World}{k B b:Nat}{vs:List Value}(h:AtL W k vs)(hb:BelowBut B b W W')(hk:k<B)(hne:k≠b):AtL W' k vs:=by have hh:=hb.block k hk hne;exact ⟨Ko h.1 hb.size,fun j v hv=>⟨(World.cell?_of_block (w:=W) hh).trans (h.c j hv),(World.frozen?_of_block (w:=W) hh).trans (h.f j hv)⟩⟩
theorem BelowBut.to_but {B B' b:Nat}{W w w':World}(h:BelowBut B b W w)(k:BelowBut B' b w w')(hB:B<=B'):BelowBut B b W w':=
 ⟨k.os.trans h.os,k.tape.trans h.tape,k.output.trans h.output,Kg h.size k.size,fun i hi hb=>(k.block i (by omega) hb).trans (h.block i hi hb)⟩
theorem pre_size (c:UInt8)(s:ByteArray):(pre c s.data.toList).length<=s.size:=by have:=(List.takeWhile_sublist (p:=(· != c)) (l:=s.data.toList)).length_le;rw [size_len] at this;exact this
theorem post_size (c:UInt8)(s:ByteArray):(post c s.data.toList).length<=s.size:=by have:=(Zw (p:=(· != c)) (l:=s.data.toList)).length_le;rw [size_len] at this;unfold post;rw [Jy];omega
theorem seg_words (L:List (List UInt8))(ps:List ByteArray)(h:lists ps=L)(j:Nat)(hj:j<ps.length)(D0 D:Dir)(hD:D=((lists ps).take j).foldl dirStep D0)(x:ByteArray)(hx:ps[j]=x)(D':Dir)(hD':dirStep D x.data.toList=D'):D'=((lists ps).take (j+1)).foldl dirStep D0:=by rw [fold_step dirStep D0 (lists ps) j (by simpa [lists] using hj) x.data.toList (by simp [lists,hx]) D hD.symm];exact hD'.symm
theorem dir_is (hs:List Hd)(v:Value)(w:World)(hM:MaxAt w)(hv:SlK hdC 2 w v hs)(hz:HdSz hs)(D:Dir)(hD:dirL hs=D):
 Calls Tryz.prog 230 #[v] w fun e w'=>e = .returned (dirA D)/\Below w.heap.size w w':=by
 have HD:=Kb hD;have HZ:=Kb hz.2;have hl:=hz.1;have R0:=(AtL.new w [.bool false,.bool false,.bool false,.int .i64 0] 228).alloc (.cells (dirC ⟨false,false,false,-1⟩).toArray 228);have C0:=AtL.new (w.alloc (.cells [.bool false,.bool false,.bool false,.int .i64 0].toArray 228)) (dirC ⟨false,false,false,-1⟩) 228;rw [show (w.alloc (.cells [.bool false,.bool false,.bool false,.int .i64 0].toArray 228)).heap.size=w.heap.size+1 by simp] at C0;have hb0:Below w.heap.size w ((w.alloc (.cells [.bool false,.bool false,.bool false,.int .i64 0].toArray 228)).alloc (.cells (dirC ⟨false,false,false,-1⟩).toArray 228)):=((Kc w).alloc lr _).alloc (by simp) _;have hv0:=hv.below hb0 lr;have hM0:=hM.below hb0 lr;obtain ⟨sa,sc,rfl,_⟩:=hv.shape;have hGM:=hM.lt;clear hD hz hM;go_enter Tryz.func230,Tryz.ntmps230;go_wp2_with fail;obtain ⟨w1,hw1⟩:∃ w1:World,(w.alloc (.cells [.bool false,.bool false,.bool false,.int .i64 0].toArray 228)).alloc (.cells (dirC ⟨false,false,false,-1⟩).toArray 228)=w1:=⟨_,rfl⟩
 obtain ⟨C,hC⟩:=Ka (w.heap.size+1);obtain ⟨R,hR⟩:=Ka w.heap.size;rw [hw1] at R0 C0 hb0 hv0 hM0;rw [hC] at C0;rw [hR] at R0;rw [hw1,hC,hR];have hRC:R<C:=by omega
 have HR:=Kb hR;have HBW:=Kb (fun b0 off h h0=>Ko (slk_base hv b0 off h h0) (Jl hR));have hCl:=C0.lt;have hRl:=R0.lt;rw [hR] at hGM;clear hw1 hC hR hv;go_loopw [16] (fun iv wr=>∃ (k:Nat) (E:Dir),k<=hs.length/\iv = .int .i64 k/\AtL wr C (dirC E)/\Hid (E=(hs.take k).foldl dirOne ⟨false,false,false,-1⟩)/\BelowBut w1.heap.size C w1 wr) (fun iv _=>hs.length - (intOf iv).toNat);case atStart=>exact ⟨0,_,Kh _,rfl,C0,Kb rfl,BelowBut.refl _ _ _⟩
 case round=>
  obtain ⟨k,E,hk,rfl,AE,HE,hbb⟩:=hrel;have hwz:=hbb.size;by_cases hlt:k<hs.length
  ·have hki:(k:Int)<(hs.length:Int):=by omega
   have hv1:=hv0;rcases hv1 with ⟨rfl,_⟩ | ⟨_,b0,off,cap,he,hc1,hc2,hc3,hcell⟩
   ·simp at hlt
   injection he with e1 e2 e3;subst e1 e3;have hbR:=HBW.out b0 off rfl (by omega);have cc:∀ j u,(hdC hs[k])[j]? = some u->wr.cell? ⟨b0,off+k * 2+j,none⟩=some u:=fun j u hu=>(hbb.cell (p:=⟨b0,off+k * 2+j,none⟩) hc3 (by show b0≠C;omega)).trans (hcell k hlt j u hu);have hsz:=HZ.out _ (Ky hlt);have hfs:=fold_step dirOne ⟨false,false,false,-1⟩ hs k hlt _ rfl E HE.out.symm;obtain ⟨y,hy⟩:=Ka (hs[k]);rw [hy] at cc hsz hfs;clear hy hcell;obtain ⟨yn,yv⟩:=y;have hyn:yn.size<=100000:=hsz.1;have hyv:yv.size<=100000:=hsz.2;have c0:=cc 0 _ rfl;have c1:=cc 1 _ rfl;simp only [Ku] at c0;clear cc hsz;have hal:=(Kc wr).alloc lr (.cells (hdC (yn,yv)).toArray 70);have KA:=AtL.new wr (hdC (yn,yv)) 70;have AA:=AE.next hal;have hbA:=but_below hbb hal hwz;have hzA:=hbA.size;by_cases hq:lowL yn.data.toList=ccN
   ·have C1:=Kb (fun w=>lowh_is yn ⟨#[99,97,99,104,101,45,99,111,110,116,114,111,108]⟩ hq.symm w (by omega));have hfs2:(hs.take (k+1)).foldl dirOne ⟨false,false,false,-1⟩=(wordsL yv.data.toList).foldl dirStep E:=by rw [hfs];unfold dirOne;rw [Kf hq]
    obtain ⟨L,hL⟩:=Ka (wordsL yv.data.toList);have hwsz:=words_size yv.data.toList;have HLW:=Kb hL;rw [hL] at hfs2 hwsz;have HW:=Kb hwsz;have CW:=Kb (fun w hM=>words_is yv w hyv hM L hL);have HFS:=Kb hfs2;clear hfs hfs2 hL hq hwsz
    go_wp2_with (first
     | (with_reducible refine (C1.out _).mono ?_;rintro e w2 ⟨rfl,hb2⟩;have K2:=KA.next hb2;have hbb2:=but_below hbA hb2 hzA;have A2:=AA.next hb2;have hM2:=hM0.but hbb2 (by omega) (by omega);have z0:=K2.c 0 rfl;have z1:=K2.c 1 rfl;have kl2:=K2.lt)
     | (with_reducible refine (CW.out _ hM2).mono ?_;rintro e w3 hqq;obtain ⟨ps,pa,pc,rfl,hown,hps,hb3⟩:=wordsq_open hqq;clear hqq))
    have hpz:∀ p∈ps,p.size<=100000:=fun p hp=>by have:=HW.out p.data.toList (by rw [<-hps];exact Zc hp);rw [size_len,size_len] at this;omega
    have hplen:ps.length<=1000000:=by
     have h1:(wordsL yv.data.toList).length<=yv.size+1:=by
      unfold wordsL
      refine Kg (Zj _ _) ?_
      rw [Za]
      have:=segs_count 44 yv.data.toList
      rwa [size_len] at this
     rw [HLW.out,<-hps] at h1;simp [lists] at h1;omega
    have HPS:=Kb hps;have HPZ:=Kb hpz;have hbb3:=but_below hbb2 hb3 hbb2.size;have A3:=A2.next hb3;obtain ⟨_,_,hve,hlc,hlm,hra⟩:=own_reads hown;injection hve with e1 _ e3;subst e1 e3;have hCw2:C<w2.heap.size:=A2.lt;have HRA:=Kb hra;obtain ⟨wo,hwo⟩:∃ wo:World,wo=wr:=⟨_,rfl⟩
    subst hwo;clear hps hpz hra z0 z1 kl2;go_loopw [28] (fun jv wr2=>∃ (j:Nat) (F:Dir),j<=ps.length/\jv = .int .i64 j/\AtL wr2 C (dirC F)/\Hid (F=((lists ps).take j).foldl dirStep E)/\BelowBut w3.heap.size C w3 wr2) (fun jv _=>ps.length - (intOf jv).toNat);case atStart=>exact ⟨0,E,Kh _,rfl,A3,Kb rfl,BelowBut.refl _ _ _⟩
    case round=>
     obtain ⟨j,F,hj,rfl,AC,HF,hbc⟩:=hrel;by_cases hlj:j<ps.length
     ·have hji:(j:Int)<(ps.length:Int):=by omega
      rcases HRA.out with ⟨_,h0⟩ | ⟨g,rfl,hgB,hgw,hcg⟩
      ·omega
      have c2:=(hbc.cell (p:=⟨g,j,none⟩) hgw (by show g≠C;omega)).trans (hcg j (.string ps[j]) (by simp [strsV,hlj]));have hx:=HPZ.out _ (Ky hlj);have hst:=seg_words _ ps rfl j hlj E F HF.out;obtain ⟨x,hxe⟩:=Ka (ps[j]);rw [hxe] at c2 hx;have hst:=fun D' h=>hst x hxe D' h;have hglt:g<wr.heap.size:=Ko hgw hbc.size;have hMr:MaxAt wr:=(hM0.but hbb3 (by omega) (by omega)).but hbc (by have:=hbb3.size;omega) (by omega);obtain ⟨A,hA⟩:=Ka (bs (pre 61 x.data.toList));obtain ⟨B,hB⟩:=Ka (bs (post 61 x.data.toList));have hAl:A.data.toList=pre 61 x.data.toList:=by rw [<-hA];rfl
      have hBl:B.data.toList=post 61 x.data.toList:=by rw [<-hB];rfl
      have hAz:A.size<=100000:=by have:=pre_size 61 x;rw [<-hAl,size_len] at this;omega
      have hBz:B.size<=100000:=by have:=post_size 61 x;rw [<-hBl,size_len] at this;omega
      obtain ⟨fd,hfd⟩:=Ka (x.data.toList.contains 61);have CC:=Kb (fun w hM=>cut_is x A B fd w (by omega) hM hAl hBl hfd);have cL:=fun (T:ByteArray) (h:T.data.toList=lowL (pre 61 x.data.toList)) (w:World)=>lowh_is A T (by rw [hAl];exact h) w (by omega);have CN0:=Kb (fun w R hR n hn b hb=>sec_is B w (by omega) R hR n hn b hb);have hBL:=Kb hBl;have hba:=hbc;clear hA hB hAl hfd hBl hxe hcg;have hbb:BelowBut w3.heap.size C w3 wr:=hba;by_cases q1:lowL (pre 61 x.data.toList)=nsN
      ·have HST:=Kb (hst { F with ns:=true } (by unfold dirStep;rw [Kf q1]));have CL:=Kb (cL ⟨#[110,111,45,115,116,111,114,101]⟩ q1.symm);clear hst cL q1 CN0;have CN:=CL
       go_wp2_with (first
        | (with_reducible refine (CC.out _ hMr).mono ?_;rintro e w4 ⟨rfl,hb4⟩)
        | (with_reducible refine (CL.out _).mono ?_;rintro e w5 ⟨rfl,hb5⟩;have hb45:=Kd hb4 hb5;have A5:=AC.next hb45;have hbb5:=but_below hbb hb45 hbb.size;have q0:=A5.c 0 rfl;have q1:=A5.c 1 rfl;have q2:=A5.c 2 rfl;have q3:=A5.c 3 rfl;have f_:=A5.of4;have al5:=A5.lt)
        | (with_reducible refine (CN.out _).mono ?_;rintro e w6 ⟨rfl,hb6⟩;have A6:=A5.next hb6;have hbb6:=but_below hbb5 hb6 hbb5.size;have q0:=A6.c 0 rfl;have q1:=A6.c 1 rfl;have q2:=A6.c 2 rfl;have q3:=A6.c 3 rfl;have f_:=A6.of4;have al6:=A6.lt))
       have AX:AtL _ C (dirC { F with ns:=true }):=A5.set 0 (.bool true);have hbX:=hbb5.setCell ⟨C,0,none⟩ (Or.inl rfl) (.bool true);go_roundw;case rel=>exact ⟨j+1,_,by omega,by go_num,AX,Kb HST.out,hbX⟩
       case measure=>simp [intOf];omega
      ·by_cases q2:lowL (pre 61 x.data.toList)=ncN
       ·have HST:=Kb (hst { F with nc:=true } (by unfold dirStep;rw [Ke q1,Kf q2]));have CL:=Kb (cL ⟨#[110,111,45,99,97,99,104,101]⟩ q2.symm);clear hst cL q1 q2 CN0;have CN:=CL
        go_wp2_with (first
         | (with_reducible refine (CC.out _ hMr).mono ?_;rintro e w4 ⟨rfl,hb4⟩)
         | (with_reducible refine (CL.out _).mono ?_;rintro e w5 ⟨rfl,hb5⟩;have hb45:=Kd hb4 hb5;have A5:=AC.next hb45;have hbb5:=but_below hbb hb45 hbb.size;have q0:=A5.c 0 rfl;have q1:=A5.c 1 rfl;have q2:=A5.c 2 rfl;have q3:=A5.c 3 rfl;have f_:=A5.of4;have al5:=A5.lt)
         | (with_reducible refine (CN.out _).mono ?_;rintro e w6 ⟨rfl,hb6⟩;have A6:=A5.next hb6;have hbb6:=but_below hbb5 hb6 hbb5.size;have q0:=A6.c 0 rfl;have q1:=A6.c 1 rfl;have q2:=A6.c 2 rfl;have q3:=A6.c 3 rfl;have f_:=A6.of4;have al6:=A6.lt))
        have AX:AtL _ C (dirC { F with nc:=true }):=A5.set 1 (.bool true);have hbX:=hbb5.setCell ⟨C,1,none⟩ (Or.inl rfl) (.bool true);go_roundw;case rel=>exact ⟨j+1,_,by omega,by go_num,AX,Kb HST.out,hbX⟩
        case measure=>simp [intOf];omega
       ·by_cases q3:lowL (pre 61 x.data.toList)=muN
        ·have HST:=Kb (hst { F with mu:=true } (by unfold dirStep;rw [Ke q1,Ke q2,Kf q3]));have CL:=Kb (cL ⟨#[109,117,115,116,45,114,101,118,97,108,105,100,97,116,101]⟩ q3.symm);clear hst cL q1 q2 q3 CN0;have CN:=CL
         go_wp2_with (first
          | (with_reducible refine (CC.out _ hMr).mono ?_;rintro e w4 ⟨rfl,hb4⟩)
          | (with_reducible refine (CL.out _).mono ?_;rintro e w5 ⟨rfl,hb5⟩;have hb45:=Kd hb4 hb5;have A5:=AC.next hb45;have hbb5:=but_below hbb hb45 hbb.size;have q0:=A5.c 0 rfl;have q1:=A5.c 1 rfl;have q2:=A5.c 2 rfl;have q3:=A5.c 3 rfl;have f_:=A5.of4;have al5:=A5.lt)
          | (with_reducible refine (CN.out _).mono ?_;rintro e w6 ⟨rfl,hb6⟩;have A6:=A5.next hb6;have hbb6:=but_below hbb5 hb6 hbb5.size;have q0:=A6.c 0 rfl;have q1:=A6.c 1 rfl;have q2:=A6.c 2 rfl;have q3:=A6.c 3 rfl;have f_:=A6.of4;have al6:=A6.lt))
         have AX:AtL _ C (dirC { F with mu:=true }):=A5.set 2 (.bool true);have hbX:=hbb5.setCell ⟨C,2,none⟩ (Or.inl rfl) (.bool true);go_roundw;case rel=>exact ⟨j+1,_,by omega,by go_num,AX,Kb HST.out,hbX⟩
         case measure=>simp [intOf];omega
        ·by_cases q4:lowL (pre 61 x.data.toList)=maN
         ·have CL:=Kb (cL ⟨#[109,97,120,45,97,103,101]⟩ q4.symm);obtain ⟨N,hN⟩:=Ka (secI (post 61 x.data.toList));have hN2:secI B.data.toList=N:=by rw [hBL.out];exact hN
          by_cases h0:0<=N
          ·have HST:=Kb (hst { F with ma:=N } (by unfold dirStep;rw [Ke q1,Ke q2,Ke q3,Kf q4,hN,Kf h0]));have CN:=Kb (fun w=>CN0.out w N hN2 N (by omega) true (Kx h0));clear hst cL q1 q2 q3 q4 CN0 hN hN2
           go_wp2_with (first
            | (with_reducible refine (CC.out _ hMr).mono ?_;rintro e w4 ⟨rfl,hb4⟩)
            | (with_reducible refine (CL.out _).mono ?_;rintro e w5 ⟨rfl,hb5⟩;have hb45:=Kd hb4 hb5;have A5:=AC.next hb45;have hbb5:=but_below hbb hb45 hbb.size;have q0:=A5.c 0 rfl;have q1:=A5.c 1 rfl;have q2:=A5.c 2 rfl;have q3:=A5.c 3 rfl;have f_:=A5.of4;have al5:=A5.lt)
            | (with_reducible refine (CN.out _).mono ?_;rintro e w6 ⟨rfl,hb6⟩;have A6:=A5.next hb6;have hbb6:=but_below hbb5 hb6 hbb5.size;have q0:=A6.c 0 rfl;have q1:=A6.c 1 rfl;have q2:=A6.c 2 rfl;have q3:=A6.c 3 rfl;have f_:=A6.of4;have al6:=A6.lt))
           have AX:AtL _ C (dirC { F with ma:=N }):=A6.set 3 (.int .i64 N);have hbX:=hbb6.setCell ⟨C,3,none⟩ (Or.inl rfl) (.int .i64 N);go_roundw;case rel=>exact ⟨j+1,_,by omega,by go_num,AX,Kb HST.out,hbX⟩
           case measure=>simp [intOf];omega
          ·have HST:=Kb (hst F (by unfold dirStep;rw [Ke q1,Ke q2,Ke q3,Kf q4,hN,Ke h0]));have CN:=Kb (fun w=>CN0.out w N hN2 (max N 0) rfl false (Kj h0));clear hst cL q1 q2 q3 q4 CN0 hN hN2
           go_wp2_with (first
            | (with_reducible refine (CC.out _ hMr).mono ?_;rintro e w4 ⟨rfl,hb4⟩)
            | (with_reducible refine (CL.out _).mono ?_;rintro e w5 ⟨rfl,hb5⟩;have hb45:=Kd hb4 hb5;have A5:=AC.next hb45;have hbb5:=but_below hbb hb45 hbb.size;have q0:=A5.c 0 rfl;have q1:=A5.c 1 rfl;have q2:=A5.c 2 rfl;have q3:=A5.c 3 rfl;have f_:=A5.of4;have al5:=A5.lt)
            | (with_reducible refine (CN.out _).mono ?_;rintro e w6 ⟨rfl,hb6⟩;have A6:=A5.next hb6;have hbb6:=but_below hbb5 hb6 hbb5.size;have q0:=A6.c 0 rfl;have q1:=A6.c 1 rfl;have q2:=A6.c 2 rfl;have q3:=A6.c 3 rfl;have f_:=A6.of4;have al6:=A6.lt))
           have AX:=A6;have hbX:=hbb6;go_roundw;case rel=>exact ⟨j+1,_,by omega,by go_num,AX,Kb HST.out,hbX⟩
           case measure=>simp [intOf];omega
         ·obtain ⟨T,hT⟩:=Ka (bs (lowL (pre 61 x.data.toList)));have hTl:T.toList=lowL (pre 61 x.data.toList):=by rw [Kt,<-hT];rfl
          have CL:=Kb (cL T (by rw [<-hT];rfl));have HST:=Kb (hst F (by unfold dirStep;rw [Ke q1,Ke q2,Ke q3,Ke q4]));rw [<-hTl] at q1 q2 q3 q4;have b1:=Ki.2 q1;have b2:=Ki.2 q2;have b3:=Ki.2 q3;have b4:=Ki.2 q4;have CN:=CL;clear hst cL CN0 hT hTl
          go_wp2_with (first
           | (with_reducible refine (CC.out _ hMr).mono ?_;rintro e w4 ⟨rfl,hb4⟩)
           | (with_reducible refine (CL.out _).mono ?_;rintro e w5 ⟨rfl,hb5⟩;have hb45:=Kd hb4 hb5;have A5:=AC.next hb45;have hbb5:=but_below hbb hb45 hbb.size;have q0:=A5.c 0 rfl;have q1:=A5.c 1 rfl;have q2:=A5.c 2 rfl;have q3:=A5.c 3 rfl;have f_:=A5.of4;have al5:=A5.lt)
           | (with_reducible refine (CN.out _).mono ?_;rintro e w6 ⟨rfl,hb6⟩;have A6:=A5.next hb6;have hbb6:=but_below hbb5 hb6 hbb5.size;have q0:=A6.c 0 rfl;have q1:=A6.c 1 rfl;have q2:=A6.c 2 rfl;have q3:=A6.c 3 rfl;have f_:=A6.of4;have al6:=A6.lt))
          have AX:=A5;have hbX:=hbb5;go_roundw;case rel=>exact ⟨j+1,_,by omega,by go_num,AX,Kb HST.out,hbX⟩
          case measure=>simp [intOf];omega
     ·obtain rfl:j=ps.length:=by omega
      have hFE:F=(hs.take (k+1)).foldl dirOne ⟨false,false,false,-1⟩:=by rw [HFS.out,HF.out,Zb (by simp [lists]),HPS.out]
      have HFE:=Kb hFE;clear hFE;go_wp2_with fail;go_roundw;case rel=>exact ⟨k+1,F,by omega,by go_num,AC,HFE,hbb3.to_but hbc hbb3.size⟩
      case measure=>simp [intOf];omega
   ·obtain ⟨T,hT⟩:=Ka (bs (lowL yn.data.toList));have hTl:T.toList=lowL yn.data.toList:=by rw [Kt,<-hT];rfl
    have C1:=Kb (fun w=>lowh_is yn T (by rw [<-hT];rfl) w (by omega));have HFS:=Kb (show E=(hs.take (k+1)).foldl dirOne ⟨false,false,false,-1⟩ by rw [hfs];unfold dirOne;rw [Ke hq]);rw [<-hTl] at hq;have hqb:=Ki.2 hq;clear hfs hT hTl;go_wp2_with (with_reducible refine (C1.out _).mono ?_;rintro e w2 ⟨rfl,hb2⟩;have hbb2:=but_below hbA hb2 hzA;have A2:=AA.next hb2)
    go_roundw;case rel=>exact ⟨k+1,E,by omega,by go_num,A2,HFS,hbb2⟩
    case measure=>simp [intOf];omega
  ·obtain rfl:k=hs.length:=by omega
   have hED:E=D:=by rw [HE.out,Jq];exact HD.out
   subst hED;have RE:AtL wr R [.bool false,.bool false,.bool false,.int .i64 0]:=R0.butk hbb hRl (by omega);have q0:=AE.c 0 rfl;have q1:=AE.c 1 rfl;have q2:=AE.c 2 rfl;have q3:=AE.c 3 rfl;have p_:=RE.o4;have g_:=RE.of4;have cl:=AE.lt;have rl:=RE.lt;go_wp2_with fail;obtain rfl:=HR.out;have hbF:=((((hbb.to_below hb0 hb0.size (by omega)).setCell (p:=⟨w.heap.size,0,none⟩) lr (.bool E.ns)).setCell (p:=⟨w.heap.size,1,none⟩) lr (.bool E.nc)).setCell (p:=⟨w.heap.size,2,none⟩) lr (.bool E.mu)).setCell (p:=⟨w.heap.size,3,none⟩) lr (.int .i64 E.ma);exact bodyPost_ret (ret4_run Tryz.results230 Tryz.sizeOf228 Tryz.isAgg228 _ _ w.heap.size _ _ _ _ rfl ((((RE.set 0 _).set 1 _).set 2 _).set 3 _)) rfl ⟨rfl,hbF⟩
abbrev ageS:ByteArray:=⟨#[97,103,101]⟩
def ageH (hs:List Hd):Int:=max (secI ((hdrL hs [97,103,101]).getD ⟨#[]⟩).data.toList) 0
def lifeL (hs:List Hd):Int:=if (dirL hs).nc=true\/(dirL hs).ma<0 then 0 else max ((dirL hs).ma - ageH hs) 0 * 1000
theorem ageH_bd (hs:List Hd):0<=ageH hs/\ageH hs<1000000000:=by have:=secI_bd ((hdrL hs [97,103,101]).getD ⟨#[]⟩).data.toList;unfold ageH;omega
theorem lifeL_bd (hs:List Hd):0<=lifeL hs/\lifeL hs<=1000000000000:=by have h1:=ageH_bd hs;have h2:=dirL_bd hs;unfold lifeL;split <;> omega
theorem N40{p:Prop}(h:p:=by
 go_enter Tryz.func243,Tryz.ntmps243
 go_wp2_with (first
  | (with_reducible refine CD2.out.mono ?_;rintro e w1 ⟨rfl,hb1⟩;have A1:=AtL.new w1 [.bool ns,.bool false,.bool mu,.int .i64 ma] 228;have hal:=hb1.alloc hb1.size (.cells [.bool ns,.bool false,.bool mu,.int .i64 ma].toArray 228);have hv1:=hv.below hal lr)
  | (with_reducible refine (CH.out _ hv1).mono ?_;rintro e w2 ⟨rfl,hb2⟩;have hB2:=hal.trans (hb2.mono hal.size);have A2:=A1.next hb2)
  | (with_reducible refine (CN.out _).mono ?_;rintro e w3 ⟨rfl,hb3⟩;have hB3:=Kd hB2 hb3;have A3:=A2.next hb3;have z_:=A3.o4;have al3:=A3.lt))
 go_ret
 first
  |exact ⟨ret_int (by rw [<-HR.out,Kf (Or.inr hm)]),hal⟩
  |exact ⟨ret_int (by rw [<-HR.out,Ke (by simp;omega)]),hB3⟩
 ):p:=h
theorem life_is (hs:List Hd)(v:Value)(w:World)(hM:MaxAt w)(hv:SlK hdC 2 w v hs)(hz:HdSz hs)(R:Int)(hR:lifeL hs=R):
 Calls Tryz.prog 243 #[v] w fun e w'=>e = .returned (.int .i64 R)/\Below w.heap.size w w':=by
 have hbd:=dirL_bd hs
 have hab:=ageH_bd hs
 unfold lifeL at hR
 obtain ⟨D,hD⟩:=Ka (dirL hs)
 obtain ⟨V,hV⟩:=Ka ((hdrL hs ageS.data.toList).getD ⟨#[]⟩)
 obtain ⟨B,hB⟩:=Ka ((hdrL hs ageS.data.toList).isSome)
 obtain ⟨S,hS⟩:=Ka (secI V.data.toList)
 obtain ⟨n,hn⟩:=Ka (ageH hs)
 have hnS:max S 0=n:=by rw [<-hn,<-hS,<-hV];rfl
 have hVs:V.size<=100000:=by rw [<-hV];exact hdr_size hs _ hz
 have CD:=Kb (dir_is hs v w hM hv hz D hD)
 have CH:=Kb (fun w hv=>hdr_at hs v ageS w hv hz (by decide) V B hV hB)
 have CN:=Kb (fun w=>sec_is V w (by omega) S hS n hnS (decide (0<=S)) rfl)
 obtain ⟨sa,sc,rfl,_⟩:=hv.shape
 rw [hD] at hbd hR
 rw [hn] at hab hR
 obtain ⟨ns,nc,mu,ma⟩:=D
 have HR:=Kb hR
 have h1 : -1<=ma:=hbd.1
 have h2:ma<1000000000:=hbd.2
 have h3:=hab.1
 have h4:=hab.2
 obtain ⟨sb,hsb⟩:=Ka (decide (0<=S))
 rw [hsb] at CN
 clear hR hD hV hB hS hn hnS hbd hab hz hM hsb
 have cDa:∀ e w',(e=Ending.returned (dirA ⟨ns,nc,mu,ma⟩)/\Below w.heap.size w w')->(e=Ending.returned (.agg #[.bool ns,.bool nc,.bool mu,.int .i64 ma])/\Below w.heap.size w w'):=fun e w' h=>h
 have CD2:=Kb (CD.out.mono cDa)
 clear CD cDa
 cases nc with
 | true=>
   go_enter Tryz.func243,Tryz.ntmps243
   go_wp2_with (first
    | (with_reducible refine CD2.out.mono ?_;rintro e w1 ⟨rfl,hb1⟩;have A1:=AtL.new w1 [.bool ns,.bool true,.bool mu,.int .i64 ma] 228;have hal:=hb1.alloc hb1.size (.cells [.bool ns,.bool true,.bool mu,.int .i64 ma].toArray 228);have hv1:=hv.below hal lr)
    | (with_reducible refine (CH.out _ hv1).mono ?_;rintro e w2 ⟨rfl,hb2⟩;have hB2:=hal.trans (hb2.mono hal.size);have A2:=A1.next hb2)
    | (with_reducible refine (CN.out _).mono ?_;rintro e w3 ⟨rfl,hb3⟩;have hB3:=Kd hB2 hb3;have A3:=A2.next hb3;have z_:=A3.o4;have al3:=A3.lt))
   go_ret
   exact ⟨ret_int (by rw [<-HR.out];simp),hal⟩
 | false=>
   by_cases hm:ma<0
   ·have hd:decide (ma<0)=true:=Kx hm
    exact N40
   ·have hd:decide (ma<0)=false:=Kj hm
    have h0:0<=ma:=by omega
    clear hm
    exact N40
structure Er where
 u:ByteArray
 vv:Value
 st:Int
 hv:Value
 bo:ByteArray
 ti:Int
abbrev erC (e:Er):List Value:=[.string e.u,e.vv,.int .i64 e.st,e.hv,.string e.bo,.int .i64 e.ti]
abbrev erA (e:Er):Value:=.agg #[.string e.u,e.vv,.int .i64 e.st,e.hv,.string e.bo,.int .i64 e.ti]
structure En where
 u:ByteArray
 va:List Hd
 st:Int
 hd:List Hd
 bo:ByteArray
 ti:Int
structure Rd (w:World)(r:Er)(e:En):Prop where
 u:r.u=e.u
 st:r.st=e.st
 bo:r.bo=e.bo
 ti:r.ti=e.ti
 va:SlK hdC 2 w r.vv e.va
 hd:SlK hdC 2 w r.hv e.hd
theorem Rd.below {w w':World}{r:Er}{e:En}{B:Nat}(h:Rd w r e)(hb:Below B w w')(hB:w.heap.size<=B):Rd w' r e:=⟨h.u,h.st,h.bo,h.ti,h.va.below hb hB,h.hd.below hb hB⟩
def ageE (t now:Int):Int:=max (clockI now - clockI t) 0
def freshE (e:En)(now:Int):Bool:=decide (ageE e.ti now<lifeL e.hd)
theorem ageE_bd (t now:Int):0<=ageE t now/\ageE t now<=9007199254740992:=by have h1:=clock_bd now;have h2:=clock_bd t;unfold ageE;omega
theorem eage_is (r:Er)(now:Int)(w:World)(R:Int)(hR:ageE r.ti now=R):
 Calls Tryz.prog 232 #[erA r,.int .i64 now] w fun e w'=>e = .returned (.int .i64 R)/\Below w.heap.size w w':=by
 obtain ⟨u,vv,st,hv,bo,ti⟩:=r;have hR:ageE ti now=R:=hR;have h1:=clock_bd now;have h2:=clock_bd ti;obtain ⟨x,hx⟩:=Ka (clockI now);obtain ⟨y,hy⟩:=Ka (clockI ti);unfold ageE at hR;rw [hx] at h1 hR;rw [hy] at h2 hR;have C1:=Kb (fun w=>(show Calls Tryz.prog 259 #[.int .i64 now] w fun e w'=>e = .returned (.int .i64 x)/\w=w' by rw [<-hx];exact clockh_any now w));have C2:=Kb (fun w=>(show Calls Tryz.prog 259 #[.int .i64 ti] w fun e w'=>e = .returned (.int .i64 y)/\w=w' by rw [<-hy];exact clockh_any ti w));have HR:=Kb hR;have hb:=(Kc w).alloc lr (.cells (erC ⟨u,vv,st,hv,bo,ti⟩).toArray 90);have A:=AtL.new w (erC ⟨u,vv,st,hv,bo,ti⟩) 90;clear hx hy hR;go_enter Tryz.func232,Tryz.ntmps232;go_wp2_with fail;obtain ⟨w1,hw1⟩:∃ w1:World,w.alloc (.cells (erC ⟨u,vv,st,hv,bo,ti⟩).toArray 90)=w1:=⟨_,rfl⟩
 obtain ⟨C,hC⟩:=Ka w.heap.size;rw [hw1] at hb A;rw [hC] at A;rw [hw1,hC];have HC:=Kb hC;clear hw1 hC;have z5:=A.c 5 rfl;have al:=A.lt
 go_region_held3 (fun w'=>w'.cell? ⟨C,5,none⟩=some (.int .i64 ti)) (first | exact (brl (Kc w1).drew _ _ A.lt).trans (A.c 5 rfl) | go_keep)
  (first
    | ((with_reducible refine (C1.out _).mono ?_);rintro e w4 ⟨rfl,rfl⟩)
    | ((with_reducible refine (C2.out _).mono ?_);rintro e w5 ⟨rfl,rfl⟩))
 go_wp2_with fail;go_ret;exact ⟨ret_int (by rw [<-HR.out,IntWalk.i64_in (x - y) (by omega)]),hb.drew⟩
theorem er_mk {W w':World}{A:Nat}{a b c d e f:Value}(h:AtL W A [a,b,c,d,e,f])(hb:Below W.heap.size W w'):w'.cell? ⟨A,0,none⟩=some a/\w'.cell? ⟨A,1,none⟩=some b/\w'.cell? ⟨A,2,none⟩=some c/\w'.cell? ⟨A,3,none⟩=some d/\w'.cell? ⟨A,4,none⟩=some e/\w'.cell? ⟨A,5,none⟩=some f:=
 ⟨(brl hb _ _ h.lt).trans (h.c 0 rfl),(brl hb _ _ h.lt).trans (h.c 1 rfl),(brl hb _ _ h.lt).trans (h.c 2 rfl),(brl hb _ _ h.lt).trans (h.c 3 rfl),(brl hb _ _ h.lt).trans (h.c 4 rfl),(brl hb _ _ h.lt).trans (h.c 5 rfl)⟩
theorem fresh_is (r:Er)(en:En)(now:Int)(w:World)(hM:MaxAt w)(hr:Rd w r en)(hz:HdSz en.hd)(R:Bool)(hR:freshE en now=R):
 Calls Tryz.prog 231 #[erA r,.int .i64 now] w fun e w'=>e = .returned (.bool R)/\Below w.heap.size w w':=by
 obtain ⟨u,vv,st,hv,bo,ti⟩:=r;have hti:ti=en.ti:=hr.ti;have hhv:SlK hdC 2 w hv en.hd:=hr.hd;unfold freshE at hR;rw [<-hti] at hR;have h1:=ageE_bd ti now;have h2:=lifeL_bd en.hd;obtain ⟨x,hx⟩:=Ka (ageE ti now);obtain ⟨y,hy⟩:=Ka (lifeL en.hd);rw [hx] at h1 hR;rw [hy] at h2 hR;have C1:=Kb (fun w=>eage_is ⟨u,vv,st,hv,bo,ti⟩ now w x hx);have C2:=Kb (fun (w:World) (v:Value) hM hq=>life_is en.hd v w hM hq hz y hy);have HR:=Kb hR;have hb:=(Kc w).alloc lr (.cells (erC ⟨u,vv,st,hv,bo,ti⟩).toArray 90);have A:=AtL.new w (erC ⟨u,vv,st,hv,bo,ti⟩) 90;have hM1:=hM.below hb lr;have hv1:=hhv.below hb lr;clear hx hy hR hti hr hz;go_enter Tryz.func231,Tryz.ntmps231;go_wp2_with fail;obtain ⟨w1,hw1⟩:∃ w1:World,w.alloc (.cells (erC ⟨u,vv,st,hv,bo,ti⟩).toArray 90)=w1:=⟨_,rfl⟩
 obtain ⟨C,hC⟩:=Ka w.heap.size;rw [hw1] at hb A hM1 hv1;rw [hC] at A;rw [hw1,hC];have HC:=Kb hC;clear hw1 hC;have z_:=A.o6;have al:=A.lt;have hMd:=hM1.below (Kc w1).drew lr;have hvd:=hv1.below (Kc w1).drew lr
 go_region_held3 (fun w'=>w'.cell? ⟨C,0,none⟩=some (.string u)/\w'.cell? ⟨C,1,none⟩=some vv/\w'.cell? ⟨C,2,none⟩=some (.int .i64 st)/\w'.cell? ⟨C,3,none⟩=some hv/\w'.cell? ⟨C,4,none⟩=some (.string bo)/\w'.cell? ⟨C,5,none⟩=some (.int .i64 ti))
  (first | exact er_mk A (Kc w1).drew | exact er_mk A hb4 | exact er_mk A hb5 | go_keep)
  (first
    | ((with_reducible refine (C1.out _).mono ?_);rintro e w4 ⟨rfl,hbb4⟩;have hb4:=(Kc w1).drew.trans hbb4;have hM4:=hM1.below hb4 lr;have hv4:=hv1.below hb4 lr)
    | ((with_reducible refine (C2.out _ _ hM4 hv4).mono ?_);rintro e w5 ⟨rfl,hbb5⟩;have hb5:=Kd hb4 hbb5))
 go_wp2_with fail;go_ret;exact ⟨ret_bool HR.out,Kd hb hb5⟩
theorem slH:SlTy Tryz.prog 28 70 2 32:=.mk' (z:=.agg #[.string ⟨#[]⟩,.string ⟨#[]⟩]) Tryz.underlying28 (by kernel_rfl) rfl (by decide)
abbrev etS:ByteArray:=⟨#[101,116,97,103]⟩
abbrev lmS:ByteArray:=⟨#[108,97,115,116,45,109,111,100,105,102,105,101,100]⟩
abbrev inmS:ByteArray:=⟨#[73,102,45,78,111,110,101,45,77,97,116,99,104]⟩
abbrev imsS:ByteArray:=⟨#[73,102,45,77,111,100,105,102,105,101,100,45,83,105,110,99,101]⟩
def chkL (hs:List Hd):List Hd:=((hdrL hs etS.data.toList).map (fun v=>(inmS,v))).toList ++ ((hdrL hs lmS.data.toList).map (fun v=>(imsS,v))).toList
def HdsQ (w:World)(L:List Hd)(x:Ending)(w':World):Prop:=∃ v,x = .returned v/\w'.ownsRow w.heap.size 70 2 v L.length (cellsK hdC L)/\(L=[]->v = .slice none 0 0)/\Below w.heap.size w w'
theorem hdsq_open {w:World}{L:List Hd}{x:Ending}{w':World}(h:HdsQ w L x w'):(L=[]/\x = .returned (.slice none 0 0)/\Below w.heap.size w w')\/(L≠[]/\∃ g c,x = .returned (.slice (some ⟨g,0,none⟩) L.length c)/\w'.ownsRow w.heap.size 70 2 (.slice (some ⟨g,0,none⟩) L.length c) L.length (cellsK hdC L)/\Below w.heap.size w w'):=by
 obtain ⟨v,rfl,h1,h2,h3⟩:=h;by_cases h0:L=[]
 ·exact .inl ⟨h0,by rw [h2 h0],h3⟩
 ·obtain ⟨a,c,rfl,_,_,ha⟩:=own_reads h1;rcases ha with ⟨_,hl⟩ | ⟨g,rfl,_⟩
  ·exact absurd (Ja hl) h0
  ·exact .inr ⟨h0,g,c,rfl,h1,h3⟩
theorem chk_is (hs:List Hd)(v:Value)(w:World)(hv:SlK hdC 2 w v hs)(hz:HdSz hs)(L:List Hd)(hL:chkL hs=L):
 Calls Tryz.prog 233 #[v] w (HdsQ w L):=by
 unfold chkL at hL
 have c1:=fun V B hV hB=>hdr_at hs v etS w hv hz (by decide) V B hV hB
 have c2:=fun w hv V B hV hB=>hdr_at hs v lmS w hv hz (by decide) V B hV hB
 obtain ⟨sa,sc,rfl,_⟩:=hv.shape
 cases h1:hdrL hs etS.data.toList with
 | none=>
   cases h2:hdrL hs lmS.data.toList with
   | none=>
     rw [h1] at c1 hL
     rw [h2] at c2 hL
     have C1:=Kb (c1 _ _ rfl rfl)
     have C2:=Kb (fun w hv=>c2 w hv _ _ rfl rfl)
     obtain rfl:L=[]:=hL.symm
     clear c1 c2 h1 h2 hL
     go_enter Tryz.func233,Tryz.ntmps233
     go_wp2_with (first
      | (with_reducible refine C1.out.mono ?_;rintro e w1 ⟨rfl,hb1⟩;have hv1:=hv.below hb1 lr)
      | (with_reducible refine (C2.out _ hv1).mono ?_;rintro e w2 ⟨rfl,hb2⟩))
     go_ret
     exact ⟨_,rfl,World.ownsRow_nil _ _ _ _,fun _=>rfl,Kd hb1 hb2⟩
   | some b=>
     rw [h1] at c1 hL
     rw [h2] at c2 hL
     have C1:=Kb (c1 _ _ rfl rfl)
     have C2:=Kb (fun w hv=>c2 w hv b true rfl rfl)
     obtain rfl:L=[(imsS,b)]:=hL.symm
     clear c1 c2 h1 h2 hL
     go_enter Tryz.func233,Tryz.ntmps233
     go_wp2_with (first
      | (with_reducible refine C1.out.mono ?_;rintro e w1 ⟨rfl,hb1⟩;have hv1:=hv.below hb1 lr)
      | (with_reducible refine (C2.out _ hv1).mono ?_;rintro e w2 ⟨rfl,hb2⟩;have hB2:=Kd hb1 hb2;have hz2:=hB2.size)
      | (refine app2 slH _ (by rfl) (.tmp 25) (.tmp 28) (by rfl) w.heap.size _ _ _ (by rfl) (World.ownsRow_nil w2 w.heap.size 70 2) [_,_] 1 _ (by rfl) rfl (by rfl) (by intro u hu;simp at hu;rcases hu with rfl | rfl <;> rfl) (by decide) (by omega) (by omega) hz2 ?_;intro v3 w3 hA gA fA;have hB3:=below_own hB2 (World.ownsRow_nil w2 w.heap.size 70 2) gA hz2 lr))
     go_ret
     exact ⟨_,rfl,own_eq hA (by rfl) (by rfl),(fun h=>by cases h),hB3⟩
 | some a=>
   cases h2:hdrL hs lmS.data.toList with
   | none=>
     rw [h1] at c1 hL
     rw [h2] at c2 hL
     have C1:=Kb (c1 a true rfl rfl)
     have C2:=Kb (fun w hv=>c2 w hv _ _ rfl rfl)
     obtain rfl:L=[(inmS,a)]:=hL.symm
     clear c1 c2 h1 h2 hL
     go_enter Tryz.func233,Tryz.ntmps233
     go_wp2_with (first
      | (with_reducible refine C1.out.mono ?_;rintro e w1 ⟨rfl,hb1⟩;have hz1:=hb1.size)
      | (refine app2 slH _ (by rfl) (.tmp 14) (.tmp 17) (by rfl) w.heap.size _ _ _ (by rfl) (World.ownsRow_nil w1 w.heap.size 70 2) [_,_] 1 _ (by rfl) rfl (by rfl) (by intro u hu;simp at hu;rcases hu with rfl | rfl <;> rfl) (by decide) (by omega) (by omega) hz1 ?_;intro v3 w3 hA gA fA;have hB3:=below_own hb1 (World.ownsRow_nil w1 w.heap.size 70 2) gA hz1 lr;have hv3:=hv.below hB3 lr)
      | (with_reducible refine (C2.out _ hv3).mono ?_;rintro e w4 ⟨rfl,hb4⟩))
     go_ret
     exact ⟨_,rfl,own_eq (own_below hA hb4 lr) (by rfl) (by rfl),(fun h=>by cases h),Kd hB3 hb4⟩
   | some b=>
     rw [h1] at c1 hL
     rw [h2] at c2 hL
     have C1:=Kb (c1 a true rfl rfl)
     have C2:=Kb (fun w hv=>c2 w hv b true rfl rfl)
     obtain rfl:L=[(inmS,a),(imsS,b)]:=hL.symm
     clear c1 c2 h1 h2 hL
     go_enter Tryz.func233,Tryz.ntmps233
     go_wp2_with (first
      | (with_reducible refine C1.out.mono ?_;rintro e w1 ⟨rfl,hb1⟩;have hz1:=hb1.size)
      | (refine app2 slH _ (by rfl) (.tmp 14) (.tmp 17) (by rfl) w.heap.size _ _ _ (by rfl) (World.ownsRow_nil w1 w.heap.size 70 2) [_,_] 1 _ (by rfl) rfl (by rfl) (by intro u hu;simp at hu;rcases hu with rfl | rfl <;> rfl) (by decide) (by omega) (by omega) hz1 ?_;intro v3 w3 hA gA fA;have hB3:=below_own hb1 (World.ownsRow_nil w1 w.heap.size 70 2) gA hz1 lr;have hv3:=hv.below hB3 lr)
      | (with_reducible refine (C2.out _ hv3).mono ?_;rintro e w4 ⟨rfl,hb4⟩;have hA4:=own_below hA hb4 lr;have hB4:=Kd hB3 hb4;have hz4:=hB4.size)
      | (refine app2 slH _ (by rfl) (.tmp 25) (.tmp 28) (by rfl) w.heap.size _ _ _ (by rfl) hA4 [_,_] 1 _ (by rfl) rfl (by rfl) (by intro u hu;simp at hu;rcases hu with rfl | rfl <;> rfl) (by decide) (by omega) (by omega) hz4 ?_;intro v5 w5 hA5 gA5 fA5;have hB5:=below_own hB4 hA4 gA5 hz4 lr))
     go_ret
     exact ⟨_,rfl,own_eq hA5 (by rfl) (by rfl),(fun h=>by cases h),hB5⟩
end Go.Proofs.YtjdhaacmlpegoaaGreatDoor
