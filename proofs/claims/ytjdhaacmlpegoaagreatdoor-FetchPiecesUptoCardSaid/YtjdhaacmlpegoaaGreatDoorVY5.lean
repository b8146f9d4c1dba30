/- FetchPieces: the law. -/
import Derived.Test.YtjdhaacmlpegoaaGreatDoorU25
import Derived.Test.YtjdhaacmlpegoaaGreatDoorU30
import Derived.Test.YtjdhaacmlpegoaaGreatDoorU23
import Derived.Test.YtjdhaacmlpegoaaGreatDoorU29
import Derived.Test.YtjdhaacmlpegoaaGreatDoorU10
import Derived.Test.YtjdhaacmlpegoaaGreatDoorVYE3
namespace Go.Proofs.YtjdhaacmlpegoaaGreatDoor
set_option linter.unusedVariables false
set_option linter.unusedSimpArgs false
open Go.RowKit
abbrev stC (x:ByteArray):List Value:=[.string x]
abbrev acoR5:ByteArray:=⟨#[65,99,99,101,115,115,45,67,111,110,116,114,111,108,45,65,108,108,111,119,45,79,114,105,103,105,110]⟩
theorem two_rows (w:World)(L:List Value)(hL:L.length=1 * 4):
 ((w.alloc (.cells L.toArray 32)).alloc (.cells L.toArray 32)).drew.ownsRow w.heap.size 32 4 (.slice (some ⟨w.heap.size,0,none⟩) 1 1) 1 L /\
 ((w.alloc (.cells L.toArray 32)).alloc (.cells L.toArray 32)).drew.ownsRow w.heap.size 32 4 (.slice (some ⟨w.heap.size+1,0,none⟩) 1 1) 1 L /\
 Below w.heap.size w ((w.alloc (.cells L.toArray 32)).alloc (.cells L.toArray 32)).drew:=by have r1:(w.alloc (.cells L.toArray 32)).ownsRow w.heap.size 32 4 (.slice (some ⟨w.heap.size,0,none⟩) 1 1) 1 L:=own_lit L 1 (Nat.le_refl _) (by decide) hL;have r2:((w.alloc (.cells L.toArray 32)).alloc (.cells L.toArray 32)).ownsRow w.heap.size 32 4 (.slice (some ⟨(w.alloc (.cells L.toArray 32)).heap.size,0,none⟩) 1 1) 1 L:=own_lit L 1 (by simp) (by decide) hL;rw [show (w.alloc (.cells L.toArray 32)).heap.size=w.heap.size+1 by simp] at r2;have hb1:Below w.heap.size w (w.alloc (.cells L.toArray 32)):=(Below.refl _ w).alloc (Nat.le_refl _) _;have hb2:Below (w.alloc (.cells L.toArray 32)).heap.size (w.alloc (.cells L.toArray 32)) ((w.alloc (.cells L.toArray 32)).alloc (.cells L.toArray 32)).drew:=((Below.refl _ _).alloc (Nat.le_refl _) _).drew;have hb3:Below ((w.alloc (.cells L.toArray 32)).alloc (.cells L.toArray 32)).heap.size ((w.alloc (.cells L.toArray 32)).alloc (.cells L.toArray 32)) ((w.alloc (.cells L.toArray 32)).alloc (.cells L.toArray 32)).drew:=(Below.refl _ _).drew;exact ⟨own_below r1 hb2 (Nat.le_refl _),own_below r2 hb3 (Nat.le_refl _),hb1.trans (hb2.mono hb1.size)⟩
theorem catB_app (a b:List ByteArray):catB (a ++ b)=catB a ++ catB b:=by
 induction a with
 | nil=>show catB b=eS ++ catB b;rw [nil_ba]
 | cons x r ih=>show x ++ catB (r ++ b)=x ++ catB r ++ catB b;rw [ih,ba_app]
theorem catB_take (l:List ByteArray)(k:Nat):(catB (l.take k)).size<=(catB l).size:=by
 have h:catB l=catB (l.take k) ++ catB (l.drop k):=by rw [<-catB_app,List.take_append_drop]
 rw [h,ba_app_size];omega
theorem catB_mem {l:List ByteArray}{k:Nat}(h:k<l.length):(l[k]).size<=(catB l).size:=by have h1:=catB_take l (k+1);rw [List.take_succ_eq_append_getElem h,catB_snoc,ba_app_size] at h1;omega
theorem pc_app {wr w8:World}{B:Nat}{ov v2:Value}{lo:List (Value × Op4)}{p:ByteArray}(HO:OpsIn wr B ov lo)
 (hA:w8.ownsRow B 32 4 v2 (lo.length+1) (cellsK opC lo ++ [.int .u8 1,.int .i64 0,.slice none 0 0,.string p]))
 (gA:wr.grownBy w8 ov.ownBlock) (fA:∃ g,v2.ownBlock=some g/\(ov.ownBlock=some g\/wr.heap.size<g)):OpsIn w8 B v2 (lo ++ [(.slice none 0 0,dOp p)]):=by
 refine OpsIn.app HO (.slice none 0 0,dOp p) (Sg.nil ov wr) hA (Kp.grown (Kp.of_below (Below.refl _ wr) (Nat.le_refl _)) gA (Nat.le_refl _) (fun b _ e=>e)) (fun b e=>?_);obtain ⟨g,h1,h2⟩:=fA;rw [e] at h1;injection h1 with h1;subst h1;rcases h2 with h2 | h2
 ·exact .inl h2
 ·exact .inr (Nat.le_of_lt h2)
def loV (X:Nat)(ps:List ByteArray):List (Value × Op4):=(.slice (some ⟨X,0,none⟩) 2 2,⟨0,200,okHs,eS⟩) :: ps.map fun p=>(.slice none 0 0,dOp p)
theorem loV_snoc (X:Nat)(ps:List ByteArray)(p:ByteArray):loV X (ps ++ [p])=loV X ps ++ [(.slice none 0 0,dOp p)]:=by unfold loV;rw [List.map_append];rfl
theorem loV_map (X:Nat)(ps:List ByteArray):(loV X ps).map (·.2)=⟨0,200,okHs,eS⟩ :: ps.map dOp:=by unfold loV;rw [List.map_cons,List.map_map];rfl
theorem okHs_wt:WtH okHs:=fun h hh=>by
 simp only [okHs,List.mem_cons,List.not_mem_nil,or_false] at hh
 rcases hh with rfl | rfl <;> exact ⟨by decide,by decide⟩
def LoOk (X:Nat)(l:List (Value × Op4)):Prop:=∀ x∈l,(x.1 = .slice (some ⟨X,0,none⟩) 2 2/\x.2.hs=okHs)\/(x.1 = .slice none 0 0/\x.2.hs=[])
theorem loV_ok (X:Nat)(ps:List ByteArray)(o:Op4)(ho:o.hs=[]):LoOk X (loV X ps ++ [(.slice none 0 0,o)])/\LoOk X (loV X ps):=by
 have h:LoOk X (loV X ps):=fun x hx=>by
  rcases List.mem_cons.1 hx with rfl | hx
  ·exact .inl ⟨rfl,rfl⟩
  ·obtain ⟨p,_,rfl⟩:=List.mem_map.1 hx;exact .inr ⟨rfl,rfl⟩
 refine ⟨fun x hx=>?_,h⟩;rcases List.mem_append.1 hx with hx | hx
 ·exact h x hx
 ·obtain rfl:=List.mem_singleton.1 hx;exact .inr ⟨rfl,ho⟩
theorem oin_mk {w:World}{N X:Nat}{ov:Value}{l:List (Value × Op4)}(hA:AtL w X [.string ccB,.string maB,.string acoR5,.string starS])(hl:LoOk X l)(own:w.ownsRow N 32 4 ov l.length (cellsK opC l)):OIn w ov l:=
 ⟨SlK.of_own opC_len own,fun x hx=>by
  rcases hl x hx with ⟨h1,h2⟩ | ⟨h1,h2⟩
  ·rw [h1,h2];exact SlK.of_at (l:=okHs) hdC_len hA rfl (by simp [okHs]) (show 2<=maxLen by decide)
  ·rw [h1,h2];exact slk0 _,fun x hx=>by
  rcases hl x hx with ⟨h1,h2⟩ | ⟨h1,h2⟩
  ·rw [h2];exact okHs_wt
  ·rw [h2];exact wth_nil⟩
theorem loV_k (X:Nat)(ps:List ByteArray):∀ x∈loV X ps ++ [((.slice none 0 0:Value),eOp)],x.2.k<256:=fun x hx=>by
 rcases List.mem_append.1 hx with hx | hx
 ·rcases List.mem_cons.1 hx with rfl | hx
  ·show (0:Nat)<256;decide
  ·obtain ⟨p,_,rfl⟩:=List.mem_map.1 hx
   show (1:Nat)<256;decide
 ·obtain rfl:=List.mem_singleton.1 hx
  show (2:Nat)<256;decide
theorem eOp_ok:OpOk eOp:=⟨HOk.nil _,Nat.zero_le _⟩
theorem dOp_ok {p:ByteArray}(h:p.size<=100000):OpOk (dOp p):=⟨HOk.nil _,h⟩
theorem pc_runs {J:List Ck}{nx now tk:Int}{es:List En}{me ur og:ByteArray}{mo:Int}{qh:List Hd}{qb:ByteArray}{ck:Bool}{pl:List ByteArray}(h12:pl.length<=12)(hz:∀ p∈pl,p.size<=500)(X:Nat):
 ∃ A B:Rn,runF now ((loV X pl ++ [((.slice none 0 0:Value),eOp)]).map (·.2)) (startF now (newS tk me ur og mo qh qb ck) (J,nx) es)=A/\runF now ((loV X [catB pl] ++ [((.slice none 0 0:Value),eOp)]).map (·.2)) (startF now (newS tk me ur og mo qh qb ck) (J,nx) es)=B /\
  A.s=B.s/\A.j=B.j/\A.c=B.c/\datB A.ev=datB B.ev/\othE A.ev=othE B.ev:=by
 refine ⟨_,_,rfl,rfl,?_⟩;obtain ⟨S,hS⟩:∃ S,newS tk me ur og mo qh qb ck=S:=⟨_,rfl⟩
 have hh:S.ho=0:=by rw [<-hS];rfl
 rw [hS];rw [List.map_append,loV_map,List.map_append,loV_map];have hc:(catB pl).size<=6000:=by have h1:=catB_size pl hz;have h2:pl.length * 500<=12 * 500:=Nat.mul_le_mul_right _ h12;omega
 exact pieces_end now pl (opF now ⟨0,200,okHs,eS⟩ (startF now S (J,nx) es)) (fun h2=>by have:=head_sb now hh (J,nx) es eS h2;rw [this];show 0+(catB pl).size<=1048576;omega) _ _ rfl rfl
theorem wpList_load_atg {P:Program}{ops:Array Oper}{rest:List Oper}{op:Oper}{a:Act}{w:World}{Q:Exit->Act->World->Prop}(hw:Region.wanted op (yielded ops a.tmps)=true)(ty:TypeId)(x:Operand)(ho:op.op = .load ty x)(b:Nat)(hx:a.eval x = .pointer (some ⟨b,0,none⟩)){cs:List Value}(hA:AtL w b cs){d:TypeDesc}(hu:P.underlying ty=some d)(hd:d.isRow=true)(hi:(P.info? ty).map (·.size)=some cs.length)
 (h:wpList P ops Q rest (a.put op.dst (.agg cs.toArray)) w):wpList P ops Q (op :: rest) a w:=
 wpList_step fun _ hK=>by
  rw [if_pos hw]
  exact wp_load_mid ty x ho b 0 hx cs d hA.range hu hd hi (hK _ _ h)
set_option maxRecDepth 20000 in
set_option maxHeartbeats 40000000 in
theorem fetchpieces_law (vj:Value)(J:List Ck)(nx:Int)(vc:Value)(lx:List Ee)(now tk:Int)(me ur og:ByteArray)(mo:Int)(vq:Value)(qh:List Hd)(qb:ByteArray)(ck:Bool)(pv:Value)(pl:List ByteArray)(w:World)(hM:MaxAt w)(hG:0<w.heap.size)(HW:WIn w vj J vc lx)(HQ:QIn w ur og vq qh qb)(hp:SlK stC 1 w pv pl)(hpl:pl.length<=1048576)(hpz:(catB pl).size<=1048576):
 Calls Tryz.prog 9 #[.agg #[vj,.int .i64 nx,vc,.int .i64 now],.agg #[.int .i64 tk,.string me,.string ur,.string og,.int .i64 mo,vq,.string qb,.bool ck],pv] w fun e w'=>e = .returned (.bool true)/\Below w.heap.size w w':=by
 obtain ⟨ja,jc,rfl,_⟩:=HW.j.shape;obtain ⟨ca,cc,rfl,_⟩:=HW.c.shape;obtain ⟨pa,pc,rfl,_⟩:=hp.shape;obtain ⟨qa,qc,rfl,_⟩:=HQ.q.shape;have hb0:Below w.heap.size w ((w.alloc (.cells [.slice ja J.length jc,.int .i64 nx,.slice ca lx.length cc,.int .i64 now].toArray 27)).alloc (.cells [.int .i64 tk,.string me,.string ur,.string og,.int .i64 mo,.slice qa qh.length qc,.string qb,.bool ck].toArray 30)):=((Below.refl _ w).alloc (Nat.le_refl _) _).alloc (by simp) _;have W0:=(AtL.new w [.slice ja J.length jc,.int .i64 nx,.slice ca lx.length cc,.int .i64 now] 27).alloc (.cells [.int .i64 tk,.string me,.string ur,.string og,.int .i64 mo,.slice qa qh.length qc,.string qb,.bool ck].toArray 30);have Q0:=AtL.new (w.alloc (.cells [.slice ja J.length jc,.int .i64 nx,.slice ca lx.length cc,.int .i64 now].toArray 27)) [.int .i64 tk,.string me,.string ur,.string og,.int .i64 mo,.slice qa qh.length qc,.string qb,.bool ck] 30;rw [show (w.alloc (.cells [.slice ja J.length jc,.int .i64 nx,.slice ca lx.length cc,.int .i64 now].toArray 27)).heap.size=w.heap.size+1 by simp] at Q0;obtain ⟨w0,hw0⟩:∃ w0:World,((w.alloc (.cells [.slice ja J.length jc,.int .i64 nx,.slice ca lx.length cc,.int .i64 now].toArray 27)).alloc (.cells [.int .i64 tk,.string me,.string ur,.string og,.int .i64 mo,.slice qa qh.length qc,.string qb,.bool ck].toArray 30))=w0:=⟨_,rfl⟩
 obtain ⟨W,hW⟩:∃ W,w.heap.size=W:=⟨_,rfl⟩
 obtain ⟨Q,hQ⟩:∃ Q,W+1=Q:=⟨_,rfl⟩
 rw [hw0] at hb0 W0 Q0;rw [hW] at W0 Q0;rw [hQ] at Q0;have CF:=Lib.hid (fit_is45 w0 (hM.below hb0 (Nat.le_refl _)));have al:=W0.lt;have ql:=Q0.lt;have HHM:=Lib.hid hM;have HHG:=Lib.hid hG;have HHW:=Lib.hid HW;have HHQ:=Lib.hid HQ;have HHP:=Lib.hid hp;have HPL:=Lib.hid (And.intro hpl hpz);clear hM hG HW HQ hp hpl hpz;go_enter Tryz.func9,Tryz.ntmps9
 go_upto_region 4 with (first
  | (go_at_call 11;(with_reducible refine CF.out.mono ?_);rintro e1 w1 ⟨rfl,hb1⟩;have Q1:=Q0.next hb1;have W1:=W0.next hb1;have hB1:=hb0.trans (hb1.mono hb0.size))
  | fail)
 have hbx:Below w1.heap.size w1 ((w1.alloc (.cells [.string ccB,.string maB,.string acoR5,.string starS].toArray 70)).alloc (.cells [.int .u8 0,.int .i64 200,.slice (some ⟨w1.heap.size,0,none⟩) 2 2,.string eS].toArray 32)):=((Below.refl _ w1).alloc (Nat.le_refl _) _).alloc (by simp) _;have A4:=(AtL.new w1 [.string ccB,.string maB,.string acoR5,.string starS] 70).alloc (.cells [.int .u8 0,.int .i64 200,.slice (some ⟨w1.heap.size,0,none⟩) 2 2,.string eS].toArray 32);have H4:=AtL.new (w1.alloc (.cells [.string ccB,.string maB,.string acoR5,.string starS].toArray 70)) [.int .u8 0,.int .i64 200,.slice (some ⟨w1.heap.size,0,none⟩) 2 2,.string eS] 32;rw [show (w1.alloc (.cells [.string ccB,.string maB,.string acoR5,.string starS].toArray 70)).heap.size=w1.heap.size+1 by simp] at H4;obtain ⟨X,hX⟩:∃ X,w1.heap.size=X:=⟨_,rfl⟩
 obtain ⟨w4,hw4⟩:∃ w4:World,(w1.alloc (.cells [.string ccB,.string maB,.string acoR5,.string starS].toArray 70)).alloc (.cells [.int .u8 0,.int .i64 200,.slice (some ⟨w1.heap.size,0,none⟩) 2 2,.string eS].toArray 32)=w4:=⟨_,rfl⟩
 rw [hw4] at hbx A4 H4;rw [hw4];rw [hX] at A4 H4;rw [hX];have W4:=W1.next hbx;have Q4:=Q1.next hbx;have hB4:=hB1.trans (hbx.mono hB1.size);clear hw4 hbx hX W1 Q1 hB1 W0 Q0 hb0 hb1 CF al ql;have h0:=H4.c 0 rfl;have h1:=H4.c 1 rfl;have h2:=H4.c 2 rfl;have h3:=H4.c 3 rfl;have hl4:=H4.lt;go_cut [8,9] from 33 to 36 (fun c8 c9 w5=>∃ (a b:Nat),c8 = .slice (some ⟨a,0,none⟩) 1 1/\c9 = .slice (some ⟨b,0,none⟩) 1 1/\a≠b/\w5.ownsRow w4.heap.size 32 4 c8 1 [.int .u8 0,.int .i64 200,.slice (some ⟨X,0,none⟩) 2 2,.string eS]/\w5.ownsRow w4.heap.size 32 4 c9 1 [.int .u8 0,.int .i64 200,.slice (some ⟨X,0,none⟩) 2 2,.string eS]/\Below w4.heap.size w4 w5);case first=>go_region_held3 (fun w'=>w'.cell? ⟨X+1,0,none⟩=some (.int .u8 0)/\w'.cell? ⟨X+1,1,none⟩=some (.int .i64 200)/\w'.cell? ⟨X+1,2,none⟩=some (.slice (some ⟨X,0,none⟩) 2 2)/\w'.cell? ⟨X+1,3,none⟩=some (.string eS)) (go_keep) (fail);all_goals go_wp2_with fail;go_meet;case rel=>obtain ⟨r1,r2,hb⟩:=two_rows w4 [.int .u8 0,.int .i64 200,.slice (some ⟨X,0,none⟩) 2 2,.string eS] rfl;first | exact ⟨_,_,rfl,rfl,by omega,r1,r2,hb⟩ | exact ⟨_,_,rfl,rfl,by omega,r2,r1,hb⟩ | fail
 case rest=>
  obtain ⟨a,b,rfl,rfl,hab,ho5,hn5,hb5⟩:=hcut;have hXl:=A4.lt;have A5:=A4.below hb5 hXl;have hO5:OpsIn wc w4.heap.size (.slice (some ⟨a,0,none⟩) 1 1) [(.slice (some ⟨X,0,none⟩) 2 2,⟨0,200,okHs,eS⟩)]:=⟨ho5,fun x hx=>by obtain rfl:=List.mem_singleton.1 hx;refine ⟨SlK.of_at (l:=okHs) hdC_len A5 rfl (by simp [okHs]) (show 2<=maxLen by decide),fun _ b2 off n c e hm=>?_⟩;have e:Value.slice (some ⟨X,0,none⟩) 2 2 = .slice (some ⟨b2,off,none⟩) n c:=e;injection e with e1 _ _;injection e1 with e1;injection e1 with e1;have hm:some a=some b2:=hm;injection hm with hm;have h3:w4.heap.size<=a:=own_base ho5 rfl;omega⟩
  have hbN:w4.heap.size<=b:=own_base hn5 rfl;have hB5:=hB4.trans (hb5.mono hB4.size);have hpw:=HHP.out.below hB5 (Nat.le_refl _);have HW4:=Lib.hid W4;have HQ4:=Lib.hid Q4;have HA4:=Lib.hid A4;have hb5w:=hb5.size;have hbl:b<wc.heap.size:=(hn5.lt b rfl).2;obtain ⟨N4,hN4⟩:∃ N4,w4.heap.size=N4:=⟨_,rfl⟩
  clear W4 Q4 H4 A4 h0 h1 h2 h3 hl4 A5 ho5;go_wp2_with fail;go_loopw [8,10,39] (fun ov av iv wr=>∃ (k:Nat) (lo:List (Value × Op4)) (s:ByteArray),k<=pl.length/\iv = .int .i64 k/\av = .string s/\s.size<=1048576/\OpsIn wr w4.heap.size ov lo/\Hid (lo.length=k+1)/\Hid (lo=loV X (pl.take k))/\Hid (s=catB (pl.take k))/\Hid (∀ x∈lo,WtH x.2.hs)/\wr.ownsRow w4.heap.size 32 4 (.slice (some ⟨b,0,none⟩) 1 1) 1 [.int .u8 0,.int .i64 200,.slice (some ⟨X,0,none⟩) 2 2,.string eS]/\Hid (ov.ownBlock≠some b)/\Below w4.heap.size w4 wr) (fun _ _ iv _=>pl.length - (intOf iv).toNat);case atStart=>exact ⟨0,_,eS,Nat.zero_le _,rfl,rfl,Nat.zero_le _,hO5,Lib.hid rfl,Lib.hid rfl,Lib.hid rfl,Lib.hid (fun x hx=>by obtain rfl:=List.mem_singleton.1 hx;intro h hh;simp only [okHs,List.mem_cons,List.not_mem_nil,or_false] at hh;rcases hh with rfl | rfl <;> exact ⟨by decide,by decide⟩),hn5,Lib.hid (fun e=>hab (Option.some.inj e)),hb5⟩
  case round=>
   obtain ⟨k,lo,s,hk,rfl,rfl,hsz,hO,hll,hlo,hsc,hwt,hn,hne,hbw⟩:=hrel;by_cases hlt:k<pl.length
   ·obtain ⟨b0,off,cap,he,hb0',hcell⟩:=slk_at HHP.out (by omega);injection he with e1 e2 e3;subst e1 e3;clear e2;have hBr:=hB4.trans (hbw.mono hB4.size);have c0:wr.cell? ⟨b0,off+k,none⟩=some (.string pl[k]):=by have h2:=(brl hBr _ _ hb0').trans (hcell k hlt 0 _ rfl);simpa using h2
    have hsp:(s ++ pl[k]).size<=1048576:=by have h1:=catB_take pl (k+1);have h2:=HPL.out.2;rw [List.take_succ_eq_append_getElem hlt,catB_snoc,<-hsc.out] at h1;omega
    have hts:(pl.take (k+1))=pl.take k ++ [pl[k]]:=List.take_succ_eq_append_getElem hlt;obtain ⟨p,hpk⟩:∃ p,pl[k]=p:=⟨_,rfl⟩
    rw [hpk] at c0 hsp hts;have HTS:=Lib.hid hts;have HSP:=Lib.hid hsp;have hsp2:s.size+p.size<=1048576:=by rw [ba_app_size] at hsp;exact hsp
    have o1:¬ 9223372036854775807<s.size+p.size:=by omega
    have o2:¬ 140737488355328<s.size+p.size:=by omega
    have hln:lo.length<=1048577:=by have:=hll.out;have:=HPL.out.1;omega
    have hkb:k+1<=1048577:=by have:=HPL.out.1;omega
    have hki:(k:Int)<(pl.length:Int):=by omega
    have h0w:b0<wr.heap.size:=Nat.lt_of_lt_of_le hb0' hBr.size;obtain ⟨ov1,oc1,rfl,_⟩:=own_reads hO.own;have HO:=Lib.hid hO;have hown:=hO.own;have hwz:=hbw.size;have HNB:=Lib.hid (hn.lt b rfl).2;clear hcell hpk hts hsp hO;go_wp2_with (refine app2 slOp _ (by rfl) (.tmp 43) (.tmp 46) (by rfl) w4.heap.size _ _ _ (by rfl) hown [_,_,_,_] 1 _ (by rfl) (by simp) (by rfl) (by intro u hu;simp at hu;rcases hu with rfl | rfl | rfl | rfl <;> rfl) (by decide) (by omega) (by omega) hwz ?_;intro v2 w8 hA2 gA fA)
    have hB8:=below_own hbw hown gA hwz (Nat.le_refl _);have hON:=pc_app HO.out hA2 gA fA;have hn8:=hn.kept gA (.inr (fun e=>hne.out e.symm));have hne8:v2.ownBlock≠some b:=fun e=>by
     obtain ⟨g,h1,h2⟩:=fA;rw [e] at h1;injection h1 with h1;subst h1;rcases h2 with h2 | h2
     ·exact hne.out h2
     ·have:=HNB.out;omega
    go_roundw;case rel=>exact ⟨k+1,_,s ++ p,by omega,by go_num,rfl,HSP.out,hON,Lib.hid (by rw [List.length_append,hll.out];rfl),Lib.hid (by rw [hlo.out,HTS.out,loV_snoc]),Lib.hid (by rw [HTS.out,catB_snoc,hsc.out]),Lib.hid (fun x hx=>(List.mem_append.1 hx).elim (hwt.out x) (fun h=>by obtain rfl:=List.mem_singleton.1 h;exact wth_nil)),hn8,Lib.hid hne8,hB8⟩
    case measure=>simp [intOf];omega
   ·obtain rfl:k=pl.length:=by omega
    have hB9:=hB4.trans (hbw.mono hB4.size);have W9:=HW4.out.below hbw HW4.out.lt;have Q9:=HQ4.out.below hbw HQ4.out.lt;have v0:=W9.c 0 rfl;have v1:=W9.c 1 rfl;have v2:=W9.c 2 rfl;have v3:=W9.c 3 rfl;have q0:=Q9.c 0 rfl;have q1:=Q9.c 1 rfl;have q2:=Q9.c 2 rfl;have q3:=Q9.c 3 rfl;have q4:=Q9.c 4 rfl;have q5:=Q9.c 5 rfl;have q6:=Q9.c 6 rfl;have q7:=Q9.c 7 rfl;have vl9:=W9.lt;have ql9:=Q9.lt;obtain ⟨ov1,oc1,rfl,_⟩:=own_reads hO.own;have hlo9:lo=loV X pl:=by rw [hlo.out,List.take_length]
    have hs9:s=catB pl:=by rw [hsc.out,List.take_length]
    obtain ⟨R,hR⟩:∃ R,few4 J nx (lx.map (·.2)) qh ur og qb (lo.map (·.2))=R:=⟨_,rfl⟩
    have CW:=Lib.hid (few4_is wr _ J nx _ lx now tk me ur og mo _ qh qb ck _ lo (HHW.out.below hB9) (HHQ.out.below hB9) (hO.oin hwt.out) R hR);have HO:=Lib.hid hO.own;have HLO:=Lib.hid hlo9;have HS9:=Lib.hid hs9;have HRR:=Lib.hid hR;have HNN:=Lib.hid hn;clear hO hlo9 hs9 hR hn hlt hk;by_cases h12:12<pl.length
    ·have h12z:(12:Int)<(pl.length:Int):=by omega
     go_wp2_with fail;go_ret;exact ⟨rfl,hB9⟩
    ·have h12z:¬ (12:Int)<(pl.length:Int):=by omega
     cases R with
     | false=>
      go_wp2_with (first
       | (go_at_call 12;(with_reducible refine CW.out.mono ?_);rintro e6 w6 ⟨rfl,hb6⟩)
       | fail)
      go_ret;exact ⟨rfl,hB9.trans (hb6.mono hB9.size)⟩
     | true=>
      go_upto_region 14 with (first
       | (go_at_call 12;(with_reducible refine CW.out.mono ?_);rintro e6 w6 ⟨rfl,hb6⟩)
       | fail)
      have hbw6:=hbw.trans (hb6.mono hbw.size);have hB6:=hB9.trans (hb6.mono hB9.size);have hO6:=own_below HO.out hb6 (Nat.le_refl _);have hn6:=own_below HNN.out hb6 (Nat.le_refl _);have hwz6:=hbw6.size;have hne6:=hne.out;have HNE:=Lib.hid hne6;have hlo1:lo.length<=13:=by have:=hll.out;omega
      clear hne6 v0 v1 v2 v3 q0 q1 q2 q3 q4 q5 q6 q7 vl9 ql9 W9 Q9
      go_upto_region 16 with (first
       | (refine app2 slOp _ (by rfl) (.tmp 62) (.tmp 66) (by rfl) w4.heap.size _ _ _ (by rfl) hn6 [_,_,_,_,_,_,_,_] 2 _ (by rfl) (by simp) (by rfl) (by intro u hu;simp at hu;rcases hu with rfl | rfl | rfl | rfl | rfl | rfl | rfl | rfl <;> rfl) (by decide) (by omega) (by omega) hwz6 ?_;intro v9 w7 hA7 g7 f7;have hbw7:=below_own hbw6 hn6 g7 hwz6 (Nat.le_refl _);have hO7:=hO6.kept g7 (.inr HNE.out);have hwz7:=hbw7.size;have hA7s:=own_reads hA7;obtain ⟨ya,yc,rfl,_⟩:=hA7s)
       | (refine app2 slOp _ (by rfl) (.tmp 68) (.tmp 70) (by rfl) w4.heap.size _ _ _ (by rfl) hO7 [_,_,_,_] 1 _ (by rfl) (by simp) (by rfl) (by intro u hu;simp at hu;rcases hu with rfl | rfl | rfl | rfl <;> rfl) (by decide) (by omega) (by omega) hwz7 ?_;intro v8 w8 hA8 g8 f8;have hbw8:=below_own hbw7 hO7 g8 hwz7 (Nat.le_refl _);have hA8s:=own_reads hA8;obtain ⟨xa,xc,rfl,_⟩:=hA8s)
       | fail)
      have hF:=few4_ok HRR.out;have hA8x:=HA4.out.below hbw8 HA4.out.lt;have W8:=HW4.out.below hbw8 HW4.out.lt;have Q8:=HQ4.out.below hbw8 HQ4.out.lt;have hB8:=hB4.trans (hbw8.mono hB4.size);have hne9:(Value.slice ya (1+2) yc).ownBlock≠(Value.slice ov1 lo.length oc1).ownBlock:=fun e=>by
       obtain ⟨g,h1,h2⟩:=f7;rw [h1] at e;rcases h2 with h2 | h2
       ·have h2:some b=some g:=h2;rw [<-h2] at e;exact HNE.out e.symm
       ·have:=(hO6.lt g e.symm).2;omega
      have hA9:=hA7.kept g8 (.inr hne9);obtain ⟨l1,hl1⟩:∃ l1,lo ++ [((.slice none 0 0:Value),eOp)]=l1:=⟨_,rfl⟩
      obtain ⟨l2,hl2⟩:∃ l2,loV X [s] ++ [((.slice none 0 0:Value),eOp)]=l2:=⟨_,rfl⟩
      have hO1:OIn w8 (.slice xa (lo.length+1) xc) l1:=oin_mk hA8x (by rw [<-hl1,HLO.out];exact (loV_ok X pl eOp rfl).1) (own_eq hA8 (by rw [<-hl1];simp) (by rw [<-hl1,cellsK_app];rfl));have hO2:OIn w8 (.slice ya 3 yc) l2:=oin_mk hA8x (by rw [<-hl2];exact (loV_ok X [s] eOp rfl).1) (own_eq hA9 (by rw [<-hl2];rfl) (by rw [<-hl2];rfl));have hpz:∀ p∈pl,p.size<=500:=fun p hp=>by refine (few4_op HRR.out (dOp p) ?_).1;rw [HLO.out,loV_map];exact List.mem_cons_of_mem _ (List.mem_map_of_mem hp)
      obtain ⟨A,B,hrA,hrB,hAB⟩:=pc_runs (J:=J) (nx:=nx) (now:=now) (tk:=tk) (es:=lx.map (·.2)) (me:=me) (ur:=ur) (og:=og) (mo:=mo) (qh:=qh) (qb:=qb) (ck:=ck) (by omega:pl.length<=12) hpz X;rw [<-HLO.out,hl1] at hrA;rw [<-HS9.out,hl2] at hrB;have hsz6:s.size<=6000:=by have h1:=catB_size pl hpz;have h2:pl.length * 500<=12 * 500:=Nat.mul_le_mul_right _ (by omega);rw [HS9.out];omega
      have hop1:∀ x∈l1,OpOk x.2/\x.2.k<256:=fun x hx=>by
       rw [<-hl1] at hx;refine ⟨?_,loV_k X pl x (by rw [<-HLO.out];exact hx)⟩;rcases List.mem_append.1 hx with hx | hx
       ·exact hF.o x.2 (List.mem_map_of_mem hx)
       ·obtain rfl:=List.mem_singleton.1 hx;exact eOp_ok
      have hop2:∀ x∈l2,OpOk x.2/\x.2.k<256:=fun x hx=>by
       rw [<-hl2] at hx;refine ⟨?_,loV_k X [s] x hx⟩;rcases List.mem_append.1 hx with hx | hx
       ·rcases List.mem_cons.1 hx with rfl | hx
        ·exact hF.o ⟨0,200,okHs,eS⟩ (by rw [HLO.out,loV_map];exact List.mem_cons_self ..)
        ·obtain ⟨p,hp,rfl⟩:=List.mem_map.1 hx;obtain rfl:=List.mem_singleton.1 hp;exact dOp_ok (by omega)
       ·obtain rfl:=List.mem_singleton.1 hx;exact eOp_ok
      have C1:=Lib.hid (run_is w8 _ J nx _ lx now tk me ur og mo _ qh qb ck _ l1 (HHM.out.below hB8 (Nat.le_refl _)) (Nat.lt_of_lt_of_le HHG.out hB8.size) (HHW.out.below hB8) (HHQ.out.below hB8) hO1 (hF.q tk me mo ck) hF.j hF.n1 hF.n2 hF.c hop1 (by rw [<-hl1,List.length_append];show lo.length+1<=40;omega) (fun _ _ _=>setC) A hrA);have C2:=Lib.hid (fun (w':World) (hb:Below w8.heap.size w8 w')=>run_is w' _ J nx _ lx now tk me ur og mo _ qh qb ck _ l2 (HHM.out.below (hB8.trans (hb.mono hB8.size)) (Nat.le_refl _)) (Nat.lt_of_lt_of_le HHG.out (hB8.trans (hb.mono hB8.size)).size) (HHW.out.below (hB8.trans (hb.mono hB8.size))) (HHQ.out.below (hB8.trans (hb.mono hB8.size))) (hO2.below hb) (hF.q tk me mo ck) hF.j hF.n1 hF.n2 hF.c hop2 (by rw [<-hl2];show 3<=40;decide) (fun _ _ _=>setC) B hrB);have hSO:=hF.q tk me mo ck;have hst0:=startF_ok hSO rfl hF.j hF.n1 hF.n2 hF.c (now:=now) (j:=(J,nx));have hokA:=runF_ok (now:=now) (l1.map (·.2)) 0 _ (fun o ho=>by obtain ⟨x,hx,rfl⟩:=List.mem_map.1 ho;exact (hop1 x hx).1) (by rw [List.length_map,<-hl1,List.length_append];show 0+(lo.length+1)<=50;omega) hst0;have hokB:=runF_ok (now:=now) (l2.map (·.2)) 0 _ (fun o ho=>by obtain ⟨x,hx,rfl⟩:=List.mem_map.1 ho;exact (hop2 x hx).1) (by rw [<-hl2];show 0+3<=50;decide) hst0;rw [hrA] at hokA;rw [hrB] at hokB;have hbA:=runF_bo now (q:=qb) (by have:=(few4_sz HRR.out).2.2;omega) (l1.map (·.2)) _ (startF_bo now (S:=newS tk me ur og mo qh qb ck) (q:=qb) rfl (by have:=(few4_sz HRR.out).2.2;omega) (J,nx) (lx.map (·.2)));have hbB:=runF_bo now (q:=qb) (by have:=(few4_sz HRR.out).2.2;omega) (l2.map (·.2)) _ (startF_bo now (S:=newS tk me ur og mo qh qb ck) (q:=qb) rfl (by have:=(few4_sz HRR.out).2.2;omega) (J,nx) (lx.map (·.2)));rw [hrA] at hbA;rw [hrB] at hbB;have hqh:(newS tk me ur og mo qh qb ck).qh.length<=1000:=by have:=hSO.ql;omega
      have hCe:∀ e∈lx.map (·.2),e.hd.length<=2000:=fun e he=>by have:=((hF.c).ok e he).hd.len;omega
      have hhA:=dataR_eh now pl _ (headR_eh now hqh (J,nx) hCe eS);have hhB:=dataR_eh now [s] _ (headR_eh now hqh (J,nx) hCe eS);have heA:runF now (pl.map dOp ++ [eOp]) (opF now ⟨0,200,okHs,eS⟩ (startF now (newS tk me ur og mo qh qb ck) (J,nx) (lx.map (·.2))))=A:=by rw [<-hrA,<-hl1,HLO.out,List.map_append,loV_map];rfl
      have heB:runF now ([s].map dOp ++ [eOp]) (opF now ⟨0,200,okHs,eS⟩ (startF now (newS tk me ur og mo qh qb ck) (J,nx) (lx.map (·.2))))=B:=by rw [<-hrB,<-hl2,List.map_append,loV_map];rfl
      rw [heA] at hhA;rw [heB] at hhB;have HEA:=Lib.hid (And.intro hbA.1 (And.intro (show A.ev.length<=100 by have:=hokA.e;rw [List.length_map,<-hl1,List.length_append] at this;have h2:[((.slice none 0 0:Value),eOp)].length=1:=rfl;omega) (And.intro hhA hokA)));have HEB:=Lib.hid (And.intro hbB.1 (And.intro (show B.ev.length<=100 by have:=hokB.e;rw [List.length_map,<-hl2] at this;have h2:(loV X [s] ++ [((.slice none 0 0:Value),eOp)]).length=3:=rfl;omega) (And.intro hhB hokB)));have hn1:(l1.map (·.2)).length<=14:=by rw [List.length_map,<-hl1,List.length_append];show lo.length+1<=14;omega
      have hbnd:A.s.hs.length<=1000/\A.c.length<=1000/\(∀ e∈A.c,e.va.length<=1000000/\e.hd.length<=1000000)/\A.j.1.length<=1000:=⟨by have:=hokA.h.len;omega,by have:=hokA.c.len;omega,fun e he=>⟨(hokA.c.ok e he).va.1,by have:=(hokA.c.ok e he).hd.len;omega⟩,by have:=hokA.j.len;omega⟩
      have HBND:=Lib.hid hbnd;clear hn1 hbnd hSO hst0 hokA hokB hbA hbB hqh hCe hhA hhB heA heB;have HAB:=Lib.hid hAB;have HFF:=Lib.hid hF;clear hF hA8x hne9 hA9 hO1 hO2 hpz hrA hrB hAB hsz6 hop1 hop2 hl1 hl2 hA7 hA8 hO7 hO6 hn6 g7 g8 f7 f8;have v0:=W8.c 0 rfl;have v1:=W8.c 1 rfl;have v2:=W8.c 2 rfl;have v3:=W8.c 3 rfl;have q0:=Q8.c 0 rfl;have q1:=Q8.c 1 rfl;have q2:=Q8.c 2 rfl;have q3:=Q8.c 3 rfl;have q4:=Q8.c 4 rfl;have q5:=Q8.c 5 rfl;have q6:=Q8.c 6 rfl;have q7:=Q8.c 7 rfl;have vl8:=W8.lt;have ql8:=Q8.lt
      go_upto_region 17 with (first
       | (go_at_call 13;(with_reducible refine C1.out.mono ?_);rintro e9 w9 hq9;obtain ⟨L,V,ea,n,ek,la,vj3,vc3,lx3,rfl,hn3,hL,hV,hRL⟩:=RunQ.law hq9;have Z3:=lawW_at w9;have Z4:=lawW_at2 w9 L;have HL:=Lib.hid hL;have HV:=Lib.hid hV;have HRL:=Lib.hid hRL;have HN:=Lib.hid hn3;clear hq9 hL hV hRL hn3)
       | (refine wpList_store_at rfl 40 _ _ rfl w9.heap.size L rfl rfl Z3 HL.out.1 (by rw [HL.out.1];kernel_rfl) HL.out.2 ?_)
       | (refine wpList_store_at rfl 27 _ _ rfl (w9.heap.size+1) V rfl rfl Z4 HV.out.1 (by rw [HV.out.1];kernel_rfl) HV.out.2 ?_)
       | fail)
      obtain ⟨w10,hw10⟩:∃ w8:World,(((w9.alloc (.cells fz.toArray 40)).alloc (.cells wz.toArray 27)).setCells w9.heap.size 0 L).setCells (w9.heap.size+1) 0 V=w8:=⟨_,rfl⟩
      have R10:RunL w8 now A w9.heap.size L (.slice ea n ek) la vj3 vc3 lx3 w10:=by rw [<-hw10];exact HRL.out
      obtain ⟨s1,hs1⟩:∃ s1,w9.heap.size=s1:=⟨_,rfl⟩
      rw [hs1] at R10;rw [hw10,hs1];obtain rfl:n=la.length:=HN.out;have W10:=W8.next R10.bl;have Q10:=Q8.next R10.bl;have hB10:=hB8.trans (R10.bl.mono hB8.size);have HR10:=Lib.hid R10;have C3:=Lib.hid (C2.out w10 R10.bl);clear hw10 hs1 HRL HL HV HN Z3 Z4 C1 C2 R10 W8 Q8 v0 v1 v2 v3 q0 q1 q2 q3 q4 q5 q6 q7 vl8 ql8;have v0:=W10.c 0 rfl;have v1:=W10.c 1 rfl;have v2:=W10.c 2 rfl;have v3:=W10.c 3 rfl;have q0:=Q10.c 0 rfl;have q1:=Q10.c 1 rfl;have q2:=Q10.c 2 rfl;have q3:=Q10.c 3 rfl;have q4:=Q10.c 4 rfl;have q5:=Q10.c 5 rfl;have q6:=Q10.c 6 rfl;have q7:=Q10.c 7 rfl;have vl10:=W10.lt;have ql10:=Q10.lt
      go_upto_region 18 with (first
       | (go_at_call 13;(with_reducible refine C3.out.mono ?_);rintro e11 w11 hq11;obtain ⟨L2,V2,eb,n2,ek2,lb,vj5,vc5,lx5,rfl,hn5,hL,hV,hRL⟩:=RunQ.law hq11;have Z3:=lawW_at w11;have Z4:=lawW_at2 w11 L2;have HL:=Lib.hid hL;have HV:=Lib.hid hV;have HRL:=Lib.hid hRL;have HN:=Lib.hid hn5;clear hq11 hL hV hRL hn5)
       | (refine wpList_store_at rfl 40 _ _ rfl w11.heap.size L2 rfl rfl Z3 HL.out.1 (by rw [HL.out.1];kernel_rfl) HL.out.2 ?_)
       | (refine wpList_store_at rfl 27 _ _ rfl (w11.heap.size+1) V2 rfl rfl Z4 HV.out.1 (by rw [HV.out.1];kernel_rfl) HV.out.2 ?_)
       | fail)
      obtain ⟨w12,hw12⟩:∃ w8:World,(((w11.alloc (.cells fz.toArray 40)).alloc (.cells wz.toArray 27)).setCells w11.heap.size 0 L2).setCells (w11.heap.size+1) 0 V2=w8:=⟨_,rfl⟩
      have R12:RunL w10 now B w11.heap.size L2 (.slice eb n2 ek2) lb vj5 vc5 lx5 w12:=by rw [<-hw12];exact HRL.out
      obtain ⟨s2,hs2⟩:∃ s1,w11.heap.size=s1:=⟨_,rfl⟩
      rw [hs2] at R12;rw [hw12,hs2];obtain rfl:n2=lb.length:=HN.out;have R11:=HR10.out.next R12.bl;have hB12:=hB10.trans (R12.bl.mono hB10.size);have hlA:la.length<=100:=by have:=HEA.out.2.1;have h2:=congrArg List.length R11.eq;rw [List.length_map] at h2;omega
      have hlB:lb.length<=100:=by have:=HEB.out.2.1;have h2:=congrArg List.length R12.eq;rw [List.length_map] at h2;omega
      have HEVA:=Lib.hid (slk_at R11.ev);have HEVB:=Lib.hid (slk_at R12.ev);have HR11:=Lib.hid R11;have HR12:=Lib.hid R12;clear hw12 hs2 HRL HL HV HN Z3 Z4 C3 R11 R12 HR10 W10 Q10 v0 v1 v2 v3 q0 q1 q2 q3 q4 q5 q6 q7 vl10 ql10;go_wp2_with fail;go_loopw [19,21,90] (fun av rv iv wx=>∃ (k:Nat) (t:ByteArray) (lv:List (Value × Ev)),k<=la.length/\iv = .int .i64 k/\av = .string t/\t.size<=104857600/\Hid (t=datB (A.ev.take k))/\Hid (lv=othV (la.take k))/\wx.ownsRow w12.heap.size 48 7 rv lv.length (cellsK evC lv)/\Below w12.heap.size w12 wx) (fun _ _ iv _=>la.length - (intOf iv).toNat);case atStart=>exact ⟨0,eS,[],Nat.zero_le _,rfl,rfl,Nat.zero_le _,Lib.hid rfl,Lib.hid rfl,World.ownsRow_nil _ _ _ _,Below.refl _ _⟩
      case round=>
       obtain ⟨k,ta,lva,hk,rfl,rfl,htz,ht,hlv,hrow,hbx⟩:=hrel;by_cases hlt:k<la.length
       ·obtain ⟨b0,off,cap,he,hb0',hcell⟩:=HEVA.out (by omega);injection he with e1 e2 e3;subst e1 e3;clear e2;have hbr:=hbx;have cc:∀ j u,(evC la[k])[j]? = some u->wr.cell? ⟨b0,off+k * 7+j,none⟩=some u:=fun j u hu=>(brl hbr _ _ hb0').trans (hcell k hlt j u hu);have hx:=HR11.out.hs _ (List.getElem_mem hlt);have hev:k<A.ev.length:=by rw [<-HR11.out.eq,List.length_map];exact hlt
        have hek:A.ev[k]=la[k].2:=by have:=congrArg (fun l=>l[k]?) HR11.out.eq;simp only [List.getElem?_map,List.getElem?_eq_getElem hlt,List.getElem?_eq_getElem hev,Option.map_some] at this;exact (Option.some.inj this).symm
        have hd1:=datB_succ hev;rw [hek,<-ht.out] at hd1;have hd2:=othV_succ hlt;rw [<-hlv.out] at hd2;have hd3:=datB_sz HEA.out.1 (k+1) HEA.out.2.1;rw [hd1] at hd3;have hlvl:lva.length<=100:=by rw [hlv.out];exact Nat.le_trans (othV_len _ _) hlA
        obtain ⟨y,hy⟩:∃ y,la[k]=y:=⟨_,rfl⟩
        rw [hy] at cc hx hd1 hd2 hd3;obtain ⟨yv,ye⟩:=y;obtain ⟨xa,xc,hxv,_⟩:=hx.shape;have hxv:yv = .slice xa ye.hs.length xc:=hxv;subst hxv;clear hcell hy hx hek hev;have c0:=cc 0 _ rfl;have c1:=cc 1 _ rfl;have c2:=cc 2 _ rfl;have c3:=cc 3 _ rfl;have c4:=cc 4 _ rfl;have c5:=cc 5 _ rfl;have c6:=cc 6 _ rfl;simp only [Nat.add_zero] at c0;simp only at c0 c1 c2 c3 c4 c5 c6;clear cc;have hki:(k:Int)<(la.length:Int):=by omega
        have h0w:b0<wr.heap.size:=Nat.lt_of_lt_of_le hb0' hbr.size;obtain ⟨r1,rc1,rfl,_⟩:=own_reads hrow;have hwz:=hbx.size;have hbn:Below w12.heap.size w12 (wr.alloc (.cells [.int .i64 ye.k,.string ye.me,.string ye.ur,.slice xa ye.hs.length xc,.string ye.bo,.int .i64 ye.st,.int .i64 ye.er].toArray 48)):=hbx.alloc hbx.size _;by_cases hk3:ye.k=3
        ·have hdt:datF ta ye=ta ++ ye.bo:=by unfold datF;rw [if_pos hk3]
         rw [hdt] at hd1 hd3;rw [if_pos (show ((.slice xa ye.hs.length xc,ye):Value × Ev).2.k=3 from hk3),List.append_nil] at hd2;rw [hk3] at c0 hbn;have hsum:ta.size+ye.bo.size<=104857600:=by rw [ba_app_size] at hd3;exact hd3
         have o1:¬ 9223372036854775807<ta.size+ye.bo.size:=by omega
         have o2:¬ 140737488355328<ta.size+ye.bo.size:=by omega
         have hro:=hrow.alloc (.cells [.int .i64 3,.string ye.me,.string ye.ur,.slice xa ye.hs.length xc,.string ye.bo,.int .i64 ye.st,.int .i64 ye.er].toArray 48);have H1:=Lib.hid hd1;have H2:=Lib.hid hd2;have H3:=Lib.hid hd3;clear hdt hd1 hd2 hd3 hk3;go_wp2_with fail;go_roundw;case rel=>exact ⟨k+1,ta ++ ye.bo,lva,by omega,by go_num,rfl,H3.out,Lib.hid H1.out.symm,Lib.hid H2.out.symm,hro,hbn⟩
         case measure=>simp [intOf];omega
        ·have hdt:datF ta ye=ta:=by unfold datF;rw [if_neg hk3]
         rw [hdt] at hd1 hd3;rw [if_neg (show ¬ ((.slice xa ye.hs.length xc,ye):Value × Ev).2.k=3 from hk3)] at hd2;have hke:(ye.k == 3)=false:=beq_eq_false_iff_ne.2 hk3;have hro:=hrow.alloc (.cells [.int .i64 ye.k,.string ye.me,.string ye.ur,.slice xa ye.hs.length xc,.string ye.bo,.int .i64 ye.st,.int .i64 ye.er].toArray 48);have hbz:=hbn.size;have H1:=Lib.hid hd1;have H2:=Lib.hid hd2;have H3:=Lib.hid hd3;clear hdt hd1 hd2 hd3 hk3;go_wp2_with (refine app2 slEv _ (by rfl) (.tmp 101) (.tmp 103) (by rfl) w12.heap.size _ _ _ (by rfl) hro [_,_,_,_,_,_,_] 1 _ (by rfl) (by simp) (by rfl) (by intro u hu;simp at hu;rcases hu with rfl | rfl | rfl | rfl | rfl | rfl | rfl <;> rfl) (by decide) (by omega) (by omega) hbz ?_;intro v2 w8x hA2 gA fA)
         have hbn8:=below_own hbn hro gA hbz (Nat.le_refl _);go_roundw;case rel=>exact ⟨k+1,ta,lva ++ [(.slice xa ye.hs.length xc,ye)],by omega,by go_num,rfl,htz,Lib.hid H1.out.symm,Lib.hid H2.out.symm,own_eq hA2 (by simp) (by rw [cellsK_app];rfl),hbn8⟩
         case measure=>simp [intOf];omega
       ·obtain rfl:k=la.length:=by omega
        have hT:ta=datB A.ev:=by
         have h2:A.ev.length=la.length:=by rw [<-HR11.out.eq,List.length_map]
         rw [ht.out,<-h2,List.take_length]
        have hLV:lva=othV la:=by rw [hlv.out,List.take_length]
        obtain ⟨r1,rc1,rfl,_⟩:=own_reads hrow;obtain ⟨wa,hwa⟩:∃ wa:World,wr=wa:=⟨_,rfl⟩
        rw [hwa] at hrow hbx;rw [hwa];have HT:=Lib.hid hT;have HLVA:=Lib.hid hLV;have HROW:=Lib.hid hrow;have HBXA:=Lib.hid hbx;clear hT hLV ht hlv hlt hk hwa hrow hbx;go_wp2_with fail;go_loopw [20,22,108] (fun av rv iv wx=>∃ (k:Nat) (t:ByteArray) (lv:List (Value × Ev)),k<=lb.length/\iv = .int .i64 k/\av = .string t/\t.size<=104857600/\Hid (t=datB (B.ev.take k))/\Hid (lv=othV (lb.take k))/\wx.ownsRow wa.heap.size 48 7 rv lv.length (cellsK evC lv)/\Below wa.heap.size wa wx) (fun _ _ iv _=>lb.length - (intOf iv).toNat);case atStart=>exact ⟨0,eS,[],Nat.zero_le _,rfl,rfl,Nat.zero_le _,Lib.hid rfl,Lib.hid rfl,World.ownsRow_nil _ _ _ _,Below.refl _ _⟩
        case round=>
         obtain ⟨k,tb,lvb,hk,rfl,rfl,htz,ht,hlv,hrow,hbx⟩:=hrel;by_cases hlt:k<lb.length
         ·obtain ⟨b0,off,cap,he,hb0',hcell⟩:=HEVB.out (by omega);injection he with e1 e2 e3;subst e1 e3;clear e2;have hbr:=HBXA.out.trans (hbx.mono HBXA.out.size);have cc:∀ j u,(evC lb[k])[j]? = some u->wr.cell? ⟨b0,off+k * 7+j,none⟩=some u:=fun j u hu=>(brl hbr _ _ hb0').trans (hcell k hlt j u hu);have hx:=HR12.out.hs _ (List.getElem_mem hlt);have hev:k<B.ev.length:=by rw [<-HR12.out.eq,List.length_map];exact hlt
          have hek:B.ev[k]=lb[k].2:=by have:=congrArg (fun l=>l[k]?) HR12.out.eq;simp only [List.getElem?_map,List.getElem?_eq_getElem hlt,List.getElem?_eq_getElem hev,Option.map_some] at this;exact (Option.some.inj this).symm
          have hd1:=datB_succ hev;rw [hek,<-ht.out] at hd1;have hd2:=othV_succ hlt;rw [<-hlv.out] at hd2;have hd3:=datB_sz HEB.out.1 (k+1) HEB.out.2.1;rw [hd1] at hd3;have hlvl:lvb.length<=100:=by rw [hlv.out];exact Nat.le_trans (othV_len _ _) hlB
          obtain ⟨y,hy⟩:∃ y,lb[k]=y:=⟨_,rfl⟩
          rw [hy] at cc hx hd1 hd2 hd3;obtain ⟨yv,ye⟩:=y;obtain ⟨xa,xc,hxv,_⟩:=hx.shape;have hxv:yv = .slice xa ye.hs.length xc:=hxv;subst hxv;clear hcell hy hx hek hev;have c0:=cc 0 _ rfl;have c1:=cc 1 _ rfl;have c2:=cc 2 _ rfl;have c3:=cc 3 _ rfl;have c4:=cc 4 _ rfl;have c5:=cc 5 _ rfl;have c6:=cc 6 _ rfl;simp only [Nat.add_zero] at c0;simp only at c0 c1 c2 c3 c4 c5 c6;clear cc;have hki:(k:Int)<(lb.length:Int):=by omega
          have h0w:b0<wr.heap.size:=Nat.lt_of_lt_of_le hb0' hbr.size;obtain ⟨r1,rc1,rfl,_⟩:=own_reads hrow;have hwz:=hbx.size;have hbn:Below wa.heap.size wa (wr.alloc (.cells [.int .i64 ye.k,.string ye.me,.string ye.ur,.slice xa ye.hs.length xc,.string ye.bo,.int .i64 ye.st,.int .i64 ye.er].toArray 48)):=hbx.alloc hbx.size _;by_cases hk3:ye.k=3
          ·have hdt:datF tb ye=tb ++ ye.bo:=by unfold datF;rw [if_pos hk3]
           rw [hdt] at hd1 hd3;rw [if_pos (show ((.slice xa ye.hs.length xc,ye):Value × Ev).2.k=3 from hk3),List.append_nil] at hd2;rw [hk3] at c0 hbn;have hsum:tb.size+ye.bo.size<=104857600:=by rw [ba_app_size] at hd3;exact hd3
           have o1:¬ 9223372036854775807<tb.size+ye.bo.size:=by omega
           have o2:¬ 140737488355328<tb.size+ye.bo.size:=by omega
           have hro:=hrow.alloc (.cells [.int .i64 3,.string ye.me,.string ye.ur,.slice xa ye.hs.length xc,.string ye.bo,.int .i64 ye.st,.int .i64 ye.er].toArray 48);have H1:=Lib.hid hd1;have H2:=Lib.hid hd2;have H3:=Lib.hid hd3;clear hdt hd1 hd2 hd3 hk3;go_wp2_with fail;go_roundw;case rel=>exact ⟨k+1,tb ++ ye.bo,lvb,by omega,by go_num,rfl,H3.out,Lib.hid H1.out.symm,Lib.hid H2.out.symm,hro,hbn⟩
           case measure=>simp [intOf];omega
          ·have hdt:datF tb ye=tb:=by unfold datF;rw [if_neg hk3]
           rw [hdt] at hd1 hd3;rw [if_neg (show ¬ ((.slice xa ye.hs.length xc,ye):Value × Ev).2.k=3 from hk3)] at hd2;have hke:(ye.k == 3)=false:=beq_eq_false_iff_ne.2 hk3;have hro:=hrow.alloc (.cells [.int .i64 ye.k,.string ye.me,.string ye.ur,.slice xa ye.hs.length xc,.string ye.bo,.int .i64 ye.st,.int .i64 ye.er].toArray 48);have hbz:=hbn.size;have H1:=Lib.hid hd1;have H2:=Lib.hid hd2;have H3:=Lib.hid hd3;clear hdt hd1 hd2 hd3 hk3;go_wp2_with (refine app2 slEv _ (by rfl) (.tmp 119) (.tmp 121) (by rfl) wa.heap.size _ _ _ (by rfl) hro [_,_,_,_,_,_,_] 1 _ (by rfl) (by simp) (by rfl) (by intro u hu;simp at hu;rcases hu with rfl | rfl | rfl | rfl | rfl | rfl | rfl <;> rfl) (by decide) (by omega) (by omega) hbz ?_;intro v2 w8x hA2 gA fA)
           have hbn8:=below_own hbn hro gA hbz (Nat.le_refl _);go_roundw;case rel=>exact ⟨k+1,tb,lvb ++ [(.slice xa ye.hs.length xc,ye)],by omega,by go_num,rfl,htz,Lib.hid H1.out.symm,Lib.hid H2.out.symm,own_eq hA2 (by simp) (by rw [cellsK_app];rfl),hbn8⟩
           case measure=>simp [intOf];omega
         ·obtain rfl:k=lb.length:=by omega
          have hT2:tb=datB B.ev:=by
           have h2:B.ev.length=lb.length:=by rw [<-HR12.out.eq,List.length_map]
           rw [ht.out,<-h2,List.take_length]
          have hLV2:lvb=othV lb:=by rw [hlv.out,List.take_length]
          have hte:ta=tb:=HT.out.trans (HAB.out.2.2.2.1.trans hT2.symm);subst hte;obtain ⟨r2,rc2,rfl,_⟩:=own_reads hrow;have hbW:Below w12.heap.size w12 wr:=HBXA.out.trans (hbx.mono HBXA.out.size);have hmap:lva.map (·.2)=lvb.map (·.2):=by rw [HLVA.out,hLV2,othV_map,othV_map,HR11.out.eq,HR12.out.eq];exact HAB.out.2.2.2.2
          have hmA:∀ r∈lva,r∈la:=fun r hr=>by rw [HLVA.out] at hr;exact (List.mem_filter.1 hr).1
          have hmB:∀ r∈lvb,r∈lb:=fun r hr=>by rw [hLV2] at hr;exact (List.mem_filter.1 hr).1
          have CE:=Lib.hid (sameEv lva lvb hmap (.slice r1 lva.length rc1) (.slice r2 lvb.length rc2) wr (SlK.of_own evC_len (own_below HROW.out hbx (Nat.le_refl _))) (SlK.of_own evC_len hrow) (fun r hr=>(HR11.out.hs r (hmA r hr)).below hbW (Nat.le_refl _)) (fun r hr=>(HR12.out.hs r (hmB r hr)).below hbW (Nat.le_refl _)) (Nat.le_trans (by rw [HLVA.out];exact List.length_filter_le _ _) (Nat.le_trans hlA (by decide))) (fun r hr=>by have h1:=HEA.out.2.2.1 r.2 (by rw [<-HR11.out.eq];exact List.mem_map_of_mem (hmA r hr));omega));obtain ⟨va,vk,wa2,wk,hLe,_,hSw⟩:=HR11.out.ls;obtain ⟨vb,vl,wb2,wl,hLe2,_,hSw2⟩:=HR12.out.ls;have SA:=HR11.out.st;rw [hLe] at SA;have SB:=HR12.out.st;rw [hLe2,<-HAB.out.1] at SB;rw [<-HAB.out.1] at hSw2;have DA:=HR11.out.wd;have DB:=HR12.out.wd;rw [<-HAB.out.2.1] at DB;have hjA:=HR11.out.ja;have hjB:=HR12.out.ja;rw [<-HAB.out.2.1] at hjB;have hcA:=HR11.out.ca;have hcB:=HR12.out.ca;obtain ⟨ja1,jk1,rfl,_⟩:=hjA.shape;obtain ⟨ja2,jk2,rfl,_⟩:=hjB.shape;obtain ⟨ca1,ck1,rfl,_⟩:=hcA.shape;obtain ⟨ca2,ck2,rfl,_⟩:=hcB.shape;have hsl:A.s.hs.length<=1000000:=by have:=HBND.out.1;omega
          have CS:=Lib.hid (fun (w':World) (hb:Below w12.heap.size w12 w')=>sameSt A.s (.slice va A.s.qh.length vk) (.slice wa2 A.s.hs.length wk) (.slice vb A.s.qh.length vl) (.slice wb2 A.s.hs.length wl) w' (hSw.below hb (Nat.le_refl _)) (hSw2.below hb (Nat.le_refl _)) ⟨_,_,_,rfl⟩ ⟨_,_,_,rfl⟩ hsl);have hcm:lx3.map (·.2)=lx5.map (·.2):=by rw [HR11.out.ce,HR12.out.ce];exact HAB.out.2.2.1
          have CL:=Lib.hid (fun (w':World) (hb:Below w12.heap.size w12 w')=>sameL lx3 lx5 hcm (.slice ca1 lx3.length ck1) (.slice ca2 lx5.length ck2) w' (hcA.below hb (Nat.le_refl _)) (hcB.below hb (Nat.le_refl _)) (fun x hx=>(HR11.out.rd x hx).below hb (Nat.le_refl _)) (fun x hx=>(HR12.out.rd x hx).below hb (Nat.le_refl _)) (fun x hx=>HBND.out.2.2.1 x.2 (by rw [<-HR11.out.ce];exact List.mem_map_of_mem hx)) (by have h1:=HBND.out.2.1;rw [<-HR11.out.ce,List.length_map] at h1;omega));have CJ:=Lib.hid (fun (w':World) (hb:Below w12.heap.size w12 w')=>same_true A.j.1 (.slice ja1 A.j.1.length jk1) (.slice ja2 A.j.1.length jk2) A.j.2 w' (hjA.below hb (Nat.le_refl _)) (hjB.below hb (Nat.le_refl _)) (by have:=HBND.out.2.2.2;omega));have SA13:=SA.next hbW;have SB13:=SB.next hbW;have DA13:=DA.next hbW;have DB13:=DB.next hbW;have HBE:=Lib.hid (hB12.trans (hbW.mono hB12.size));have HBW:=Lib.hid hbW;clear hT2 hLV2 hmap hmA hmB hLe hLe2 hSw hSw2 SA SB DA DB hjA hjB hcA hcB hsl hcm ht hlv hlt hk hrow hbx hbW
          go_wp2_with (first
           | (go_at_call 18;(with_reducible refine CE.out.mono ?_);rintro e14 w14 ⟨rfl,hb14⟩;have SA14:=SA13.next hb14;have SB14:=SB13.next hb14;have xl14:=SA14.lt;have yl14:=SB14.lt;have h14:=HBW.out.trans (hb14.mono HBW.out.size))
           | (refine wpList_load_atg (by rfl) 40 _ rfl s1 rfl SA14 Tryz.underlying40 rfl (by kernel_rfl) ?_)
           | (refine wpList_load_atg (by rfl) 40 _ rfl s2 rfl SB14 Tryz.underlying40 rfl (by kernel_rfl) ?_)
           | (go_at_call 19;(with_reducible refine (CS.out _ h14).mono ?_);rintro e15 w15 ⟨rfl,hb15⟩;have hb15s:=hb14.trans (hb15.mono hb14.size);have DA15:=DA13.next hb15s;have DB15:=DB13.next hb15s;have a0:=DA15.c 0 rfl;have a1:=DA15.c 1 rfl;have a2:=DA15.c 2 rfl;have a3:=DA15.c 3 rfl;have b0:=DB15.c 0 rfl;have b1:=DB15.c 1 rfl;have b2:=DB15.c 2 rfl;have b3:=DB15.c 3 rfl;have al15:=DA15.lt;have bl15:=DB15.lt;have h15:=h14.trans (hb15.mono h14.size))
           | (go_at_call 20;(with_reducible refine (CL.out _ h15).mono ?_);rintro e16 w16 ⟨rfl,hb16⟩;have DA16:=DA15.next hb16;have DB16:=DB15.next hb16;have c0:=DA16.c 0 rfl;have c1:=DA16.c 1 rfl;have c2:=DA16.c 2 rfl;have c3:=DA16.c 3 rfl;have d0:=DB16.c 0 rfl;have d1:=DB16.c 1 rfl;have d2:=DB16.c 2 rfl;have d3:=DB16.c 3 rfl;have cl16:=DA16.lt;have dl16:=DB16.lt;have h16:=h15.trans (hb16.mono h15.size))
           | (go_at_call 16;(with_reducible refine (CJ.out _ h16).mono ?_);rintro e17 w17 ⟨rfl,hb17⟩)
           | fail)
          go_ret;exact ⟨rfl,hB12.trans ((h16.trans (hb17.mono h16.size)).mono hB12.size)⟩
end Go.Proofs.YtjdhaacmlpegoaaGreatDoor
