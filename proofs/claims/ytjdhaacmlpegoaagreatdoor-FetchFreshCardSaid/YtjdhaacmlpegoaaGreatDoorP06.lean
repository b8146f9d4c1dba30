/- Part 6 of what the proof needs: LP LV UT B6 LX LS RA. -/
import Derived.Test.YtjdhaacmlpegoaaGreatDoorP05
import Derived.Test.YtjdhaacmlpegoaaGreatDoorP01
import Derived.Test.YtjdhaacmlpegoaaGreatDoorP04
import Derived.Deep.DeepCutAuto
import Derived.Deep.CutBlock
import Derived.KernelRfl
set_option maxRecDepth 20000
set_option maxHeartbeats 16000000
namespace Go.Proofs.YtjdhaacmlpegoaaGreatDoor
open Go.RowKit
set_option linter.unusedSimpArgs false
set_option linter.unusedVariables false
def Fixed (keep l:List UInt8):Prop:=conv keep true l=l
theorem conv_ge (keep:List UInt8)(codes:Bool)(l:List UInt8):l.length<=(conv keep codes l).length:=by
 induction l with
 | nil=>simp [conv]
 | cons c r ih=>unfold conv;split <;> simp [pct] <;> omega
theorem fixed_cases (keep:List UInt8)(c:UInt8)(r:List UInt8)(h:Fixed keep (c :: r)):
 (okC keep c=true/\Fixed keep r)\/(∃ a b t,c=37/\r=a :: b :: t/\codedL (37 :: a :: b :: t)=true/\Fixed keep t):=by
 unfold Fixed at h ⊢
 by_cases h1:okC keep c=true
 ·rw [conv_ok keep true c r h1] at h
  exact .inl ⟨h1,(List.cons.inj h).2⟩
 ·by_cases h2:codedL (c :: r)=true
  ·obtain ⟨a,b,t,rfl,rfl⟩:=coded_shape c r h2
   rw [conv_coded keep a b t h2] at h
   exact .inr ⟨a,b,t,rfl,rfl,h2,(List.cons.inj (List.cons.inj (List.cons.inj h).2).2).2⟩
  ·exfalso
   rw [conv,if_neg (by simp [h1,h2])] at h
   have:=congrArg List.length h
   have h3:=conv_ge keep true r
   simp [pct] at this
   omega
theorem fixed_ok (keep:List UInt8)(c:UInt8)(r:List UInt8)(h:okC keep c=true)(hr:Fixed keep r):Fixed keep (c :: r):=by
 unfold Fixed at *;rw [conv_ok keep true c r h,hr]
theorem fixed_coded (keep:List UInt8)(a b:UInt8)(r:List UInt8)(h:codedL (37 :: a :: b :: r)=true)(hr:Fixed keep r):Fixed keep (37 :: a :: b :: r):=by
 unfold Fixed at *;rw [conv_coded keep a b r h,hr]
theorem fixed_app (keep b:List UInt8)(hb:Fixed keep b):∀ n (a:List UInt8),a.length<=n->Fixed keep a->Fixed keep (a ++ b):=by
 intro n
 induction n with
 | zero=>intro a ha _;obtain rfl:=List.eq_nil_of_length_eq_zero (Nat.le_zero.1 ha);exact hb
 | succ n ih=>
   intro a ha h
   match a,ha,h with
   | [],_,_=>exact hb
   | c :: r, ha, h =>
     simp only [List.length_cons] at ha
     rcases fixed_cases keep c r h with ⟨h1,h2⟩ | ⟨x,y,t,rfl,rfl,h3,h4⟩
     ·exact fixed_ok keep c _ h1 (ih r (by omega) h2)
     ·exact fixed_coded keep x y _ h3 (ih t (by simp at ha;omega) h4)
theorem hex_not_slash (a:UInt8)(h:0<=hexB a):a≠47:=by rintro rfl;revert h;decide
theorem fixed_split (keep r:List UInt8)(hk:okC keep 47=true):∀ n (p:List UInt8),p.length<=n->Fixed keep (p ++ 47 :: r)->Fixed keep p/\Fixed keep r:=by
 intro n
 induction n with
 | zero=>
   intro p hp h
   obtain rfl:=List.eq_nil_of_length_eq_zero (Nat.le_zero.1 hp)
   rcases fixed_cases keep 47 r h with ⟨_,h2⟩ | ⟨_,_,_,e,_⟩
   ·exact ⟨rfl,h2⟩
   ·cases e
 | succ n ih=>
   intro p hp h
   match p,hp,h with
   | [],_,h=>
     rcases fixed_cases keep 47 r h with ⟨_,h2⟩ | ⟨_,_,_,e,_⟩
     ·exact ⟨rfl,h2⟩
     ·cases e
   | c :: q, hp, h =>
     simp only [List.length_cons] at hp
     rcases fixed_cases keep c (q ++ 47 :: r) h with ⟨h1,h2⟩ | ⟨x,y,t,rfl,e,h3,h4⟩
     ·obtain ⟨h5,h6⟩:=ih q (by omega) h2
      exact ⟨fixed_ok keep c q h1 h5,h6⟩
     ·have hx:=h3
      simp only [codedL,Bool.and_eq_true,decide_eq_true_eq] at hx
      match q,e,hp with
      | [],e,_=>exact absurd (List.cons.inj e).1.symm (hex_not_slash x hx.1.2)
      | [z],e,_=>exact absurd (List.cons.inj (List.cons.inj e).2).1.symm (hex_not_slash y hx.2)
      | z :: z2 :: q2, e, hp =>
        obtain ⟨rfl,e2⟩:=List.cons.inj e
        obtain ⟨rfl,rfl⟩:=List.cons.inj e2
        obtain ⟨h5,h6⟩:=ih q2 (by simp at hp;omega) h4
        exact ⟨fixed_coded keep _ _ q2 h3 h5,h6⟩
theorem segs_step (c:UInt8)(l:List UInt8)(h:c∈l):segs c l=pre c l :: segs c (post c l):=by
 have e:=pre_post c l h
 calc segs c l=segs c (pre c l ++ c :: post c l):=congrArg _ e
  _=_:=segs_pre c _ _ (pre_not c l)
theorem post_lt (c:UInt8)(l:List UInt8)(h:c∈l):(post c l).length<l.length:=by
 have:=congrArg List.length (pre_post c l h)
 simp at this;omega
theorem segs_all (P:List UInt8->Prop)(c:UInt8)(h1:∀ p r,c ∉ p->P (p ++ c :: r)->P p/\P r):∀ n (l:List UInt8),l.length<=n->P l->∀ x∈segs c l,P x/\c ∉ x:=by
 intro n
 induction n with
 | zero=>
   intro l hl hP x hx
   obtain rfl:=List.eq_nil_of_length_eq_zero (Nat.le_zero.1 hl)
   simp [segs] at hx;subst hx;exact ⟨hP,by simp⟩
 | succ n ih=>
   intro l hl hP x hx
   by_cases hc:c∈l
   ·rw [segs_step c l hc] at hx
    have e:=pre_post c l hc
    rw [e] at hP
    obtain ⟨p1,p2⟩:=h1 _ _ (pre_not c l) hP
    rcases List.mem_cons.1 hx with rfl | hx
    ·exact ⟨p1,pre_not c l⟩
    ·exact ih _ (by have:=post_lt c l hc;omega) p2 x hx
   ·rw [segs_one c l hc] at hx
    obtain rfl:x=l:=by simpa using hx
    exact ⟨hP,hc⟩
theorem fold_keep (l:List (List UInt8)):∀ (acc:List (List UInt8)) (x:List UInt8),x∈l.foldl kstep acc->x∈acc\/(x∈l/\isDot x=false):=by
 induction l with
 | nil=>intro acc x h;exact .inl h
 | cons p r ih=>
   intro acc x h
   rcases ih _ x h with h | h
   ·unfold kstep at h
    split at h
    ·exact .inl (List.dropLast_subset _ h)
    ·split at h
     ·exact .inl h
     ·next h1 h2=>
      rcases List.mem_append.1 h with h | h
      ·exact .inl h
      ·obtain rfl:x=p:=by simpa using h
       exact .inr ⟨List.mem_cons_self,by simp [isDot,h1,h2]⟩
   ·exact .inr ⟨List.mem_cons_of_mem _ h.1,h.2⟩
theorem kept_mem (l:List (List UInt8))(x:List UInt8)(h:x∈keptL l):x=[]\/(x∈l/\isDot x=false):=by
 unfold keptL kpt at h
 rcases List.mem_append.1 h with h | h
 ·rw [List.take_length] at h
  rcases fold_keep _ _ _ h with h | h
  ·cases h
  ·exact .inr h
 ·split at h
  ·exact .inl (by simpa using h)
  ·cases h
theorem tailE_mem (l:List (List UInt8))(x:List UInt8)(h:x∈tailE l):x∈l:=by
 unfold tailE at h
 split at h
 ·exact List.mem_of_mem_tail h
 ·exact h
theorem fold_same (l:List (List UInt8))(h:∀ x∈l,isDot x=false):∀ acc,l.foldl kstep acc=acc ++ l:=by
 induction l with
 | nil=>intro acc;simp
 | cons p r ih=>
   intro acc
   have hp:=h p List.mem_cons_self
   simp only [isDot,Bool.or_eq_false_iff,beq_eq_false_iff_ne] at hp
   rw [List.foldl_cons,ih (fun x hx=>h x (List.mem_cons_of_mem _ hx)),kstep,if_neg hp.2,if_neg hp.1];simp
theorem kept_same (l:List (List UInt8))(h:∀ x∈l,isDot x=false):keptL l=l:=by
 unfold keptL kpt
 rw [List.take_length,fold_same l h,if_neg,List.append_nil,List.nil_append]
 rintro ⟨_,h2⟩
 cases e:l.getLast? with
 | none=>rw [e] at h2;cases h2
 | some x=>
   rw [e] at h2
   have:=h x (List.mem_of_getLast? e)
   simp only [Option.map_some,Option.getD_some] at h2
   rw [this] at h2;cases h2
theorem segs_out (k:List (List UInt8))(h:∀ x∈k,(47:UInt8) ∉ x)(hk:k≠[]):segs 47 (outL k)=[] :: k:=by
 induction k with
 | nil=>exact absurd rfl hk
 | cons x r ih=>
   have e:outL (x :: r)=47 :: (x ++ outL r):=by simp [outL]
   have hx:=h x List.mem_cons_self
   have e2:segs 47 (47 :: (x ++ outL r))=[] :: segs 47 (x ++ outL r):=by rw [segs,if_pos (by rfl)]
   rw [e,e2]
   cases r with
   | nil=>rw [show outL []=[] from rfl,List.append_nil,segs_one 47 x hx]
   | cons y r=>
     have h2:=ih (fun z hz=>h z (List.mem_cons_of_mem _ hz)) (by simp)
     have e3:outL (y :: r)=47 :: (y ++ outL r):=by simp [outL]
     rw [e3] at h2 ⊢
     rw [segs_pre 47 _ x hx]
     rw [segs,if_pos (by rfl)] at h2
     rw [(List.cons.inj h2).2]
def keptP (l:List UInt8):List (List UInt8):=keptL (tailE (segs 47 l))
theorem keptP_mem (l:List UInt8)(x:List UInt8)(h:x∈keptP l):(47:UInt8) ∉ x/\isDot x=false/\(x=[]\/x∈segs 47 l):=by
 rcases kept_mem _ _ h with rfl | ⟨h1,h2⟩
 ·exact ⟨by simp,rfl,.inl rfl⟩
 ·have h3:=tailE_mem _ _ h1
  exact ⟨(segs_all (fun _=>True) 47 (fun _ _ _ _=>⟨trivial,trivial⟩) _ l lr trivial x h3).2,h2,.inr h3⟩
theorem cleanL_is (l:List UInt8):cleanL l=if keptP l=[] then [47] else outL (keptP l):=rfl
theorem clean_idem (l:List UInt8):cleanL (cleanL l)=cleanL l:=by
 rw [cleanL_is l]
 split
 ·rfl
 ·next h=>
  have h1:=segs_out (keptP l) (fun x hx=>(keptP_mem l x hx).1) h
  have h2:keptP (outL (keptP l))=keptP l:=by
   rw [keptP,h1,tailE,if_pos (show ([] :: keptP l).head? = some [] from rfl),List.tail_cons,kept_same _ (fun x hx=>(keptP_mem l x hx).2.1)]
  rw [cleanL_is,h2,if_neg h]
theorem clean_head (l:List UInt8):∃ r,cleanL l=47 :: r:=by
 rw [cleanL_is]
 split
 ·exact ⟨[],rfl⟩
 ·next h=>
  cases e:keptP l with
  | nil=>exact absurd e h
  | cons x r=>exact ⟨x ++ outL r,by simp [outL]⟩
theorem fixed_out (keep:List UInt8)(hk:okC keep 47=true)(k:List (List UInt8))(h:∀ x∈k,Fixed keep x):Fixed keep (outL k):=by
 induction k with
 | nil=>rfl
 | cons x r ih=>
   have e:outL (x :: r)=47 :: (x ++ outL r):=by simp [outL]
   rw [e]
   exact fixed_ok keep 47 _ hk (fixed_app keep _ (ih fun y hy=>h y (List.mem_cons_of_mem _ hy)) _ x lr (h x List.mem_cons_self))
theorem fixed_clean (keep:List UInt8)(hk:okC keep 47=true)(l:List UInt8)(h:Fixed keep l):Fixed keep (cleanL l):=by
 rw [cleanL_is]
 split
 ·exact fixed_ok keep 47 [] hk rfl
 ·refine fixed_out keep hk _ fun x hx=>?_
  rcases (keptP_mem l x hx).2.2 with rfl | h3
  ·rfl
  ·exact (segs_all (Fixed keep) 47 (fun p r _ hpr=>fixed_split keep r hk _ p lr hpr) _ l lr h x h3).1
theorem out_mem (k:List (List UInt8))(x:UInt8)(h:x∈outL k):x=47\/∃ p∈k,x∈p:=by
 induction k with
 | nil=>simp [outL] at h
 | cons p r ih=>
   have e:outL (p :: r)=47 :: (p ++ outL r):=by simp [outL]
   rw [e] at h
   rcases List.mem_cons.1 h with h | h
   ·exact .inl h
   ·rcases List.mem_append.1 h with h | h
    ·exact .inr ⟨p,List.mem_cons_self,h⟩
    ·rcases ih h with h | ⟨q,hq,h⟩
     ·exact .inl h
     ·exact .inr ⟨q,List.mem_cons_of_mem _ hq,h⟩
theorem segs_sub (c:UInt8):∀ n (l:List UInt8),l.length<=n->∀ p∈segs c l,∀ x∈p,x∈l:=by
 intro n
 induction n with
 | zero=>
   intro l hl p hp x hx
   obtain rfl:=List.eq_nil_of_length_eq_zero (Nat.le_zero.1 hl)
   simp [segs] at hp;subst hp;exact hx
 | succ n ih=>
   intro l hl p hp x hx
   by_cases hc:c∈l
   ·rw [segs_step c l hc] at hp
    have e:=pre_post c l hc
    rw [e]
    rcases List.mem_cons.1 hp with rfl | hp
    ·exact List.mem_append_left _ hx
    ·exact List.mem_append_right _ (List.mem_cons_of_mem _ (ih _ (by have:=post_lt c l hc;omega) p hp x hx))
   ·rw [segs_one c l hc] at hp
    obtain rfl:p=l:=by simpa using hp
    exact hx
theorem clean_mem (l:List UInt8)(x:UInt8)(h:x∈cleanL l):x=47\/x∈l:=by
 rw [cleanL_is] at h
 split at h
 ·exact .inl (by simpa using h)
 ·rcases out_mem _ _ h with h | ⟨p,hp,h⟩
  ·exact .inl h
  ·rcases (keptP_mem l p hp).2.2 with rfl | h3
   ·cases h
   ·exact .inr (segs_sub 47 _ l lr p h3 x h)
theorem takeW_stop (c:UInt8)(p r:List UInt8)(h:c ∉ p):pre c (p ++ c :: r)=p/\post c (p ++ c :: r)=r:=by
 induction p with
 | nil=>simp [pre,post]
 | cons b p ih=>
   have hb:(b != c)=true:=by simp only [bne_iff_ne];exact fun e=>h (by rw [e];exact List.mem_cons_self)
   obtain ⟨h1,h2⟩:=ih fun hm=>h (List.mem_cons_of_mem _ hm)
   unfold pre post at *
   rw [List.cons_append,List.takeWhile_cons,if_pos hb,List.dropWhile_cons,if_pos hb]
   exact ⟨by rw [h1],h2⟩
theorem okC_ne (more:List UInt8)(c:UInt8)(hc:okC more c=false)(l:List UInt8)(h:∀ x∈l,okC more x=true\/x=37)(h37:c≠37):c ∉ l:=fun hm=>by
 rcases h c hm with h | h
 ·rw [hc] at h;cases h
 ·exact h37 h
theorem lowB_low (b:UInt8):lowB (lowB b)=lowB b:=by
 unfold lowB
 split
 ·next h=>
  have:(b+32).toNat=b.toNat+32:=by rw [UInt8.toNat_add];have:=b.toNat_lt;simp;omega
  rw [if_neg (by omega)]
 ·rfl
theorem lowL_low (l:List UInt8):lowL (lowL l)=lowL l:=by
 unfold lowL;rw [List.map_map];congr 1;exact funext fun b=>lowB_low b
theorem zeros_zeros (l:List UInt8):zerosOff (zerosOff l)=zerosOff l:=by
 cases e:zerosOff l with
 | nil=>rfl
 | cons b r=>
   have:=zeros_head l b r e
   unfold zerosOff
   rw [List.dropWhile_cons,if_neg (by simpa using this)]
theorem zeros_len (l:List UInt8):(zerosOff l).length<=l.length:=(List.dropWhile_sublist _).length_le
theorem digit_ok (more:List UInt8)(x:UInt8)(h:digitB x=true):okC more x=true:=by unfold okC;simp [h]
theorem port_again (n d:List UInt8)(h:portOk d):portOk (portOf n d)/\portOf n (portOf n d)=portOf n d:=by
 obtain ⟨h1,h2,h3⟩:=h
 unfold portOf
 split
 ·refine ⟨⟨rfl,by simp,by decide⟩,?_⟩
  rw [if_neg (by rintro (⟨_,h⟩ | ⟨_,h⟩) <;> revert h <;> decide)];rfl
 ·next hn=>
  refine ⟨⟨zeros_all d h1,Nat.le_trans (zeros_len d) h2,by rw [numL_zeros];exact h3⟩,?_⟩
  rw [numL_zeros,if_neg hn,zeros_zeros]
structure Site (n h p path q f:List UInt8):Prop where
 sch:n=httpL\/n=httpsL
 hlow:lowL h=h
 hlen:1<=h.length/\h.length<=253
 hok:h.all (okC [45,46])=true
 pok:portOk p/\portOf n p=p
 clean:cleanL path=path
 pfix:conv innerL true path=path
 pmem:∀ x∈path,okC innerL x=true\/x=37
 qfix:conv (innerL ++ [63]) true q=q
 qmem:∀ x∈q,okC (innerL ++ [63]) x=true\/x=37
 ffix:conv (innerL ++ [63]) true f=f
 fmem:∀ x∈f,okC (innerL ++ [63]) x=true\/x=37
theorem site_of {n fr before:List UInt8}{u:U6}(hf:fr=conv (innerL ++ [63]) true fr)(hfm:∀ x∈fr,okC (innerL ++ [63]) x=true\/x=37)(h:siteL n fr before=some u):∃ a b c d,u=(n,a,b,c,d,fr)/\Site n a b c d fr:=by
 unfold siteL at h
 split at h
 ·next h1=>
  simp only at h
  split at h
  ·next h2=>
   obtain ⟨h3,h4,h5,h6⟩:=h2
   cases h
   have hk:okC innerL 47=true:=by decide
   refine ⟨_,_,_,_,rfl,⟨h1.1,lowL_low _,by rw [lowL_len];exact ⟨h4,h5⟩,by rw [lowL_ok [45,46] _ (by decide)];exact h6,port_again n _ h3,clean_idem _,?_,?_,conv_idem _ _,conv_mem _ _ _,hf.symm,hfm⟩⟩
   ·exact fixed_clean innerL hk _ (conv_idem innerL _)
   ·intro x hx
    rcases clean_mem _ x hx with rfl | hx
    ·exact .inl hk
    ·exact conv_mem _ _ _ x hx
  ·cases h
 ·cases h
theorem all_mem {more l:List UInt8}(h:l.all (okC more)=true):∀ x∈l,okC more x=true\/x=37:=fun x hx=>.inl (List.all_eq_true.1 h x hx)
theorem port_mem {p:List UInt8}(h:portOk p):∀ x∈p,okC [] x=true\/x=37:=fun x hx=>.inl (digit_ok [] x (List.all_eq_true.1 h.1 x hx))
theorem mem_tail (c:UInt8)(l:List UInt8)(x:UInt8)(h:x∈tailL c l):x=c\/x∈l:=by
 unfold tailL at h
 split at h
 ·cases h
 ·exact List.mem_cons.1 h
structure About (path f:List UInt8):Prop where
 pok:path.all (okC [45])=true
 ffix:conv (innerL ++ [63]) true f=f
 fmem:∀ x∈f,okC (innerL ++ [63]) x=true\/x=37
theorem parse_cases {s:List UInt8}{u:U6}(h:parseL s=some u):(∃ p f,u=(aboutL,[],[],p,[],f)/\About p f)\/(∃ n a b c d f,u=(n,a,b,c,d,f)/\Site n a b c d f):=by
 unfold parseL at h
 split at h
 ·unfold restL at h
  simp only at h
  split at h
  ·next ha=>
   split at h
   ·next hp=>
    cases h
    exact .inl ⟨_,_,by rw [ha],hp,conv_idem _ _,conv_mem _ _ _⟩
   ·cases h
  ·obtain ⟨a,b,c,d,h1,h2⟩:=site_of (conv_idem _ _).symm (conv_mem _ _ _) h
   exact .inr ⟨_,a,b,c,d,_,h1,h2⟩
 ·cases h
def eqU (u v:U6):Bool:=u.1 == v.1 && u.2.1 == v.2.1 && u.2.2.1 == v.2.2.1 && u.2.2.2.1 == v.2.2.2.1 && u.2.2.2.2.1 == v.2.2.2.2.1 && u.2.2.2.2.2 == v.2.2.2.2.2
theorem eqU_iff (u v:U6):eqU u v=true ↔ u=v:=by
 obtain ⟨a,b,c,d,e,f⟩:=u
 obtain ⟨a',b',c',d',e',f'⟩:=v
 simp only [eqU,Bool.and_eq_true,beq_iff_eq,Prod.mk.injEq]
 constructor
 ·rintro ⟨⟨⟨⟨⟨h1,h2⟩,h3⟩,h4⟩,h5⟩,h6⟩;exact ⟨h1,h2,h3,h4,h5,h6⟩
 ·rintro ⟨h1,h2,h3,h4,h5,h6⟩;exact ⟨⟨⟨⟨⟨h1,h2⟩,h3⟩,h4⟩,h5⟩,h6⟩
def validB (u:U6):Bool:=match parseL (formatL u) with
 | none=>false
 | some v=>eqU v u
theorem validB_is (u:U6):validB u=match parseL (formatL u) with
 | none=>false
 | some v=>eqU v u:=rfl
theorem valid_iff (u:U6):validB u=true ↔ parseL (formatL u)=some u:=by
 unfold validB
 cases parseL (formatL u) with
 | none=>simp
 | some v=>simp [eqU_iff]
theorem format_len (a b c d e f:ByteArray):(formatL (a.data.toList,b.data.toList,c.data.toList,d.data.toList,e.data.toList,f.data.toList)).length<=a.size+b.size+c.size+d.size+e.size+f.size+20:=by
 have h:=site_len a b c d e f
 have ht:∀ (x:UInt8) (s:ByteArray),(tailL x s.data.toList).length<=s.size+1:=fun x s=>by unfold tailL;split <;> simp
 have h1:=ht 63 e
 have h2:=ht 35 f
 unfold formatL
 rw [List.length_append]
 split
 ·next h0=>
  have h0':a.data.toList=aboutL:=h0
  have:a.size=5:=by rw [<-size_len,h0'];rfl
  simp only [List.length_append,List.length_cons,List.length_nil,size_len];omega
 ·simp only [List.length_append,size_len];omega
theorem valid_any (a b c d e f:ByteArray)(w:World)(ha:a.size<=40000)(hb:b.size<=40000)(hc:c.size<=40000)(hd:d.size<=40000)(he:e.size<=40000)(hf:f.size<=40000)(hM:MaxAt w):
 Calls Tryz.prog 49 #[.agg #[.string a,.string b,.string c,.string d,.string e,.string f]] w fun e' w'=>e' = .returned (.bool (validB (a.data.toList,b.data.toList,c.data.toList,d.data.toList,e.data.toList,f.data.toList)))/\Below w.heap.size w w':=by
 have cF:=fun w=>format_any a b c d e f w (by omega) (by omega) (by omega) (by omega) (by omega) (by omega)
 have hfl:=format_len a b c d e f
 obtain ⟨FL,hFL⟩:∃ FL,formatL (a.data.toList,b.data.toList,c.data.toList,d.data.toList,e.data.toList,f.data.toList)=FL:=⟨_,rfl⟩
 have hv:=validB_is (a.data.toList,b.data.toList,c.data.toList,d.data.toList,e.data.toList,f.data.toList)
 rw [hFL] at cF hfl hv
 have cP:∀ t:ByteArray,t.data.toList=FL->∀ w,MaxAt w->Calls Tryz.prog 28 #[.string t] w fun e' w'=>e' = .returned (resV (parseL FL))/\Below w.heap.size w w':=fun t ht w hM=>by
  have:=parse_any t w (by have:=size_of ht;omega) hM
  rwa [ht] at this
 have hB0:Below w.heap.size w (w.alloc (.cells #[.string a,.string b,.string c,.string d,.string e,.string f] 37)):=(Below.refl _ w).alloc lr _
 cases hR:parseL FL with
 | none=>
   rw [hR] at hv cP
   rw [hv]
   have cP2:∀ t:ByteArray,t.data.toList=FL->∀ w,MaxAt w->Calls Tryz.prog 28 #[.string t] w fun e' w'=>e' = .returned (.tuple #[.agg #[.string ⟨#[]⟩,.string ⟨#[]⟩,.string ⟨#[]⟩,.string ⟨#[]⟩,.string ⟨#[]⟩,.string ⟨#[]⟩],.int .i64 4])/\Below w.heap.size w w':=cP
   have CF:=Lib.hid cF
   have CP:=Lib.hid cP2
   clear cF cP cP2 hR hv hFL
   go_enter Tryz.func49,Tryz.ntmps49
   go_wp2_with (first
    | (go_at_call 104;with_reducible refine (CF.out _).mono ?_;rintro e' w1 ⟨t,rfl,ht,hb1⟩;have hB1:=hB0.trans (hb1.mono hB0.size);obtain ⟨hc1,hf1⟩:=bcell hb1;have hz1:w.heap.size<w1.heap.size:=(by have:=hb1.size;simp at this;omega);have Ht:=Lib.hid ht;clear ht)
    | (go_at_call 28;with_reducible refine (CP.out _ Ht.out _ (hM.below hB1 lr)).mono ?_;rintro e' w2 ⟨rfl,hb2⟩;have hB2:=hB1.trans (hb2.mono hB1.size);obtain ⟨hc2,hf2⟩:=bcell hb2;have hz2:w.heap.size<w2.heap.size:=(by have:=hb2.size;omega)))
   go_ret
   exact ⟨rfl,hB2.alloc hB2.size _⟩
 | some v=>
   rw [hR] at hv cP
   obtain ⟨p1,p2,p3,p4,p5,p6⟩:=v
   have hv2:validB (a.data.toList,b.data.toList,c.data.toList,d.data.toList,e.data.toList,f.data.toList)=eqU (p1,p2,p3,p4,p5,p6) (a.data.toList,b.data.toList,c.data.toList,d.data.toList,e.data.toList,f.data.toList):=hv
   rw [hv2]
   obtain ⟨r1,h1⟩:∃ r:ByteArray,⟨p1.toArray⟩=r:=⟨_,rfl⟩
   obtain ⟨r2,h2⟩:∃ r:ByteArray,⟨p2.toArray⟩=r:=⟨_,rfl⟩
   obtain ⟨r3,h3⟩:∃ r:ByteArray,⟨p3.toArray⟩=r:=⟨_,rfl⟩
   obtain ⟨r4,h4⟩:∃ r:ByteArray,⟨p4.toArray⟩=r:=⟨_,rfl⟩
   obtain ⟨r5,h5⟩:∃ r:ByteArray,⟨p5.toArray⟩=r:=⟨_,rfl⟩
   obtain ⟨r6,h6⟩:∃ r:ByteArray,⟨p6.toArray⟩=r:=⟨_,rfl⟩
   have cP2:∀ t:ByteArray,t.data.toList=FL->∀ w,MaxAt w->Calls Tryz.prog 28 #[.string t] w fun e' w'=>e' = .returned (.tuple #[.agg #[.string r1,.string r2,.string r3,.string r4,.string r5,.string r6],.int .i64 0])/\Below w.heap.size w w':=by
    rw [<-h1,<-h2,<-h3,<-h4,<-h5,<-h6];exact cP
   have e1:eqU (p1,p2,p3,p4,p5,p6) (a.data.toList,b.data.toList,c.data.toList,d.data.toList,e.data.toList,f.data.toList)=((r1.toList == a.toList) && (r2.toList == b.toList) && (r3.toList == c.toList) && (r4.toList == d.toList) && (r5.toList == e.toList) && (r6.toList == f.toList)):=by
    rw [<-h1,<-h2,<-h3,<-h4,<-h5,<-h6]
    simp only [ByteArray.toList_eq,eqU]
   obtain ⟨B,hB⟩:∃ B,eqU (p1,p2,p3,p4,p5,p6) (a.data.toList,b.data.toList,c.data.toList,d.data.toList,e.data.toList,f.data.toList)=B:=⟨_,rfl⟩
   rw [hB] at e1 ⊢
   have E1:=Lib.hid e1
   have CF:=Lib.hid cF
   have CP:=Lib.hid cP2
   clear cF cP cP2 hR hv hv2 hFL e1 h1 h2 h3 h4 h5 h6 hB
   go_enter Tryz.func49,Tryz.ntmps49
   go_wp2_with (first
    | (go_at_call 104;with_reducible refine (CF.out _).mono ?_;rintro e' w1 ⟨t,rfl,ht,hb1⟩;have hB1:=hB0.trans (hb1.mono hB0.size);obtain ⟨hc1,hf1⟩:=bcell hb1;have hz1:w.heap.size<w1.heap.size:=(by have:=hb1.size;simp at this;omega);have Ht:=Lib.hid ht;clear ht)
    | (go_at_call 28;with_reducible refine (CP.out _ Ht.out _ (hM.below hB1 lr)).mono ?_;rintro e' w2 ⟨rfl,hb2⟩;have hB2:=hB1.trans (hb2.mono hB1.size);obtain ⟨hc2,hf2⟩:=bcell hb2;have hz2:w.heap.size<w2.heap.size:=(by have:=hb2.size;omega)))
   all_goals
    go_ret
    exact ⟨ret_bool (by rw [E1.out];simp [*]),hB2.alloc hB2.size _⟩
def At6 (W:World)(k:Nat)(a b c d e f:Value):Prop:=
 k<W.heap.size/\W.cell? ⟨k,0,none⟩=some a/\W.cell? ⟨k,1,none⟩=some b/\W.cell? ⟨k,2,none⟩=some c/\W.cell? ⟨k,3,none⟩=some d/\W.cell? ⟨k,4,none⟩=some e/\W.cell? ⟨k,5,none⟩=some f
 /\ W.frozen? ⟨k,0,none⟩=false/\W.frozen? ⟨k,1,none⟩=false/\W.frozen? ⟨k,2,none⟩=false/\W.frozen? ⟨k,3,none⟩=false/\W.frozen? ⟨k,4,none⟩=false/\W.frozen? ⟨k,5,none⟩=false
theorem At6.below {W W':World}{k n:Nat}{a b c d e f:Value}(h:At6 W k a b c d e f)(hb:Below n W W')(hk:k<n):At6 W' k a b c d e f:=by
 obtain ⟨h0,c0,c1,c2,c3,c4,c5,f0,f1,f2,f3,f4,f5⟩:=h
 have hc:∀ j,W'.cell? ⟨k,j,none⟩=W.cell? ⟨k,j,none⟩:=fun j=>hb.cell (p:=⟨k,j,none⟩) hk
 have hf:∀ j,W'.frozen? ⟨k,j,none⟩=W.frozen? ⟨k,j,none⟩:=fun j=>hb.frozen (p:=⟨k,j,none⟩) hk
 exact ⟨Nat.lt_of_lt_of_le h0 hb.size,(hc 0).trans c0,(hc 1).trans c1,(hc 2).trans c2,(hc 3).trans c3,(hc 4).trans c4,(hc 5).trans c5,(hf 0).trans f0,(hf 1).trans f1,(hf 2).trans f2,(hf 3).trans f3,(hf 4).trans f4,(hf 5).trans f5⟩
theorem At6.new (w:World)(a b c d e f:Value)(T:Nat):At6 (w.alloc (.cells #[a,b,c,d,e,f] T)) w.heap.size a b c d e f:=by
 have hc:∀ j v,[a,b,c,d,e,f][j]? = some v->(w.alloc (.cells #[a,b,c,d,e,f] T)).cell? ⟨w.heap.size,j,none⟩=some v:=fun j v hj=>by
  have:=cells_new w [a,b,c,d,e,f] T j v hj
  have hadd:(⟨w.heap.size,0,none⟩:Addr).add j=⟨w.heap.size,j,none⟩:=by unfold Addr.add;split <;> simp_all
  rw [hadd] at this
  exact this
 have hh:(w.alloc (.cells #[a,b,c,d,e,f] T)).heap[w.heap.size]? = some (.cells #[a,b,c,d,e,f] T):=by unfold World.alloc;simp
 have hf:∀ j,(w.alloc (.cells #[a,b,c,d,e,f] T)).frozen? ⟨w.heap.size,j,none⟩=false:=fun j=>by
  unfold World.frozen?
  rw [hh]
  simp
 exact ⟨by simp,hc 0 _ rfl,hc 1 _ rfl,hc 2 _ rfl,hc 3 _ rfl,hc 4 _ rfl,hc 5 _ rfl,hf 0,hf 1,hf 2,hf 3,hf 4,hf 5⟩
theorem At6.blank {W:World}{k:Nat}{a b c d e f:Value}(h:At6 W k a b c d e f):Blank W k:=by
 obtain ⟨h0,c0,c1,c2,c3,c4,c5,-⟩:=h
 intro j hj
 match j,hj with
 | 0,_=>rw [c0];rfl
 | 1,_=>rw [c1];rfl
 | 2,_=>rw [c2];rfl
 | 3,_=>rw [c3];rfl
 | 4,_=>rw [c4];rfl
 | 5,_=>rw [c5];rfl
theorem At6.alloc {W:World}{k:Nat}{a b c d e f:Value}(h:At6 W k a b c d e f)(o:Obj):At6 (W.alloc o) k a b c d e f:=h.below ((Below.refl _ W).alloc lr o) h.1
def resB (o:Option U6):Value:=.tuple #[urlV (o.getD noneU),.bool o.isSome]
end Go.Proofs.YtjdhaacmlpegoaaGreatDoor
namespace Go.Proofs.YtjdhaacmlpegoaaGreatDoor
set_option linter.unusedVariables false
set_option linter.unusedSimpArgs false
open Go.RowKit
def originL (u:U6)(v:Bool):List UInt8:=if v=true/\u.1≠aboutL then placeL u else [110,117,108,108]
end Go.Proofs.YtjdhaacmlpegoaaGreatDoor
namespace Go.Proofs.YtjdhaacmlpegoaaGreatDoor
set_option linter.unusedVariables false
set_option linter.unusedSimpArgs false
open Go.RowKit
theorem outL_app (a b:List (List UInt8)):outL (a ++ b)=outL a ++ outL b:=by simp [outL]
theorem outL_cons (p:List UInt8)(r:List (List UInt8)):(outL (p :: r)).length=p.length+1+(outL r).length:=by simp [outL];omega
theorem outL_drop (acc:List (List UInt8)):(outL acc.dropLast).length<=(outL acc).length:=by
 rcases List.eq_nil_or_concat acc with rfl | ⟨l,x,rfl⟩
 ·simp
 ·rw [List.concat_eq_append,List.dropLast_concat,outL_app,List.length_append];omega
theorem kstep_w (acc:List (List UInt8))(p:List UInt8):(outL (kstep acc p)).length<=(outL acc).length+(p.length+1):=by
 unfold kstep
 split
 ·have:=outL_drop acc;omega
 ·split
  ·omega
  ·rw [outL_app,List.length_append,outL_cons];simp [outL]
theorem fold_w (l:List (List UInt8)):∀ acc:List (List UInt8),(outL (l.foldl kstep acc)).length<=(outL acc).length+(outL l).length:=by
 induction l with
 | nil=>intro acc;simp
 | cons p r ih=>
   intro acc
   rw [List.foldl_cons,outL_cons]
   have:=ih (kstep acc p)
   have:=kstep_w acc p
   omega
theorem segs_w (c:UInt8)(l:List UInt8):(outL (segs c l)).length=l.length+1:=by
 induction l with
 | nil=>simp [segs,outL]
 | cons b l ih=>
   unfold segs
   split
   ·rw [outL_cons,ih];simp;omega
   ·have hne:=segs_ne c l
    cases e:segs c l with
    | nil=>exact absurd e hne
    | cons p r=>
      rw [e,outL_cons] at ih
      simp only [outL_cons,List.length_cons]
      omega
theorem tail_w (l:List (List UInt8)):(outL (tailE l)).length<=(outL l).length:=by
 unfold tailE
 split
 ·cases l with
  | nil=>simp
  | cons p r=>rw [List.tail_cons,outL_cons];omega
 ·exact lr
theorem clean_le (l:List UInt8):(cleanL l).length<=l.length+2:=by
 unfold cleanL
 split
 ·simp
 ·have h1:=segs_w 47 l
  have h2:=tail_w (segs 47 l)
  unfold keptL kpt
  rw [List.take_length,outL_app,List.length_append]
  have h3:=fold_w (tailE (segs 47 l)) []
  have h4:(outL []).length=0:=rfl
  have h5:∀ b:Prop,[Decidable b]->(outL (if b then [[]] else [])).length<=1:=fun b _=>by split <;> simp [outL]
  have h6:=h5 ((tailE (segs 47 l)).length=(tailE (segs 47 l)).length/\((tailE (segs 47 l)).getLast?.map isDot).getD false=true)
  omega
def Fits (n:Nat)(u:U6):Prop:=u.1.length<=n/\u.2.1.length<=n/\u.2.2.1.length<=n/\u.2.2.2.1.length<=n/\u.2.2.2.2.1.length<=n/\u.2.2.2.2.2.length<=n
theorem parse_len (s:List UInt8)(u:U6)(h:parseL s=some u):Fits (3 * s.length+2) u:=by
 unfold parseL at h
 split at h
 ·have ht:=trimL_len s
  have h1:=pre_le 58 (trimL s)
  have h2:=post_le 58 (trimL s)
  have h3:=lowL_len (pre 58 (trimL s))
  revert h
  generalize lowL (pre 58 (trimL s))=n at h3 ⊢
  generalize post 58 (trimL s)=r at h2 ⊢
  intro h
  unfold restL at h
  have h4:=pre_le 35 r
  have h5:=post_le 35 r
  have h6:=conv_len (innerL ++ [63]) true (post 35 r)
  revert h
  generalize conv (innerL ++ [63]) true (post 35 r)=fr at h6 ⊢
  generalize pre 35 r=b at h4 ⊢
  intro h
  simp only at h
  split at h
  ·split at h
   ·cases h
    refine ⟨?_,?_,?_,?_,?_,?_⟩ <;> simp only [List.length_nil] <;> omega
   ·cases h
  ·unfold siteL at h
   split at h
   ·simp only at h
    split at h
    ·next h7=>
     cases h
     have a1:=pre_le 63 (b.drop 2)
     have a2:=post_le 63 (b.drop 2)
     have a3:(b.drop 2).length<=b.length:=by simp
     have a4:=conv_len (innerL ++ [63]) true (post 63 (b.drop 2))
     have a5:=clean_le (conv innerL true ((pre 63 (b.drop 2)).drop (pre 47 (pre 63 (b.drop 2))).length))
     have a6:=conv_len innerL true ((pre 63 (b.drop 2)).drop (pre 47 (pre 63 (b.drop 2))).length)
     have a7:((pre 63 (b.drop 2)).drop (pre 47 (pre 63 (b.drop 2))).length).length<=(pre 63 (b.drop 2)).length:=by simp
     have a8:=pre_le 47 (pre 63 (b.drop 2))
     have a9:=pre_le 58 (pre 47 (pre 63 (b.drop 2)))
     have b1:=lowL_len (pre 58 (pre 47 (pre 63 (b.drop 2))))
     have b2:(portOf n (post 58 (pre 47 (pre 63 (b.drop 2))))).length<=(post 58 (pre 47 (pre 63 (b.drop 2)))).length:=by
      unfold portOf
      split
      ·simp
      ·exact zeros_len _
     have b3:=post_le 58 (pre 47 (pre 63 (b.drop 2)))
     refine ⟨?_,?_,?_,?_,?_,?_⟩ <;> simp only <;> omega
    ·cases h
   ·cases h
 ·cases h
end Go.Proofs.YtjdhaacmlpegoaaGreatDoor
namespace Go.Proofs.YtjdhaacmlpegoaaGreatDoor
set_option linter.unusedVariables false
set_option linter.unusedSimpArgs false
open Go.RowKit
theorem origin_any (a b c d e f:ByteArray)(w:World)(ha:a.size<=40000)(hb:b.size<=40000)(hc:c.size<=40000)(hd:d.size<=40000)(he:e.size<=40000)(hf:f.size<=40000)(hM:MaxAt w):
 Calls Tryz.prog 29 #[.agg #[.string a,.string b,.string c,.string d,.string e,.string f]] w fun e' w'=>∃ t:ByteArray,e' = .returned (.string t)/\t.data.toList=originL (a.data.toList,b.data.toList,c.data.toList,d.data.toList,e.data.toList,f.data.toList) (validB (a.data.toList,b.data.toList,c.data.toList,d.data.toList,e.data.toList,f.data.toList))/\Below w.heap.size w w':=by
 have cV:=fun w hM=>valid_any a b c d e f w ha hb hc hd he hf hM
 have cP:=fun w=>site_any a b c d e f w (by omega) (by omega) (by omega)
 obtain ⟨B,hB⟩:∃ B,validB (a.data.toList,b.data.toList,c.data.toList,d.data.toList,e.data.toList,f.data.toList)=B:=⟨_,rfl⟩
 obtain ⟨PL,hPL⟩:∃ PL,placeL (a.data.toList,b.data.toList,c.data.toList,d.data.toList,e.data.toList,f.data.toList)=PL:=⟨_,rfl⟩
 have hR:originL (a.data.toList,b.data.toList,c.data.toList,d.data.toList,e.data.toList,f.data.toList) B=if B=true/\a.data.toList≠aboutL then PL else [110,117,108,108]:=by rw [originL,hPL]
 rw [hB] at cV ⊢
 rw [hPL] at cP
 obtain ⟨R,hRR⟩:∃ R,originL (a.data.toList,b.data.toList,c.data.toList,d.data.toList,e.data.toList,f.data.toList) B=R:=⟨_,rfl⟩
 rw [hRR] at hR ⊢
 have hB0:Below w.heap.size w (w.alloc (.cells #[.string a,.string b,.string c,.string d,.string e,.string f] 37)):=(Below.refl _ w).alloc lr _
 have n1:(a.toList == [97,98,111,117,116])=decide (a.data.toList=aboutL):=str_beq _ _
 obtain ⟨X,hX⟩:∃ X,decide (a.data.toList=aboutL)=X:=⟨_,rfl⟩
 have hR2:R=if B=true/\X=false then PL else [110,117,108,108]:=by rw [hR,<-hX];simp
 rw [hX] at n1
 have HR:=Lib.hid hR2
 have CV:=Lib.hid cV
 have CP:=Lib.hid cP
 clear cV cP hB hPL hR hRR hX hR2
 cases B <;> cases X
 all_goals
  go_enter Tryz.func29,Tryz.ntmps29
  go_wp2_with (first
   | (go_at_call 49;with_reducible refine (CV.out _ (hM.below hB0 lr)).mono ?_;rintro e' w1 ⟨rfl,hb1⟩;have hB1:=hB0.trans (hb1.mono hB0.size);obtain ⟨hc1,hf1⟩:=bcell hb1;have hz1:w.heap.size<w1.heap.size:=(by have:=hb1.size;simp at this;omega))
   | (go_at_call 68;with_reducible refine (CP.out _).mono ?_;rintro e' w2 ⟨t,rfl,ht,hb2⟩;have hB2:=hB1.trans (hb2.mono hB1.size);have Ht:=Lib.hid ht;clear ht))
  go_ret
  first
   | exact ⟨_,rfl,by rw [HR.out];rfl,hB1⟩
   | exact ⟨t,rfl,by rw [HR.out,Ht.out];rfl,hB2⟩
end Go.Proofs.YtjdhaacmlpegoaaGreatDoor
namespace Go.Proofs.YtjdhaacmlpegoaaGreatDoor
set_option linter.unusedVariables false
set_option linter.unusedSimpArgs false
open Go.RowKit
end Go.Proofs.YtjdhaacmlpegoaaGreatDoor
namespace Go.Proofs.YtjdhaacmlpegoaaGreatDoor
set_option linter.unusedVariables false
set_option linter.unusedSimpArgs false
open Go.RowKit
abbrev aggU (a b c d e f:ByteArray):Value:=.agg #[.string a,.string b,.string c,.string d,.string e,.string f]
theorem without_any (a b c d e f:ByteArray)(w:World):
 Calls Tryz.prog 124 #[.agg #[.string a,.string b,.string c,.string d,.string e,.string f]] w fun x w'=>x = .returned (.agg #[.string a,.string b,.string c,.string d,.string e,.string ⟨#[]⟩])/\Below w.heap.size w w':=by
 go_enter Tryz.func124,Tryz.ntmps124
 go_wp2_with fail
 refine bodyPost_ret (v:=aggU a b c d e ⟨#[]⟩) (by simp [results,Tryz.results124,go_sem]) rfl ⟨rfl,?_⟩
 exact ((Below.refl _ w).alloc lr _).alloc (by simp) _
theorem byteArray_ext {a b:ByteArray}(h:a.data.toList=b.data.toList):a=b:=by
 cases a;cases b;congr 1;exact Array.toList_inj.1 h
theorem drew_below {w w':World}(h:Below w.drew.heap.size w.drew w'):Below w.heap.size w w':=(Below.refl _ w).drew.trans (h.mono (by simp))
end Go.Proofs.YtjdhaacmlpegoaaGreatDoor
namespace Go.Proofs.YtjdhaacmlpegoaaGreatDoor
set_option linter.unusedVariables false
set_option linter.unusedSimpArgs false
open Go.RowKit
def orgL (u:U6):List UInt8:=originL u (validB u)
theorem origin_is (a b c d e f T:ByteArray)(w:World)(ha:a.size<=40000)(hb:b.size<=40000)(hc:c.size<=40000)(hd:d.size<=40000)(he:e.size<=40000)(hf:f.size<=40000)(hM:MaxAt w)(hT:T.data.toList=orgL (a.data.toList,b.data.toList,c.data.toList,d.data.toList,e.data.toList,f.data.toList)):
 Calls Tryz.prog 29 #[.agg #[.string a,.string b,.string c,.string d,.string e,.string f]] w fun x w'=>x = .returned (.string T)/\Below w.heap.size w w':=by
 refine (origin_any a b c d e f w ha hb hc hd he hf hM).mono ?_
 rintro x w' ⟨u,rfl,hu,hb⟩
 exact ⟨by rw [byteArray_ext (hu.trans hT.symm)],hb⟩
end Go.Proofs.YtjdhaacmlpegoaaGreatDoor
namespace Go.Proofs.YtjdhaacmlpegoaaGreatDoor
open Go.RowKit
set_option linter.unusedSimpArgs false
set_option linter.unusedVariables false
theorem parse_none (t:ByteArray)(w:World)(hs:t.size<=300000)(hM:MaxAt w)(h:parseL t.data.toList=none):
 Calls Tryz.prog 28 #[.string t] w fun x w'=>x = .returned (.tuple #[.agg #[.string ⟨#[]⟩,.string ⟨#[]⟩,.string ⟨#[]⟩,.string ⟨#[]⟩,.string ⟨#[]⟩,.string ⟨#[]⟩],.int .i64 4])/\Below w.heap.size w w':=by
 have:=parse_any t w hs hM
 rw [h] at this
 exact this
theorem parse_some (t:ByteArray)(w:World)(hs:t.size<=300000)(hM:MaxAt w)(a b c d e f:ByteArray)(h:parseL t.data.toList=some (a.data.toList,b.data.toList,c.data.toList,d.data.toList,e.data.toList,f.data.toList)):
 Calls Tryz.prog 28 #[.string t] w fun x w'=>x = .returned (.tuple #[.agg #[.string a,.string b,.string c,.string d,.string e,.string f],.int .i64 0])/\Below w.heap.size w w':=by
 have:=parse_any t w hs hM
 rw [h] at this
 exact this
theorem list_bytes (l:List UInt8):∃ t:ByteArray,t.data.toList=l:=⟨⟨l.toArray⟩,rfl⟩
theorem valid_is (a b c d e f:ByteArray)(w:World)(ha:a.size<=40000)(hb:b.size<=40000)(hc:c.size<=40000)(hd:d.size<=40000)(he:e.size<=40000)(hf:f.size<=40000)(hM:MaxAt w)(B:Bool)(hB:validB (a.data.toList,b.data.toList,c.data.toList,d.data.toList,e.data.toList,f.data.toList)=B):
 Calls Tryz.prog 49 #[.agg #[.string a,.string b,.string c,.string d,.string e,.string f]] w fun x w'=>x = .returned (.bool B)/\Below w.heap.size w w':=by
 rw [<-hB];exact valid_any a b c d e f w ha hb hc hd he hf hM
theorem brule {B:Nat}{w0 w1:World}(hb:Below B w0 w1):∀ b o,b<B->w1.cell? ⟨b,o,none⟩=w0.cell? ⟨b,o,none⟩:=fun b o h=>hb.cell (p:=⟨b,o,none⟩) h
def dirN (l:List UInt8):Nat->Nat
 | 0=>0
 | k+1=>if l[k]? = some 47 then k+1 else dirN l k
theorem dirN_le (l:List UInt8):∀ k,dirN l k<=k
 | 0=>lr
 | k+1=>by
   unfold dirN
   have:=dirN_le l k
   split <;> omega
def resolveL (u:U6)(v:Bool)(t:List UInt8):Option U6:=
 if schemeOk t=true then parseL t
 else if v=false then none
 else if t=[] then some (u.1,u.2.1,u.2.2.1,u.2.2.2.1,u.2.2.2.2.1,[])
 else if t.head? = some 35 then some (u.1,u.2.1,u.2.2.1,u.2.2.2.1,u.2.2.2.2.1,conv (innerL ++ [63]) true t.tail)
 else if u.1=aboutL then none
 else if t.take 2=[47,47] then parseL (u.1 ++ 58 :: t)
 else if t.head? = some 47 then parseL (placeL u ++ t)
 else if t.head? = some 63 then parseL (placeL u ++ u.2.2.2.1 ++ t)
 else parseL (placeL u ++ u.2.2.2.1.take (dirN u.2.2.2.1 u.2.2.2.1.length) ++ t)
theorem getb (s:ByteArray)(k:Nat)(h:k<s.size):s.data.toList[k]? = some s[k]:=by
 rw [List.getElem?_eq_getElem (by rw [size_len];exact h)];rfl
theorem lastIdx_dir (s:ByteArray):∀ k,k<=s.size->Lib.lastIdx s 47 k+1=(dirN s.data.toList k:Int)
 | 0,_=>rfl
 | k+1,hk=>by
   have ih:=lastIdx_dir s k (by omega)
   have hg:s.data[k]! = s[k]:=by
    rw [getElem!_pos s.data k (show k+1<=s.size from hk)];rfl
   unfold Lib.lastIdx dirN
   rw [hg,getb s k (by omega)]
   by_cases h:s[k]=47
   ·rw [if_pos (by rw [h];rfl),if_pos (by rw [h])];omega
   ·rw [if_neg (fun e=>h (UInt8.toNat_inj.1 (by rw [show (47:UInt8).toNat=47 from rfl];omega))),if_neg (fun e=>h (Option.some.inj e)),ih]
theorem res_at {fn:Func}{i j:Nat}(hr:fn.results = #[.cell i 37,.tmp j])(tmps:Array Value)(w:World)(k:Nat)(a b c d e f x:Value)(h2:tmps.getD i undef = .pointer (some ⟨k,0,none⟩))(h3:tmps.getD j undef=x)
 (h:w.cell? ⟨k,0,none⟩=some a/\w.cell? ⟨k,1,none⟩=some b/\w.cell? ⟨k,2,none⟩=some c/\w.cell? ⟨k,3,none⟩=some d/\w.cell? ⟨k,4,none⟩=some e/\w.cell? ⟨k,5,none⟩=some f) :
 (results fn tmps).run Tryz.prog w = .ok (.tuple #[.agg #[a,b,c,d,e,f],x]) w:=by
 obtain ⟨c0,c1,c2,c3,c4,c5⟩:=h
 rw [Array.getD_eq_getD_getElem?] at h2 h3
 simp [results,hr,h2,h3,go_sem,c0,c1,c2,c3,c4,c5]
theorem url_at {fn:Func}{i j:Nat}(hr:fn.results = #[.cell i 37,.tmp j])(tmps:Array Value)(W:World)(k:Nat)(hW:Blank W k)(a b c d e f x:Value)(h2:tmps.getD i undef = .pointer (some ⟨k,0,none⟩))(h3:tmps.getD j undef=x):
 (results fn tmps).run Tryz.prog (set6 W k a b c d e f) = .ok (.tuple #[.agg #[a,b,c,d,e,f],x]) (set6 W k a b c d e f):=res_at hr tmps _ k a b c d e f x h2 h3 (set6_at hW a b c d e f)
theorem below_set6 {B M:Nat}{w w':World}(h:Below B w w')(hM:B<=M)(a b c d e f:Value):Below B w (set6 w' M a b c d e f):=
 (((((h.setCell hM _).setCell hM _).setCell hM _).setCell hM _).setCell hM _).setCell hM _
theorem frule {B:Nat}{w0 w1:World}(hb:Below B w0 w1):∀ b o,b<B->w1.frozen? ⟨b,o,none⟩=w0.frozen? ⟨b,o,none⟩:=fun b o h=>hb.frozen (p:=⟨b,o,none⟩) h
theorem parse_known (X:ByteArray)(hs:X.size<=300000):∃ (r1 r2 r3 r4 r5 r6:ByteArray) (B:Bool),resV (parseL X.data.toList) = .tuple #[.agg #[.string r1,.string r2,.string r3,.string r4,.string r5,.string r6],.int .i64 (if B then 0 else 4)]/\resB (parseL X.data.toList) = .tuple #[.agg #[.string r1,.string r2,.string r3,.string r4,.string r5,.string r6],.bool B]
 /\ (∀ w,MaxAt w->Calls Tryz.prog 28 #[.string X] w fun x w'=>x = .returned (.tuple #[.agg #[.string r1,.string r2,.string r3,.string r4,.string r5,.string r6],.int .i64 (if B then 0 else 4)])/\Below w.heap.size w w')
 /\ True:=by
 obtain ⟨a,b,c,d,e,f,h⟩:∃ a b c d e f:ByteArray,(parseL X.data.toList).getD noneU=(a.data.toList,b.data.toList,c.data.toList,d.data.toList,e.data.toList,f.data.toList):=by
  obtain ⟨a,b,c,d,e,f⟩:=(parseL X.data.toList).getD noneU
  exact ⟨⟨a.toArray⟩,⟨b.toArray⟩,⟨c.toArray⟩,⟨d.toArray⟩,⟨e.toArray⟩,⟨f.toArray⟩,rfl⟩
 have h1:resV (parseL X.data.toList) = .tuple #[.agg #[.string a,.string b,.string c,.string d,.string e,.string f],.int .i64 (if (parseL X.data.toList).isSome then 0 else 4)]:=by rw [resV,h];rfl
 have h2:resB (parseL X.data.toList) = .tuple #[.agg #[.string a,.string b,.string c,.string d,.string e,.string f],.bool (parseL X.data.toList).isSome]:=by rw [resB,h];rfl
 refine ⟨a,b,c,d,e,f,(parseL X.data.toList).isSome,h1,h2,fun w hM=>?_,trivial⟩
 ·rw [<-h1];exact parse_any X w hs hM
theorem trim_is (s T:ByteArray)(w:World)(hs:s.size<=1000000)(hT:T.data.toList=trimL s.data.toList):Calls Tryz.prog 59 #[.string s] w fun x w'=>x = .returned (.string T)/\w=w':=by
 refine (trim_any s w hs).mono ?_
 rintro x w' ⟨u,rfl,hu,hb⟩
 exact ⟨by rw [byteArray_ext (hu.trans hT.symm)],hb⟩
theorem site_is (a b c d e f t:ByteArray)(w:World)(ha:a.size<=1000000)(hb:b.size<=1000000)(hc:c.size<=1000000)(ht:t.data.toList=placeL (a.data.toList,b.data.toList,c.data.toList,d.data.toList,e.data.toList,f.data.toList)):
 Calls Tryz.prog 68 #[.agg #[.string a,.string b,.string c,.string d,.string e,.string f]] w fun x w'=>x = .returned (.string t)/\Below w.heap.size w w':=by
 refine (site_any a b c d e f w ha hb hc).mono ?_
 rintro x w' ⟨u,rfl,hu,hb⟩
 exact ⟨by rw [byteArray_ext (hu.trans ht.symm)],hb⟩
structure Pre (a b c d e f s T:ByteArray):Prop where
 ha:a.size<=40000
 hb:b.size<=40000
 hc:c.size<=40000
 hd:d.size<=40000
 he:e.size<=40000
 hf:f.size<=40000
 hs:s.size<=40000
 hT:T.data.toList=trimL s.data.toList
theorem Pre.size {a b c d e f s T:ByteArray}(h:Pre a b c d e f s T):T.size<=40000:=by
 have:=trimL_len s.data.toList
 rw [size_of h.hT];rw [size_len] at this;have:=h.hs;omega
theorem scheme_is (T:ByteArray)(B:Bool)(w:World)(hs:T.size<=1000000)(hM:MaxAt w)(h:schemeOk T.data.toList=B):Calls Tryz.prog 58 #[.string T] w fun x w'=>∃ a b:ByteArray,x = .returned (.tuple #[.string a,.string b,.bool B])/\Below w.heap.size w w':=by
 refine (scheme_any T w hs hM).mono ?_
 rintro x w' ⟨p,q,rfl,-,hb⟩
 exact ⟨p,q,by rw [h],hb⟩
abbrev ResV (a b c d e f s:ByteArray)(w:World)(o:Option U6):Prop:=Calls Tryz.prog 189 #[.agg #[.string a,.string b,.string c,.string d,.string e,.string f],.string s] w fun x w'=>x = .returned (resV o)/\Below w.heap.size w w'
theorem resolve1 (a b c d e f s T:ByteArray)(w:World)(hM:MaxAt w)(h:Pre a b c d e f s T)(h1:schemeOk T.data.toList=true):
 ResV a b c d e f s w (parseL T.data.toList):=by
 have hTs:=h.size
 have CT:=Lib.hid (fun w=>trim_is s T w (by have:=h.hs;omega) h.hT)
 have CS:=Lib.hid (fun w hM=>scheme_is T true w (by omega) hM h1)
 obtain ⟨r1,r2,r3,r4,r5,r6,X,e1,-,cP,-⟩:=parse_known T (by omega)
 unfold ResV
 rw [e1]
 have CP:=Lib.hid cP
 clear e1 cP h h1
 cases X
 all_goals
  go_enter Tryz.func189,Tryz.ntmps189
  go_wp2_with fail
  have A0:=At6.new w (.string a) (.string b) (.string c) (.string d) (.string e) (.string f) 37
  have hB0:Below w.heap.size w (w.alloc (.cells #[.string a,.string b,.string c,.string d,.string e,.string f] 37)):=(Below.refl _ w).alloc lr _
  have A1:=A0.alloc (.cells #[.string ⟨#[]⟩,.string ⟨#[]⟩,.string ⟨#[]⟩,.string ⟨#[]⟩,.string ⟨#[]⟩,.string ⟨#[]⟩] 37)
  have A2:=At6.new (w.alloc (.cells #[.string a,.string b,.string c,.string d,.string e,.string f] 37)) (.string ⟨#[]⟩) (.string ⟨#[]⟩) (.string ⟨#[]⟩) (.string ⟨#[]⟩) (.string ⟨#[]⟩) (.string ⟨#[]⟩) 37
  have hB1:=hB0.alloc hB0.size (.cells #[.string ⟨#[]⟩,.string ⟨#[]⟩,.string ⟨#[]⟩,.string ⟨#[]⟩,.string ⟨#[]⟩,.string ⟨#[]⟩] 37)
  have hM1:=hM.below hB1 lr
  rw [show (w.alloc (.cells #[.string a,.string b,.string c,.string d,.string e,.string f] 37)).heap.size=w.heap.size+1 by simp] at A2
  obtain ⟨wa,hwa⟩:∃ wa:World,(w.alloc (.cells #[.string a,.string b,.string c,.string d,.string e,.string f] 37)).alloc (.cells #[.string ⟨#[]⟩,.string ⟨#[]⟩,.string ⟨#[]⟩,.string ⟨#[]⟩,.string ⟨#[]⟩,.string ⟨#[]⟩] 37)=wa:=⟨_,rfl⟩
  obtain ⟨K,hK⟩:∃ K,w.heap.size=K:=⟨_,rfl⟩
  obtain ⟨M,hm⟩:∃ M,w.heap.size+1=M:=⟨_,rfl⟩
  have hKM:K<=M:=(by omega)
  have hne:¬ K=M:=(by omega)
  rw [hwa] at A1 A2 hB1 hM1
  rw [hm] at A2
  rw [hK] at A1 hB1
  rw [hwa,hm,hK]
  clear hwa hm A0 hB0
  have HK:=Lib.hid hK
  have hBl:=A2.blank
  clear hK
  obtain ⟨hkl,a0,a1,a2,a3,a4,a5,f0,f1,f2,f3,f4,f5⟩:=A1
  obtain ⟨hml,m0,m1,m2,m3,m4,m5,g0,g1,g2,g3,g4,g5⟩:=A2
  have hKa:K<=wa.heap.size:=Nat.le_of_lt hkl
  go_wp2_with (first
   | (go_at_call 59;with_reducible refine (CT.out _).mono ?_;rintro x w' ⟨rfl,rfl⟩)
   | (go_at_call 58;with_reducible refine (CS.out _ hM1).mono ?_;rintro x w1 ⟨p,q,rfl,hb1⟩;have hr1:=brule hb1;have hg1:=frule hb1;have hM2:=hM1.below hb1 lr)
   | (go_at_call 28;with_reducible refine (CP.out _ hM2).mono ?_;rintro x w2 ⟨rfl,hb2⟩;have hB2:=hb1.trans (hb2.mono hb1.size);have hr2:=brule hB2;have hg2:=frule hB2))
  refine bodyPost_ret (url_at Tryz.results189 _ _ M (hBl.below hB2 hml) _ _ _ _ _ _ _ rfl rfl) rfl ⟨rfl,?_⟩
  rw [HK.out]
  exact below_set6 (hB1.trans (hB2.mono hKa)) hKM _ _ _ _ _ _
theorem resolve2 (a b c d e f s T:ByteArray)(w:World)(hM:MaxAt w)(h:Pre a b c d e f s T)(h1:schemeOk T.data.toList=false)(h2:validB (a.data.toList,b.data.toList,c.data.toList,d.data.toList,e.data.toList,f.data.toList)=false):
 ResV a b c d e f s w none:=by
 have hTs:=h.size
 have CT:=Lib.hid (fun w=>trim_is s T w (by have:=h.hs;omega) h.hT)
 have CS:=Lib.hid (fun w hM=>scheme_is T false w (by omega) hM h1)
 have CV:=Lib.hid (fun w hM=>valid_is a b c d e f w h.ha h.hb h.hc h.hd h.he h.hf hM false h2)
 unfold ResV
 clear h h1 h2
 go_enter Tryz.func189,Tryz.ntmps189
 go_wp2_with fail
 have A0:=At6.new w (.string a) (.string b) (.string c) (.string d) (.string e) (.string f) 37
 have hB0:Below w.heap.size w (w.alloc (.cells #[.string a,.string b,.string c,.string d,.string e,.string f] 37)):=(Below.refl _ w).alloc lr _
 have A1:=A0.alloc (.cells #[.string ⟨#[]⟩,.string ⟨#[]⟩,.string ⟨#[]⟩,.string ⟨#[]⟩,.string ⟨#[]⟩,.string ⟨#[]⟩] 37)
 have A2:=At6.new (w.alloc (.cells #[.string a,.string b,.string c,.string d,.string e,.string f] 37)) (.string ⟨#[]⟩) (.string ⟨#[]⟩) (.string ⟨#[]⟩) (.string ⟨#[]⟩) (.string ⟨#[]⟩) (.string ⟨#[]⟩) 37
 have hB1:=hB0.alloc hB0.size (.cells #[.string ⟨#[]⟩,.string ⟨#[]⟩,.string ⟨#[]⟩,.string ⟨#[]⟩,.string ⟨#[]⟩,.string ⟨#[]⟩] 37)
 have hM1:=hM.below hB1 lr
 rw [show (w.alloc (.cells #[.string a,.string b,.string c,.string d,.string e,.string f] 37)).heap.size=w.heap.size+1 by simp] at A2
 obtain ⟨wa,hwa⟩:∃ wa:World,(w.alloc (.cells #[.string a,.string b,.string c,.string d,.string e,.string f] 37)).alloc (.cells #[.string ⟨#[]⟩,.string ⟨#[]⟩,.string ⟨#[]⟩,.string ⟨#[]⟩,.string ⟨#[]⟩,.string ⟨#[]⟩] 37)=wa:=⟨_,rfl⟩
 obtain ⟨K,hK⟩:∃ K,w.heap.size=K:=⟨_,rfl⟩
 obtain ⟨M,hm⟩:∃ M,w.heap.size+1=M:=⟨_,rfl⟩
 have hKM:K<=M:=(by omega)
 have hne:¬ K=M:=(by omega)
 rw [hwa] at A1 A2 hB1 hM1
 rw [hm] at A2
 rw [hK] at A1 hB1
 rw [hwa,hm,hK]
 clear hwa hm A0 hB0
 have HK:=Lib.hid hK
 have hBl:=A2.blank
 clear hK
 obtain ⟨hkl,a0,a1,a2,a3,a4,a5,f0,f1,f2,f3,f4,f5⟩:=A1
 obtain ⟨hml,m0,m1,m2,m3,m4,m5,g0,g1,g2,g3,g4,g5⟩:=A2
 have hKa:K<=wa.heap.size:=Nat.le_of_lt hkl
 go_wp2_with (first
  | (go_at_call 59;with_reducible refine (CT.out _).mono ?_;rintro x w' ⟨rfl,rfl⟩)
  | (go_at_call 58;with_reducible refine (CS.out _ hM1).mono ?_;rintro x w1 ⟨p,q,rfl,hb1⟩;have hr1:=brule hb1;have hg1:=frule hb1;have hM2:=hM1.below hb1 lr)
  | (go_at_call 49;with_reducible refine (CV.out _ hM2).mono ?_;rintro x w2 ⟨rfl,hb2⟩;have hB2:=hb1.trans (hb2.mono hb1.size);have hr2:=brule hB2;have hg2:=frule hB2;have hM3:=hM1.below hB2 lr)
 )
 refine bodyPost_ret (url_at Tryz.results189 _ _ M (hBl.below hB2 hml) _ _ _ _ _ _ _ rfl rfl) rfl ⟨rfl,?_⟩
 rw [HK.out]
 exact below_set6 (hB1.trans (hB2.mono hKa)) hKM _ _ _ _ _ _
end Go.Proofs.YtjdhaacmlpegoaaGreatDoor
