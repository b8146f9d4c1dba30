/- Part 17 of what the proof needs: SM SN. -/
import Derived.Sort.LotA
import Derived.Sort.WalkA
import Derived.Test.YtjdhaacmlpegoaaGreatDoorP01
namespace Go.Proofs.YtjdhaacmlpegoaaGreatDoor
open Go.Sort
set_option linter.unusedSimpArgs false
set_option linter.unusedVariables false
section
variable {α : Type} (lt : α → α → Bool)
def insRev (x:α):List α->List α
 | []=>[x]
 | y :: r=>if lt x y then y :: insRev x r else x :: y :: r
def insR (x:α)(l:List α):List α:=(insRev lt x l.reverse).reverse
def insS (l:List α):List α:=l.foldl (fun acc x=>insR lt x acc) []
def le (x y:α):Bool:=!lt y x
def mg (a b:List α):List α:=List.merge a b (le lt)
theorem insR_nil (x:α):insR lt x []=[x]:=rfl
theorem insR_snoc (x y:α)(l:List α):insR lt x (l ++ [y])=if lt x y then insR lt x l ++ [y] else l ++ [y,x]:=by
 unfold insR
 rw [List.reverse_append]
 simp only [List.reverse_singleton,List.singleton_append,insRev]
 split <;> simp
theorem insR_length (x:α)(l:List α):(insR lt x l).length=l.length+1:=by
 have h:∀ l:List α,(insRev lt x l).length=l.length+1:=by
  intro l
  induction l with
  | nil=>rfl
  | cons y r ih=>unfold insRev;split <;> simp [ih]
 unfold insR;rw [List.length_reverse,h,List.length_reverse]
theorem insS_snoc (l:List α)(x:α):insS lt (l ++ [x])=insR lt x (insS lt l):=by simp [insS,List.foldl_append]
theorem insS_length (l:List α):(insS lt l).length=l.length:=by
 have:∀ l:List α,∀ acc,(l.foldl (fun acc x=>insR lt x acc) acc).length=acc.length+l.length:=by
  intro l
  induction l with
  | nil=>intro acc;simp
  | cons x r ih=>intro acc;rw [List.foldl_cons,ih,insR_length];simp;omega
 unfold insS;rw [this];simp
def Srt (l:List α):Prop:=l.Pairwise fun a b=>lt b a=false
theorem mg_nil (b:List α):mg lt [] b=b:=by unfold mg;simp
theorem mg_nil' (a:List α):mg lt a []=a:=by unfold mg;simp
theorem mg_cons (x y:α)(a b:List α):mg lt (x :: a) (y :: b)=if lt y x then y :: mg lt (x :: a) b else x :: mg lt a (y :: b):=by
 unfold mg
 rw [List.cons_merge_cons]
 unfold le
 cases lt y x <;> simp
theorem mg_length (a b:List α):(mg lt a b).length=a.length+b.length:=by
 unfold mg;rw [List.length_merge]
theorem mg_mem (a b:List α)(x:α):x∈mg lt a b ↔ x∈a\/x∈b:=by unfold mg;rw [List.mem_merge]
theorem srt_mg (hO:SWO lt):∀ (a b:List α),Srt lt a->Srt lt b->Srt lt (mg lt a b):=by
 intro a
 induction a with
 | nil=>intro b _ hb;rw [mg_nil];exact hb
 | cons x a iha=>
   intro b
   induction b with
   | nil=>intro ha _;rw [mg_nil'];exact ha
   | cons y b ihb =>
     intro ha hb
     rw [mg_cons]
     have hax:=List.pairwise_cons.1 ha
     have hby:=List.pairwise_cons.1 hb
     cases h:lt y x with
     | true=>
       rw [if_pos rfl]
       refine List.pairwise_cons.2 ⟨fun z hz=>?_,ihb ha hby.2⟩
       rcases (mg_mem lt _ _ _).1 hz with hz | hz
       ·have hxy:lt x y=false:=by
         cases e:lt x y with
         | false=>rfl
         | true=>have:=hO.trans x y x e h;rw [hO.irrefl] at this;cases this
        rcases List.mem_cons.1 hz with rfl | hz
        ·exact hxy
        ·exact hO.ntrans z x y (hax.1 z hz) hxy
       ·exact hby.1 z hz
     | false=>
       rw [if_neg (by simp)]
       refine List.pairwise_cons.2 ⟨fun z hz=>?_,iha (y :: b) hax.2 hb⟩
       rcases (mg_mem lt _ _ _).1 hz with hz | hz
       ·exact hax.1 z hz
       ·rcases List.mem_cons.1 hz with rfl | hz
        ·exact h
        ·exact hO.ntrans z y x (hby.1 z hz) h
theorem mg_parts:∀ (n:Nat)(u1 u2 v1 v2:List α) ,u1.length+v1.length<=n->(∀ x∈u1,∀ y∈v2,lt y x=false)->(∀ y∈v1,∀ x∈u2,lt y x=true) ->
 mg lt (u1 ++ u2) (v1 ++ v2)=mg lt u1 v1 ++ mg lt u2 v2:=by
 intro n
 induction n with
 | zero=>
   intro u1 u2 v1 v2 h _ _
   obtain rfl:u1=[]:=List.eq_nil_of_length_eq_zero (by omega)
   obtain rfl:v1=[]:=List.eq_nil_of_length_eq_zero (by omega)
   rw [mg_nil];rfl
 | succ n ih=>
   intro u1 u2 v1 v2 h h1 h2
   cases u1 with
   | nil=>
     cases v1 with
     | nil=>rw [mg_nil];rfl
     | cons y v1=>
       rw [mg_nil,List.nil_append]
       cases u2 with
       | nil=>rw [mg_nil,mg_nil]
       | cons x u2 =>
         have hyx:=h2 y (by simp) x (by simp)
         rw [List.cons_append,mg_cons,hyx,if_pos rfl]
         have:=ih [] (x :: u2) v1 v2 (by simp at h ⊢;omega) (fun z hz=>by simp at hz) (fun z hz=>h2 z (List.mem_cons_of_mem _ hz))
         rw [List.nil_append,mg_nil] at this
         rw [this];rfl
   | cons x u1=>
     cases v1 with
     | nil=>
       rw [mg_nil',List.nil_append]
       cases v2 with
       | nil=>rw [mg_nil',mg_nil']
       | cons y v2 =>
         have hyx:=h1 x (by simp) y (by simp)
         rw [List.cons_append,mg_cons,hyx,if_neg (by simp)]
         have:=ih u1 u2 [] (y :: v2) (by simp at h ⊢;omega) (fun z hz=>h1 z (List.mem_cons_of_mem _ hz)) (fun z hz=>by simp at hz)
         rw [List.nil_append,mg_nil'] at this
         rw [this];rfl
     | cons y v1=>
       rw [List.cons_append,List.cons_append,mg_cons,mg_cons]
       cases hyx:lt y x with
       | true =>
         rw [if_pos rfl,if_pos rfl]
         have:=ih (x :: u1) u2 v1 v2 (by simp at h ⊢;omega) h1 (fun z hz=>h2 z (List.mem_cons_of_mem _ hz))
         rw [List.cons_append] at this
         rw [this];rfl
       | false =>
         rw [if_neg (by simp),if_neg (by simp)]
         have:=ih u1 u2 (y :: v1) v2 (by simp at h ⊢;omega) (fun z hz=>h1 z (List.mem_cons_of_mem _ hz)) h2
         rw [List.cons_append] at this
         rw [this];rfl
theorem insR_srt (hO:SWO lt)(x:α):∀ (l:List α),Srt lt l->insR lt x l=mg lt l [x]:=by
 have key:∀ (n:Nat) (l:List α),l.length=n->Srt lt l->insR lt x l=mg lt l [x]:=by
  intro n
  induction n with
  | zero =>
    intro l hl _
    obtain rfl:l=[]:=List.eq_nil_of_length_eq_zero hl
    rw [mg_nil];rfl
  | succ n ih =>
    intro l hl hs
    obtain ⟨l',y,rfl⟩:∃ l' y,l=l' ++ [y]:=⟨l.dropLast,l.getLast (by intro e;rw [e] at hl;simp at hl),(List.dropLast_concat_getLast _).symm⟩
    have hs':=List.pairwise_append.1 hs
    rw [insR_snoc]
    cases h:lt x y with
    | true=>
      rw [if_pos rfl,ih l' (by simpa using hl) hs'.1]
      have:=mg_parts lt _ l' [y] [x] [] lr (fun _ _ z hz=>by simp at hz) (fun z hz w hw=>by simp at hz hw;rw [hz,hw];exact h)
      rw [List.append_nil,mg_nil'] at this
      exact this.symm
    | false=>
      rw [if_neg (by simp)]
      have:=mg_parts lt _ (l' ++ [y]) [] [] [x] lr (fun z hz w hw=>by
       simp at hw;subst hw
       rcases List.mem_append.1 hz with hz | hz
       ·exact hO.ntrans w y z h (hs'.2.2 z hz y (by simp))
       ·simp at hz;rw [hz];exact h) (fun z hz=>by simp at hz)
      rw [List.append_nil,List.nil_append,mg_nil',mg_nil] at this
      rw [this];simp
 exact fun l=>key l.length l rfl
theorem srt_insR (hO:SWO lt)(x:α)(l:List α)(h:Srt lt l):Srt lt (insR lt x l):=by
 rw [insR_srt lt hO x l h]
 exact srt_mg lt hO l [x] h (List.pairwise_singleton _ _)
theorem srt_foldl (hO:SWO lt):∀ (l acc:List α),Srt lt acc->Srt lt (l.foldl (fun acc x=>insR lt x acc) acc):=by
 intro l
 induction l with
 | nil=>intro acc h;exact h
 | cons x r ih=>intro acc h;exact ih _ (srt_insR lt hO x acc h)
theorem srt_insS (hO:SWO lt)(l:List α):Srt lt (insS lt l):=srt_foldl lt hO l [] List.Pairwise.nil
theorem mg_assoc (hO:SWO lt):∀ (n:Nat) (a b c:List α),a.length+b.length+c.length<=n->mg lt (mg lt a b) c=mg lt a (mg lt b c):=by
 intro n
 induction n with
 | zero=>
   intro a b c h
   obtain rfl:a=[]:=List.eq_nil_of_length_eq_zero (by omega)
   rw [mg_nil,mg_nil]
 | succ n ih=>
   intro a b c h
   cases a with
   | nil=>rw [mg_nil,mg_nil]
   | cons x a=>
     cases b with
     | nil=>rw [mg_nil',mg_nil]
     | cons y b=>
       cases c with
       | nil=>rw [mg_nil',mg_nil']
       | cons z c =>
         rw [mg_cons,mg_cons]
         simp only [List.length_cons] at h
         cases hyx:lt y x with
         | true=>
           rw [if_pos rfl,mg_cons]
           cases hzy:lt z y with
           | true =>
             have hzx:=hO.trans z y x hzy hyx
             rw [if_pos rfl,if_pos rfl,mg_cons,hzx,if_pos rfl]
             have e:=ih (x :: a) (y :: b) c (by simp;omega)
             rw [mg_cons,hyx,if_pos rfl] at e
             rw [e]
           | false =>
             rw [if_neg (by simp),if_neg (by simp),mg_cons,hyx,if_pos rfl]
             exact congrArg (y :: ·) (ih (x :: a) b (z :: c) (by simp;omega))
         | false=>
           rw [if_neg (by simp),mg_cons]
           cases hzx:lt z x with
           | true =>
             rw [if_pos rfl]
             have hzy:lt z y=true:=by
              cases e:lt z y with
              | true=>rfl
              | false=>have:=hO.ntrans z y x e hyx;rw [this] at hzx;cases hzx
             rw [hzy,if_pos rfl,mg_cons,hzx,if_pos rfl]
             have e:=ih (x :: a) (y :: b) c (by simp;omega)
             rw [mg_cons,hyx,if_neg (by simp)] at e
             rw [e]
           | false =>
             rw [if_neg (by simp)]
             have e:=ih a (y :: b) (z :: c) (by simp;omega)
             rw [e,mg_cons]
             cases hzy:lt z y with
             | true=>rw [if_pos rfl,mg_cons,hzx,if_neg (by simp)]
             | false=>rw [if_neg (by simp),mg_cons,hyx,if_neg (by simp)]
theorem insS_append (hO:SWO lt)(l1:List α):∀ l2:List α,insS lt (l1 ++ l2)=mg lt (insS lt l1) (insS lt l2):=by
 have key:∀ (n:Nat) (l2:List α),l2.length=n->insS lt (l1 ++ l2)=mg lt (insS lt l1) (insS lt l2):=by
  intro n
  induction n with
  | zero =>
    intro l2 hl
    obtain rfl:l2=[]:=List.eq_nil_of_length_eq_zero hl
    rw [List.append_nil,show insS lt []=[] from rfl,mg_nil']
  | succ n ih =>
    intro l2 hl
    obtain ⟨l',y,rfl⟩:∃ l' y,l2=l' ++ [y]:=⟨l2.dropLast,l2.getLast (by intro e;rw [e] at hl;simp at hl),(List.dropLast_concat_getLast _).symm⟩
    rw [<-List.append_assoc,insS_snoc,insS_snoc,ih l' (by simpa using hl),insR_srt lt hO y _ (srt_mg lt hO _ _ (srt_insS lt hO _) (srt_insS lt hO _)),insR_srt lt hO y _ (srt_insS lt hO _),mg_assoc lt hO _ _ _ _ lr]
 exact fun l2=>key l2.length l2 rfl
end
section
variable {α : Type} [Inhabited α] (lt : α → α → Bool)
theorem arr_at (X:List α)(y:α)(Y:List α):(X ++ y :: Y).toArray[X.length]! = y:=by simp
theorem arr_at' (X:List α)(y:α)(Y:List α)(n:Nat)(h:n=X.length):(X ++ y :: Y).toArray[n]! = y:=by subst h;exact arr_at X y Y
theorem swp_lists (X M Y:List α)(p q:α)(i j:Nat)(hi:i=X.length)(hj:j=X.length+1+M.length):swp (X ++ p :: (M ++ q :: Y)).toArray i j=(X ++ q :: (M ++ p :: Y)).toArray:=by
 unfold swp
 have e1:(X ++ p :: (M ++ q :: Y)).toArray[i]! = p:=arr_at' _ _ _ _ hi
 have e2:(X ++ p :: (M ++ q :: Y)).toArray[j]! = q:=by
  rw [show X ++ p :: (M ++ q :: Y)=(X ++ p :: M) ++ q :: Y by simp]
  exact arr_at' _ _ _ _ (by simp;omega)
 rw [e1,e2]
 have s1:(X ++ p :: (M ++ q :: Y)).set i q=X ++ q :: (M ++ q :: Y):=by
  rw [List.set_append_right _ _ (by omega),hi];simp
 have s2:(X ++ q :: (M ++ q :: Y)).set j p=X ++ q :: (M ++ p :: Y):=by
  rw [show X ++ q :: (M ++ q :: Y)=(X ++ q :: M) ++ q :: Y by simp,List.set_append_right _ _ (by simp;omega),hj]
  simp [show X.length+1+M.length - (X.length+(M.length+1))=0 by omega]
 apply Array.toList_inj.1
 simp only [Array.toList_setIfInBounds]
 rw [s1,s2]
theorem swp_comm' (X M Y:List α)(p q:α)(i j:Nat)(hi:i=X.length)(hj:j=X.length+1+M.length):swp (X ++ p :: (M ++ q :: Y)).toArray j i=(X ++ q :: (M ++ p :: Y)).toArray:=by
 have e:swp (X ++ p :: (M ++ q :: Y)).toArray j i=swp (X ++ p :: (M ++ q :: Y)).toArray i j:=by
  unfold swp
  exact Array.setIfInBounds_comm _ _ (by omega)
 rw [e];exact swp_lists X M Y p q i j hi hj
theorem insInner_is (a:Nat)(X:List α)(hX:a=X.length)(x:α):∀ (n:Nat) (s Y:List α),s.length=n->insInner lt a (a+n) (X ++ s ++ x :: Y).toArray=(X ++ insR lt x s ++ Y).toArray:=by
 intro n
 induction n with
 | zero=>
   intro s Y hs
   obtain rfl:s=[]:=List.eq_nil_of_length_eq_zero hs
   rw [Nat.add_zero,insInner_stop _ _ _ _ (Or.inl lr),insR_nil]
   simp
 | succ n ih=>
   intro s Y hs
   obtain ⟨s',y,rfl⟩:∃ l' y,s=l' ++ [y]:=⟨s.dropLast,s.getLast (by intro e;rw [e] at hs;simp at hs),(List.dropLast_concat_getLast _).symm⟩
   have hs':s'.length=n:=by simpa using hs
   have e0:X ++ (s' ++ [y]) ++ x :: Y=(X ++ s') ++ y :: ([] ++ x :: Y):=by simp
   have ex:(X ++ (s' ++ [y]) ++ x :: Y).toArray[a+(n+1)]! = x:=by
    exact arr_at' _ _ _ _ (by simp;omega)
   have ey:(X ++ (s' ++ [y]) ++ x :: Y).toArray[a+n]! = y:=by
    rw [e0];exact arr_at' _ _ _ _ (by simp;omega)
   rw [insR_snoc]
   cases h:lt x y with
   | true=>
     rw [insInner_go _ _ _ _ (by omega) (by rw [ex,show a+(n+1) - 1=a+n by omega,ey];exact h),if_pos rfl]
     rw [show a+(n+1) - 1=a+n by omega,e0,swp_comm' (X ++ s') [] Y y x (a+n) (a+(n+1)) (by simp;omega) (by simp;omega)]
     rw [show X ++ s' ++ x :: ([] ++ y :: Y)=X ++ s' ++ x :: (y :: Y) by rfl,ih s' (y :: Y) hs']
     simp
   | false=>
     rw [insInner_stop _ _ _ _ (Or.inr (by rw [ex,show a+(n+1) - 1=a+n by omega,ey];exact h)),if_neg (by simp)]
     simp
theorem insOuter_is (a:Nat)(X:List α)(hX:a=X.length)(Y:List α):∀ (r s:List α) (b i:Nat),i=a+s.length->b=i+r.length ->
 insOuter lt a b i (X ++ s ++ r ++ Y).toArray=(X ++ r.foldl (fun acc x=>insR lt x acc) s ++ Y).toArray:=by
 intro r
 induction r with
 | nil=>intro s b i hi hb;rw [insOuter_stop _ _ _ _ _ (by simp at hb;omega)];simp
 | cons x r ih=>
   intro s b i hi hb
   rw [insOuter_go _ _ _ _ _ (by simp at hb;omega)]
   have:=insInner_is lt a X hX x s.length s (r ++ Y) rfl
   rw [<-hi] at this
   rw [show X ++ s ++ x :: r ++ Y=X ++ s ++ x :: (r ++ Y) by simp,this]
   rw [show X ++ insR lt x s ++ (r ++ Y)=X ++ insR lt x s ++ r ++ Y by simp,ih (insR lt x s) b (i+1) (by rw [insR_length];omega) (by simp at hb;omega)]
   rfl
theorem insertion_is (X l Y:List α)(a b:Nat)(ha:a=X.length)(hb:b=a+l.length)(hl:l≠[]):insertionSort lt (X ++ l ++ Y).toArray a b=(X ++ insS lt l ++ Y).toArray:=by
 unfold insertionSort
 cases l with
 | nil=>exact absurd rfl hl
 | cons x r=>
   have:=insOuter_is lt a X ha Y r [x] b (a+1) (by simp) (by simp at hb;omega)
   rw [show X ++ [x] ++ r ++ Y=X ++ x :: r ++ Y by simp] at this
   rw [this]
   rfl
end
section
variable {α : Type} (lt : α → α → Bool)
theorem at_app [Inhabited α](X v Y:List α)(i t:Nat)(h:i=X.length+t)(ht:t<v.length):(X ++ v ++ Y).toArray[i]! = v[t]:=by
 subst h
 have e:v=v.take t ++ v[t] :: v.drop (t+1):=by rw [<-List.drop_eq_getElem_cons ht,List.take_append_drop]
 have e2:X ++ v ++ Y=(X ++ v.take t) ++ v[t] :: (v.drop (t+1) ++ Y):=by
  conv=>lhs;rw [e]
  simp only [List.append_assoc,List.cons_append]
 rw [e2]
 exact arr_at' _ _ _ _ (by simp;omega)
def srA (X p M q Y:List α)(i:Nat):Array α:=(X ++ q.take i ++ (p.drop i ++ M ++ p.take i) ++ q.drop i ++ Y).toArray
theorem srA_zero (X p M q Y:List α):srA X p M q Y 0=(X ++ p ++ M ++ q ++ Y).toArray:=by simp [srA]
theorem srA_end (X p M q Y:List α)(n:Nat)(hp:p.length=n)(hq:q.length=n):srA X p M q Y n=(X ++ q ++ M ++ p ++ Y).toArray:=by
 unfold srA
 rw [List.take_of_length_le (by omega),List.drop_of_length_le (by omega),List.take_of_length_le (by omega),List.drop_of_length_le (by omega)]
 simp
theorem srA_step [Inhabited α](X p M q Y:List α)(n i a b:Nat)(hp:p.length=n)(hq:q.length=n)(hi:i<n)(ha:a=X.length)(hb:b=X.length+n+M.length):
 swp (srA X p M q Y i) (a+i) (b+i)=srA X p M q Y (i+1):=by
 unfold srA
 have hpi:i<p.length:=by omega
 have hqi:i<q.length:=by omega
 rw [List.drop_eq_getElem_cons hpi,List.drop_eq_getElem_cons hqi]
 rw [show X ++ q.take i ++ (p[i] :: p.drop (i+1) ++ M ++ p.take i) ++ q[i] :: q.drop (i+1) ++ Y=(X ++ q.take i) ++ p[i] :: ((p.drop (i+1) ++ M ++ p.take i) ++ q[i] :: (q.drop (i+1) ++ Y)) by simp only [List.append_assoc,List.cons_append]]
 rw [swp_lists _ _ _ _ _ _ _ (by simp;omega) (by simp;omega)]
 rw [List.take_succ_eq_append_getElem hqi,List.take_succ_eq_append_getElem hpi]
 simp only [List.append_assoc,List.cons_append,List.nil_append]
def RotI (G:Array α)(m i j:Nat)(dk:Array α):Prop:=
 ∃ X p q Y:List α,dk=(X ++ p ++ q ++ Y).toArray/\X.length+i=m/\p.length=i/\q.length=j/\0<i/\0<j/\(X ++ q ++ p ++ Y).toArray=G
theorem rot_gt {G:Array α}{m i j:Nat}{dk:Array α}(h:RotI G m i j dk)(hij:j<i):
 ∃ X p M q Y:List α,dk=(X ++ p ++ M ++ q ++ Y).toArray/\p.length=j/\q.length=j/\m - i=X.length/\m=X.length+j+M.length/\RotI G m (i - j) j (X ++ q ++ M ++ p ++ Y).toArray:=by
 obtain ⟨X,p,q,Y,rfl,hX,hp,hq,hi,hj,hG⟩:=h
 refine ⟨X,p.take j,p.drop j,q,Y,by simp,by simp;omega,hq,by omega,by simp;omega,X ++ q,p.drop j,p.take j,Y,by simp,by simp;omega,by simp;omega,by simp;omega,by omega,by omega,?_⟩
 rw [<-hG]
 conv=>rhs;rw [<-List.take_append_drop j p]
 simp
theorem rot_lt {G:Array α}{m i j:Nat}{dk:Array α}(h:RotI G m i j dk)(hij:i<j):
 ∃ X p M q Y:List α,dk=(X ++ p ++ M ++ q ++ Y).toArray/\p.length=i/\q.length=i/\m - i=X.length/\m+j - i=X.length+i+M.length/\RotI G m i (j - i) (X ++ q ++ M ++ p ++ Y).toArray:=by
 obtain ⟨X,p,q,Y,rfl,hX,hp,hq,hi,hj,hG⟩:=h
 refine ⟨X,p,q.take (j - i),q.drop (j - i),Y,by simp,hp,by simp;omega,by omega,by simp;omega,X,q.drop (j - i),q.take (j - i),p ++ Y,by simp,by omega,by simp;omega,by simp;omega,by omega,by omega,?_⟩
 rw [<-hG]
 conv=>rhs;rw [<-List.take_append_drop (j - i) q]
 simp
theorem rot_eq {G:Array α}{m i j:Nat}{dk:Array α}(h:RotI G m i j dk)(hij:i=j):
 ∃ X p M q Y:List α,dk=(X ++ p ++ M ++ q ++ Y).toArray/\p.length=i/\q.length=i/\m - i=X.length/\m=X.length+i+M.length/\(X ++ q ++ M ++ p ++ Y).toArray=G:=by
 obtain ⟨X,p,q,Y,rfl,hX,hp,hq,hi,hj,hG⟩:=h
 exact ⟨X,p,[],q,Y,by simp,hp,by omega,by omega,by simp;omega,by rw [<-hG];simp⟩
theorem rot_start (X u v Y:List α)(a m b:Nat)(ha:a=X.length)(hm:m=a+u.length)(hb:b=m+v.length)(h1:a<m)(h2:m<b):RotI (X ++ v ++ u ++ Y).toArray m (m - a) (b - m) (X ++ u ++ v ++ Y).toArray:=
 ⟨X,u,v,Y,rfl,by omega,by omega,by omega,by omega,by omega,rfl⟩
theorem srt_take {l:List α}(h:Srt lt l)(k:Nat):Srt lt (l.take k):=List.Pairwise.sublist (List.take_sublist _ _) h
theorem srt_drop {l:List α}(h:Srt lt l)(k:Nat):Srt lt (l.drop k):=List.Pairwise.sublist (List.drop_sublist _ _) h
theorem srt_le {l:List α}(hO:SWO lt)(h:Srt lt l)(i j:Nat)(hij:i<=j)(hj:j<l.length):lt l[j] (l[i]'(by omega))=false:=by
 rcases Nat.lt_or_eq_of_le hij with h1 | h1
 ·exact (List.pairwise_iff_getElem.1 h) i j (by omega) hj h1
 ·subst h1;exact hO.irrefl _
theorem mem_take {l:List α}{k:Nat}{x:α}(h:x∈l.take k):∃ i,∃ hi:i<l.length,i<k/\x=l[i]:=by
 obtain ⟨i,hi,rfl⟩:=List.getElem_of_mem h
 have:=hi
 rw [List.length_take] at this
 exact ⟨i,by omega,by omega,by rw [List.getElem_take]⟩
theorem mem_drop {l:List α}{k:Nat}{x:α}(h:x∈l.drop k):∃ i,∃ hi:i<l.length,k<=i/\x=l[i]:=by
 obtain ⟨i,hi,rfl⟩:=List.getElem_of_mem h
 have:=hi
 rw [List.length_drop] at this
 exact ⟨k+i,by omega,by omega,by rw [List.getElem_drop]⟩
theorem lt_of_le (hO:SWO lt){y y1 x x1:α}(h1:lt y1 y=false)(h2:lt y1 x1=true)(h3:lt x x1=false):lt y x=true:=by
 cases e:lt y x with
 | true=>rfl
 | false=>
   have:=hO.ntrans y1 x x1 (hO.ntrans y1 y x h1 e) h3
   rw [h2] at this;cases this
theorem sym_first [Inhabited α](hO:SWO lt)(X v Y:List α)(x:α)(m b i:Nat)(hm:m=X.length+1)(hb:b=m+v.length)(hs:Srt lt v)(h0:m<=i)(h0':i<=b)
 (h1:i=m\/lt (X ++ [x] ++ v ++ Y).toArray[i - 1]! x=true) (h2:i=b\/lt (X ++ [x] ++ v ++ Y).toArray[i]! x=false) :
 mg lt [x] v=v.take (i - m) ++ x :: v.drop (i - m):=by
 have e1:=mg_parts lt _ [] [x] (v.take (i - m)) (v.drop (i - m)) lr (fun _ hz=>by simp at hz) (fun y hy z hz=>by
  simp at hz;subst hz
  obtain ⟨t,ht,htk,rfl⟩:=mem_take hy
  rcases h1 with h1 | h1
  ·omega
  ·rw [at_app (X ++ [z]) v Y (i - 1) (i - 1 - m) (by simp;omega) (by omega)] at h1
   exact lt_of_le lt hO (srt_le lt hO hs t (i - 1 - m) (by omega) (by omega)) h1 (hO.irrefl z))
 have e2:=mg_parts lt _ [x] [] [] (v.drop (i - m)) lr (fun z hz y hy=>by
  simp at hz;subst hz
  obtain ⟨t,ht,htk,rfl⟩:=mem_drop hy
  rcases h2 with h2 | h2
  ·omega
  ·rw [at_app (X ++ [z]) v Y i (i - m) (by simp;omega) (by omega)] at h2
   exact hO.ntrans _ _ _ (srt_le lt hO hs (i - m) t (by omega) (by omega)) h2) (fun y hy=>by simp at hy)
 rw [List.take_append_drop,List.nil_append,mg_nil] at e1
 rw [List.append_nil,List.nil_append,mg_nil',mg_nil] at e2
 rw [e1,e2];rfl
theorem sym_last [Inhabited α](hO:SWO lt)(X u Y:List α)(y:α)(a m i:Nat)(ha:a=X.length)(hm:m=a+u.length)(hs:Srt lt u)(h0:a<=i)(h0':i<=m)
 (h1:i=a\/lt y (X ++ u ++ ([y] ++ Y)).toArray[i - 1]! = false) (h2:i=m\/lt y (X ++ u ++ ([y] ++ Y)).toArray[i]! = true) :
 mg lt u [y]=u.take (i - a) ++ y :: u.drop (i - a):=by
 have e1:=mg_parts lt _ (u.take (i - a)) (u.drop (i - a)) [] [y] lr (fun x hx z hz=>by
  simp at hz;subst hz
  obtain ⟨t,ht,htk,rfl⟩:=mem_take hx
  rcases h1 with h1 | h1
  ·omega
  ·rw [at_app X u _ (i - 1) (i - 1 - a) (by omega) (by omega)] at h1
   exact hO.ntrans _ _ _ h1 (srt_le lt hO hs t (i - 1 - a) (by omega) (by omega))) (fun _ hz=>by simp at hz)
 have e2:=mg_parts lt _ [] (u.drop (i - a)) [y] [] lr (fun _ hz=>by simp at hz) (fun z hz x hx=>by
  simp at hz;subst hz
  obtain ⟨t,ht,htk,rfl⟩:=mem_drop hx
  rcases h2 with h2 | h2
  ·omega
  ·rw [at_app X u _ i (i - a) (by omega) (by omega)] at h2
   exact lt_of_le lt hO (hO.irrefl z) h2 (srt_le lt hO hs (i - a) t (by omega) (by omega)))
 rw [List.take_append_drop,List.nil_append,mg_nil'] at e1
 rw [List.append_nil,List.nil_append,mg_nil',mg_nil] at e2
 rw [e1,e2];rfl
def wandA (X:List α)(x:α)(v Y:List α)(k:Nat):Array α:=(X ++ v.take k ++ x :: (v.drop k ++ Y)).toArray
theorem wand_right [Inhabited α](X:List α)(x:α)(v Y:List α)(k a:Nat)(ha:a=X.length)(hk:k<v.length):swp (wandA X x v Y k) (a+k) (a+k+1)=wandA X x v Y (k+1):=by
 unfold wandA
 rw [List.drop_eq_getElem_cons hk]
 rw [show X ++ v.take k ++ x :: (v[k] :: v.drop (k+1) ++ Y)=(X ++ v.take k) ++ x :: ([] ++ v[k] :: (v.drop (k+1) ++ Y)) by simp only [List.append_assoc,List.cons_append,List.nil_append]]
 rw [swp_lists _ _ _ _ _ _ _ (by simp;omega) (by simp;omega),List.take_succ_eq_append_getElem hk]
 simp only [List.append_assoc,List.cons_append,List.nil_append]
theorem wand_left [Inhabited α](X:List α)(x:α)(v Y:List α)(k a:Nat)(ha:a=X.length)(hk:k<v.length):swp (wandA X x v Y (k+1)) (a+k+1) (a+k)=wandA X x v Y k:=by
 unfold wandA
 rw [List.drop_eq_getElem_cons hk]
 rw [List.take_succ_eq_append_getElem hk]
 rw [show X ++ (v.take k ++ [v[k]]) ++ x :: (v.drop (k+1) ++ Y)=(X ++ v.take k) ++ v[k] :: ([] ++ x :: (v.drop (k+1) ++ Y)) by simp only [List.append_assoc,List.cons_append,List.nil_append]]
 rw [swp_comm' _ _ _ _ _ _ _ (by simp;omega) (by simp;omega)]
 simp only [List.append_assoc,List.cons_append,List.nil_append]
theorem sym_part [Inhabited α](hO:SWO lt)(X u v Y:List α)(a m b mid n lo hi st en:Nat)(d:Array α)(hd:d=(X ++ u ++ v ++ Y).toArray)(ha:a=X.length)(hm:m=a+u.length)(hb:b=m+v.length)(hmid:mid=(a+b) / 2)(hn:n=mid+m)(h1m:a<m)(h2m:m<b)
 (hl:m > mid->lo=n - b/\hi=mid) (hl':¬ m > mid->lo=a/\hi=m) (hs1:lo<=st) (hs2:st<=hi) (he:en=n - st) (hu:Srt lt u) (hv:Srt lt v)
 (h1:st=lo\/lt d[n - st]! d[st - 1]! = false) (h2:st=hi\/lt d[n - 1 - st]! d[st]! = true) :
 a<=st/\st<=m/\m<=en/\en<=b/\(st - a)+(en - m)=mid - a/\st<=mid/\mid<=en/\mg lt u v=mg lt (u.take (st - a)) (v.take (en - m)) ++ mg lt (u.drop (st - a)) (v.drop (en - m)):=by
 have hk:a<=st/\st<=m/\m<=en/\en<=b/\(st - a)+(en - m)=mid - a/\st<=mid/\mid<=en:=by
  by_cases h:m > mid
  ·obtain ⟨rfl,rfl⟩:=hl h;omega
  ·obtain ⟨rfl,rfl⟩:=hl' h;omega
 obtain ⟨k1,k2,k3,k4,k5,k6,k7⟩:=hk
 refine ⟨k1,k2,k3,k4,k5,k6,k7,?_⟩
 have hat1:∀ i t,i=a+t->∀ ht:t<u.length,d[i]! = u[t]:=fun i t hi ht=>by
  rw [hd,show X ++ u ++ v ++ Y=X ++ u ++ (v ++ Y) by simp];exact at_app X u _ i t (by omega) ht
 have hat2:∀ i t,i=m+t->∀ ht:t<v.length,d[i]! = v[t]:=fun i t hi ht=>by
  rw [hd];exact at_app (X ++ u) v Y i t (by simp;omega) ht
 have e:=mg_parts lt _ (u.take (st - a)) (u.drop (st - a)) (v.take (en - m)) (v.drop (en - m)) lr (fun x hx y hy=>by
  obtain ⟨t,ht,htk,rfl⟩:=mem_take hx
  obtain ⟨s,hs,hsk,rfl⟩:=mem_drop hy
  have hst:¬ st=lo:=by
   intro h
   by_cases hc:m > mid
   ·obtain ⟨rfl,rfl⟩:=hl hc;omega
   ·obtain ⟨rfl,rfl⟩:=hl' hc;omega
  have h1:=h1.resolve_left hst
  rw [hat2 (n - st) (en - m) (by omega) (by omega),hat1 (st - 1) (st - 1 - a) (by omega) (by omega)] at h1
  exact hO.ntrans _ _ _ (srt_le lt hO hv (en - m) s (by omega) hs) (hO.ntrans _ _ _ h1 (srt_le lt hO hu t (st - 1 - a) (by omega) (by omega)))) (fun y hy x hx=>by
  obtain ⟨t,ht,htk,rfl⟩:=mem_drop hx
  obtain ⟨s,hs,hsk,rfl⟩:=mem_take hy
  have hst:¬ st=hi:=by
   intro h
   by_cases hc:m > mid
   ·obtain ⟨rfl,rfl⟩:=hl hc;omega
   ·obtain ⟨rfl,rfl⟩:=hl' hc;omega
  have h2:=h2.resolve_left hst
  rw [hat2 (n - 1 - st) (en - m - 1) (by omega) (by omega),hat1 st (st - a) (by omega) (by omega)] at h2
  exact lt_of_le lt hO (srt_le lt hO hv s (en - m - 1) (by omega) (by omega)) h2 (srt_le lt hO hu (st - a) t (by omega) ht))
 rw [List.take_append_drop,List.take_append_drop] at e
 exact e
def cs (bs:Nat)(l:List α):List α:=if h:bs=0\/l=[] then [] else insS lt (l.take bs) ++ cs bs (l.drop bs)
termination_by l.length
decreasing_by
 have:l.length≠0:=fun e=>h (Or.inr (List.eq_nil_of_length_eq_zero e))
 simp;omega
theorem cs_nil (bs:Nat):cs lt bs []=[]:=by rw [cs];simp
theorem cs_step (bs:Nat)(l:List α)(hb:0<bs)(hl:l≠[]):cs lt bs l=insS lt (l.take bs) ++ cs lt bs (l.drop bs):=by
 rw [cs,dif_neg (by rintro (h | h);omega;exact hl h)]
theorem cs_short (bs:Nat)(l:List α)(hb:0<bs)(hl:l.length<=bs):cs lt bs l=insS lt l:=by
 by_cases h:l=[]
 ·subst h;rw [cs_nil];rfl
 ·rw [cs_step lt bs l hb h,List.take_of_length_le hl,List.drop_of_length_le hl,cs_nil,List.append_nil]
theorem cs_append (bs:Nat)(hb:0<bs):∀ (c:Nat) (A B:List α),A.length=bs * c->cs lt bs (A ++ B)=cs lt bs A ++ cs lt bs B:=by
 intro c
 induction c with
 | zero=>
   intro A B h
   obtain rfl:A=[]:=List.eq_nil_of_length_eq_zero (by simpa using h)
   rw [cs_nil];rfl
 | succ c ih=>
   intro A B h
   rw [Nat.mul_succ] at h
   have hA:A≠[]:=by intro e;rw [e] at h;simp at h;omega
   rw [cs_step lt bs (A ++ B) hb (by simp [hA]),cs_step lt bs A hb hA,List.take_append_of_le_length (by omega),List.drop_append_of_le_length (by omega),ih _ B (by simp;omega)]
   simp
theorem cs_length (bs:Nat)(hb:0<bs):∀ (n:Nat) (l:List α),l.length<=n->(cs lt bs l).length=l.length:=by
 intro n
 induction n with
 | zero=>
   intro l h
   obtain rfl:l=[]:=List.eq_nil_of_length_eq_zero (by omega)
   rw [cs_nil]
 | succ n ih=>
   intro l h
   by_cases hl:l=[]
   ·subst hl;rw [cs_nil]
   ·have:l.length≠0:=fun e=>hl (List.eq_nil_of_length_eq_zero e)
    rw [cs_step lt bs l hb hl,List.length_append,insS_length,ih _ (by simp;omega)]
    simp;omega
def P1 (l:List α)(a:Nat)(d:Array α):Prop:=a<=l.length/\(∃ c,a=20 * c)/\d=(cs lt 20 (l.take a) ++ l.drop a).toArray
theorem P1.start (l:List α):P1 lt l 0 l.toArray:=⟨Nat.zero_le _,⟨0,rfl⟩,by simp [cs_nil]⟩
theorem P1.parts {l:List α}{a:Nat}{d:Array α}(h:P1 lt l a d)(hb:a+20<=l.length):∃ X B Y,d=(X ++ B ++ Y).toArray/\a=X.length/\a+20=a+B.length/\B≠[]/\P1 lt l (a+20) (X ++ insS lt B ++ Y).toArray:=by
 obtain ⟨h1,⟨c,h2⟩,rfl⟩:=h
 refine ⟨cs lt 20 (l.take a),(l.drop a).take 20,l.drop (a+20),?_,?_,?_,?_,hb,⟨c+1,by omega⟩,?_⟩
 ·rw [List.append_assoc]
  congr 2
  conv=>lhs;rw [<-List.take_append_drop 20 (l.drop a),List.drop_drop]
 ·rw [cs_length lt 20 (by omega) _ _ lr];simp;omega
 ·simp;omega
 ·intro e
  have:=congrArg List.length e
  simp at this;omega
 ·have e:l.take (a+20)=l.take a ++ (l.drop a).take 20:=by rw [List.take_add]
  rw [e,cs_append lt 20 (by omega) c _ _ (by simp;omega),cs_short lt 20 ((l.drop a).take 20) (by omega) (by simp;omega)]
theorem P1.last {l:List α}{a:Nat}{d:Array α}(h:P1 lt l a d)(hb:l.length<a+20)(ha:a<l.length):∃ X B Y,d=(X ++ B ++ Y).toArray/\a=X.length/\l.length=a+B.length/\B≠[]/\(X ++ insS lt B ++ Y).toArray=(cs lt 20 l).toArray:=by
 obtain ⟨h1,⟨c,h2⟩,rfl⟩:=h
 refine ⟨cs lt 20 (l.take a),l.drop a,[],by simp,?_,by simp;omega,?_,?_⟩
 ·rw [cs_length lt 20 (by omega) _ _ lr];simp;omega
 ·intro e
  have:=congrArg List.length e
  simp at this;omega
 ·have e:=cs_append lt 20 (by omega) c (l.take a) (l.drop a) (by simp;omega)
  rw [List.take_append_drop,cs_short lt 20 (l.drop a) (by omega) (by simp;omega)] at e
  rw [e];simp
theorem P1.done {l:List α}{a:Nat}{d:Array α}(h:P1 lt l a d)(ha:¬ a<l.length):d=(cs lt 20 l).toArray:=by
 obtain ⟨h1,_,rfl⟩:=h
 have:a=l.length:=by omega
 subst this
 simp
theorem insertion_none [Inhabited α](d:Array α)(a b:Nat)(h:b<=a+1):insertionSort lt d a b=d:=by
 unfold insertionSort;rw [insOuter_stop _ _ _ _ _ (by omega)]
def P2 (bs:Nat)(l:List α)(a:Nat)(d:Array α):Prop:=0<bs/\a<=l.length/\(∃ c,a=2 * bs * c)/\d=(cs lt (2 * bs) (l.take a) ++ cs lt bs (l.drop a)).toArray
theorem P2.start {bs:Nat}{l:List α}(hb:0<bs):P2 lt bs l 0 (cs lt bs l).toArray:=⟨hb,Nat.zero_le _,⟨0,rfl⟩,by simp [cs_nil]⟩
theorem P2.parts (hO:SWO lt){bs:Nat}{l:List α}{a:Nat}{d:Array α}(h:P2 lt bs l a d)(hb:a+2 * bs<=l.length):∃ X u v Y,d=(X ++ u ++ v ++ Y).toArray/\a=X.length/\a+bs=a+u.length/\a+2 * bs=a+bs+v.length/\Srt lt u/\Srt lt v/\P2 lt bs l (a+2 * bs) (X ++ mg lt u v ++ Y).toArray:=by
 obtain ⟨h0,h1,⟨c,h2⟩,rfl⟩:=h
 have hl1:((l.drop a).take bs).length=bs:=by simp;omega
 have hl2:(((l.drop a).drop bs).take bs).length=bs:=by simp;omega
 have ed:l.drop a=(l.drop a).take bs ++ (((l.drop a).drop bs).take bs ++ l.drop (a+2 * bs)):=by
  conv=>lhs;rw [<-List.take_append_drop bs (l.drop a),<-List.take_append_drop bs ((l.drop a).drop bs),List.drop_drop,List.drop_drop]
  rw [show a+bs+bs=a+2 * bs by omega,List.drop_drop]
 refine ⟨cs lt (2 * bs) (l.take a),insS lt ((l.drop a).take bs),insS lt (((l.drop a).drop bs).take bs),cs lt bs (l.drop (a+2 * bs)),?_,?_,?_,?_,srt_insS lt hO _,srt_insS lt hO _,h0,hb,⟨c+1,by rw [Nat.mul_succ];omega⟩,?_⟩
 ·have e:cs lt bs (l.drop a)=insS lt ((l.drop a).take bs) ++ (insS lt (((l.drop a).drop bs).take bs) ++ cs lt bs (l.drop (a+2 * bs))):=by
   conv=>lhs;rw [ed]
   rw [cs_append lt bs h0 1 _ _ (by omega),cs_append lt bs h0 1 _ _ (by omega),cs_short lt bs _ h0 (by omega),cs_short lt bs _ h0 (by omega)]
  rw [e];simp
 ·rw [cs_length lt (2 * bs) (by omega) _ _ lr];simp;omega
 ·rw [insS_length,hl1]
 ·rw [insS_length,hl2];omega
 ·have e:l.take (a+2 * bs)=l.take a ++ ((l.drop a).take bs ++ ((l.drop a).drop bs).take bs):=by
   rw [List.take_add]
   congr 1
   rw [show 2 * bs=bs+bs by omega,List.take_add]
  rw [e,cs_append lt (2 * bs) (by omega) c _ _ (by simp;omega),cs_short lt (2 * bs) ((l.drop a).take bs ++ ((l.drop a).drop bs).take bs) (by omega) (by rw [List.length_append,hl1,hl2];omega),insS_append lt hO]
theorem P2.last (hO:SWO lt){bs:Nat}{l:List α}{a:Nat}{d:Array α}(h:P2 lt bs l a d)(hb:l.length<a+2 * bs)(ha:a+bs<l.length):∃ X u v Y,d=(X ++ u ++ v ++ Y).toArray/\a=X.length/\a+bs=a+u.length/\l.length=a+bs+v.length/\Srt lt u/\Srt lt v/\(X ++ mg lt u v ++ Y).toArray=(cs lt (2 * bs) l).toArray:=by
 obtain ⟨h0,h1,⟨c,h2⟩,rfl⟩:=h
 have hl1:((l.drop a).take bs).length=bs:=by simp;omega
 have ed:l.drop a=(l.drop a).take bs ++ (l.drop a).drop bs:=(List.take_append_drop _ _).symm
 refine ⟨cs lt (2 * bs) (l.take a),insS lt ((l.drop a).take bs),insS lt ((l.drop a).drop bs),[],?_,?_,?_,?_,srt_insS lt hO _,srt_insS lt hO _,?_⟩
 ·have e:cs lt bs (l.drop a)=insS lt ((l.drop a).take bs) ++ insS lt ((l.drop a).drop bs):=by
   conv=>lhs;rw [ed]
   rw [cs_append lt bs h0 1 _ _ (by omega),cs_short lt bs _ h0 (by omega),cs_short lt bs _ h0 (by simp;omega)]
  rw [e];simp
 ·rw [cs_length lt (2 * bs) (by omega) _ _ lr];simp;omega
 ·rw [insS_length,hl1]
 ·rw [insS_length];simp;omega
 ·have e:=cs_append lt (2 * bs) (by omega) c (l.take a) (l.drop a) (by simp;omega)
  rw [List.take_append_drop,cs_short lt (2 * bs) (l.drop a) (by omega) (by simp;omega)] at e
  rw [e,<-insS_append lt hO,<-ed];simp
theorem P2.done {bs:Nat}{l:List α}{a:Nat}{d:Array α}(h:P2 lt bs l a d)(ha:¬ a+bs<l.length):d=(cs lt (2 * bs) l).toArray:=by
 obtain ⟨h0,h1,⟨c,h2⟩,rfl⟩:=h
 have e:=cs_append lt (2 * bs) (by omega) c (l.take a) (l.drop a) (by simp;omega)
 rw [List.take_append_drop,cs_short lt (2 * bs) (l.drop a) (by omega) (by simp;omega)] at e
 rw [e,cs_short lt bs (l.drop a) h0 (by simp;omega)]
end
end Go.Proofs.YtjdhaacmlpegoaaGreatDoor
