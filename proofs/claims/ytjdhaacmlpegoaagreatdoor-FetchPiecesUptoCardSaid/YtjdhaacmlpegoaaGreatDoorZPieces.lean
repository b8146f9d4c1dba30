/- FetchPiecesUpto: the frame of the row,and the card. The law returns true for every input of bounded bulk;its arguments read as before. -/
import Derived.Test.YtjdhaacmlpegoaaGreatDoorZPiecesF
import Derived.Deep.Slices
import Derived.Test.YtjdhaacmlpegoaaGreatDoorU25
import Derived.Test.YtjdhaacmlpegoaaGreatDoorVY5
import Derived.Test.YtjdhaacmlpegoaaGreatDoorCards
import Derived.Test.YtjdhaacmlpegoaaGreatDoorTie
import Derived.ProofKit
import Derived.OpenShut
import Derived.Deep.DeepHandedRow
import Derived.Lay
import Derived.SevenTiedAt
import Derived.LaidOnce
import Derived.MakeChecks
namespace Go.Proofs.YtjdhaacmlpegoaaGreatDoor.fetchPiecesUpto
set_option linter.unusedVariables false
set_option linter.unusedSimpArgs false
open Go.ChangeShapes Go.WideShapes Go.ChangeAt Go.RowKit
open Go.ChangeMaps (open_string shut_string)
theorem bulk_strs {H:Type}(l:List ByteArray):Rows.uptoBulkAll (l.map fun p=>(DataW.lit (.string p.data.toList):DataW H))=l.length+(catB l).size:=by
 induction l with
 | nil=>rfl
 | cons p r ih=>
  rw [List.map_cons]
  show Rows.uptoBulk (DataW.lit (.string p.data.toList):DataW H)+Rows.uptoBulkAll (r.map fun p=>(DataW.lit (.string p.data.toList):DataW H))=_
  rw [ih]
  show p.data.toList.length+1+(r.length+(catB r).size)=(r.length+1)+(p ++ catB r).size
  rw [ba_app_size,size_len];omega
theorem open_strs {H:Type}{enc:TypeId × Value->H}{P:Program}{w:World}{base:Nat}{held:Bool}{t e:TypeId}(ht:P.underlying t=some (.slice e))(he:P.underlying e=some .string)(hc:P.cellsOf e=1){r:Reach}{b0:Nat}{v:Value}{d:DataW H}{ps:List MemPlace}
 (hval:Value.okWide P w r b0 t v) (hd:DataW.Trod enc P w base (fun _=>true) held t v d ps):∃ l:List ByteArray,SlK stC 1 w v l/\l.length+(catB l).size<=Rows.uptoBulk d:=by
 obtain ⟨fuel,hf⟩:=hd;have hv:∃ o n c,v = .slice o n c:=by
  cases v with
  | slice o n c=>exact ⟨o,n,c,rfl⟩
  | _=>simp [Value.okWide,Cell.okWide,Cell.ok,ht] at hval
 obtain ⟨o,n,c,rfl⟩:=hv;rcases Go.Deep.open_slice1 ht hc hf with ⟨hc0,hx⟩ | ⟨a,len,cap,m,n',V,D,Pl,hcs,hb,hl,hm,hmm,hx,hi⟩
 ·have h0:Value.slice o n c = .slice none 0 0:=by simpa [Value.cells] using hc0
  rw [h0];exact ⟨[],.inl ⟨rfl,none,0,rfl,Nat.zero_le _⟩,by show 0+0<=_;omega⟩
 ·have h0:Value.slice o n c = .slice (some a) len cap:=by simpa [Value.cells] using hcs
  rw [h0];have hd0:d = .slice ((List.range len).map D) ((List.range (m - len)).map fun j=>D (len+j)):=congrArg Prod.fst hx;have key:∀ k,k<len->∃ p:ByteArray,w.cell? (a.add k)=some (.string p)/\D k = .lit (.string p.data.toList):=fun k hk=>by
   obtain ⟨h1,h2⟩:=hi k (by rw [hmm];simp;omega);obtain ⟨s,e1,e2,_⟩:=DataW.trod_string he h2;have e1:V k = .string s:=by simpa using e1
   exact ⟨s,by rw [h1,e1],congrArg Prod.fst e2⟩
  obtain ⟨l,hll,hq⟩:=pick_rows len _ key;refine ⟨l,?_,?_⟩
  ·cases l with
   | nil=>exact .inl ⟨rfl,some a,cap,by rw [<-hll];rfl,hm⟩
   | cons p l=>
    have z0:=(hq 0 (by simp)).1
    have hz:a.add 0=a:=by unfold Addr.add;simp
    rw [hz] at z0
    obtain ⟨hsp,hlt⟩:=cell_spot2 z0
    obtain ⟨ab,ao,sp⟩:=a
    have hsp:sp=none:=hsp
    subst hsp
    refine .inr ⟨by simp,ab,ao,cap,by rw [hll],by omega,hm,hlt,fun k hk j u hu=>?_⟩
    have h2:=(hq k hk).1
    have e1:∀ o x:Nat,(⟨ab,o,none⟩:Addr).add x=⟨ab,o+x,none⟩:=fun o x=>by unfold Addr.add;split <;> simp_all
    rw [e1] at h2
    match j,hu with
    | 0,hu=>
     have hu:some (Value.string (p :: l)[k])=some u:=hu
     rw [<-hu,<-h2,Nat.mul_one,Nat.add_zero]
  ·have hD:(List.range len).map D=l.map fun p=>(DataW.lit (.string p.data.toList):DataW H):=by refine List.ext_getElem (by simp [hll]) fun k h1 h2=>?_;rw [List.getElem_map,List.getElem_map,List.getElem_range];exact (hq k (by simpa using h2)).2
   rw [hd0,hD,<-bulk_strs (H:=H) l];show _<=Rows.uptoBulkAll _+Rows.uptoBulkAll _+1;omega
theorem wt_at {H:Type}{P:Program}{ts:List TypeId}{ds:List (DataW H)}(h:(DataW.weightsEach P ts ds).all (·<=reachBytes)=true)(i:Nat){t:TypeId}{d:DataW H}(ht:ts[i]? = some t)(hd:ds[i]? = some d):WtOk P t d:=fun n hn=>by
 have:=List.all_eq_true.1 h n (wt_each i ht hd hn)
 simpa using this
theorem own:ownKnob Tryz.prog.godebug=none:=by kernel_rfl
theorem laidOut:laidOutB Tryz.prog=true:=by kernel_rfl
theorem laid_met (os:Os):laidMet Tryz.prog Rows.fetchPiecesUptoRow.laid (((World.laidAll Tryz.prog os Rows.fetchPiecesUptoRow.laid)).forCall (fun _ _=>0) ⟨#[],#[.agg #[.slice none 0 0,.int .i64 0,.slice none 0 0,.int .i64 0],.agg #[.int .i64 0,.string ⟨#[]⟩,.string ⟨#[]⟩,.string ⟨#[]⟩,.int .i64 0,.slice none 0 0,.string ⟨#[]⟩,.bool false],.slice none 0 0],[]⟩).memory:=laidMet_laidAll _ (by kernel_rfl) (by kernel_rfl)
theorem reads (os:Os){H:Type}(enc:TypeId × Value->H):∃ places,DataW.whole enc Tryz.prog ((World.laidAll Tryz.prog os Rows.fetchPiecesUptoRow.laid).forCall (fun _ _=>0) ⟨#[],#[.agg #[.slice none 0 0,.int .i64 0,.slice none 0 0,.int .i64 0],.agg #[.int .i64 0,.string ⟨#[]⟩,.string ⟨#[]⟩,.string ⟨#[]⟩,.int .i64 0,.slice none 0 0,.string ⟨#[]⟩,.bool false],.slice none 0 0],[]⟩).memory Tryz.f9.params.toList Rows.fetchPiecesSpec.vars false (#[.agg #[.slice none 0 0,.int .i64 0,.slice none 0 0,.int .i64 0],.agg #[.int .i64 0,.string ⟨#[]⟩,.string ⟨#[]⟩,.string ⟨#[]⟩,.int .i64 0,.slice none 0 0,.string ⟨#[]⟩,.bool false],.slice none 0 0]:Array Value).toList 8=some ([.agg [.agg [.nil,.lit (.int .i64 0)],.nil,.lit (.int .i64 0)],.agg [.lit (.int .i64 0),.lit (.string []),.lit (.string []),.lit (.string []),.lit (.int .i64 0),.nil,.lit (.string []),.lit (.bool false)],.nil],[],places):=
 ⟨[],by kernel_rfl⟩
set_option maxRecDepth 100000 in
theorem lifted (os:Os)(started:os.Started)(H:Type)(enc:TypeId × Value->H)(F:Stop.Interp):
 ReturnsInHanded {} Tryz.checked os 9 .any ((Rows.OpenSpec.upto Rows.fetchPiecesSpec).preRow enc Tryz.prog Tryz.f9 Rows.fetchPiecesUptoRow.domain false Rows.fetchPiecesUptoRow.laid) (((Rows.OpenSpec.upto Rows.fetchPiecesSpec).at F).post enc Tryz.prog Tryz.f9 false true false false):=by
 obtain ⟨places,hx⟩:=reads os enc
 refine returnsInHanded_of_row (C:=Tryz.checked) (s:=(Rows.OpenSpec.upto Rows.fetchPiecesSpec)) own started (by kernel_rfl) Tryz.func9
  (witness_row_at (enc:=enc) (C:=Tryz.checked) false (World.laidAll Tryz.prog os Rows.fetchPiecesUptoRow.laid) #[.agg #[.slice none 0 0,.int .i64 0,.slice none 0 0,.int .i64 0],.agg #[.int .i64 0,.string ⟨#[]⟩,.string ⟨#[]⟩,.string ⟨#[]⟩,.int .i64 0,.slice none 0 0,.string ⟨#[]⟩,.bool false],.slice none 0 0] (World.laidAll_os _ _ _) (by kernel_rfl) (by kernel_rfl) (by kernel_rfl)
   (OpenSpec.preRow_of_cond 8 hx (by kernel_rfl) (fun k hk=>by cases hk;kernel_rfl) (by kernel_rfl) (laid_met os))) ?_
 intro W base args ds gs before hval hW hc1 hc2 hc3 hL hc4 hc5;have hW':=hW;obtain ⟨p,q,hA0,hV,rfl,hfz,hnd⟩:=hW;have hA:DataW.TrodAll enc Tryz.prog W 0 (fun _=>true) true Tryz.f9.params.toList args.toList ds p:=hA0;rw [Tryz.params9] at hA hval;obtain ⟨v0,vs0,d0,ds0,p0,q0,hargs,rfl,rfl,h0,r0⟩:=trodAll_cons hA;obtain ⟨v1,vs1,d1,ds1,p1,q1,rfl,rfl,rfl,h1,r1⟩:=trodAll_cons r0;obtain ⟨v2,vs2,d2,ds2,p2,q2,rfl,rfl,rfl,h2,r2⟩:=trodAll_cons r1;obtain ⟨rfl,rfl,rfl⟩:=trodAll_nil r2;obtain rfl:args = #[v0,v1,v2]:=by cases args;simp_all
 obtain ⟨rfl,rfl⟩:=trodVars_none hV;have h0k:=h0;obtain ⟨vj0,J0,nx0,vc0,lx0,now0,rfl,wz0⟩:=open_wdP (⟨Tryz.underlying88,Tryz.underlying9,Tryz.underlying4,Tryz.underlying3,⟨rfl,rfl,rfl,rfl,rfl,rfl,rfl,rfl,rfl⟩,⟨rfl,rfl,rfl,rfl,rfl,rfl,rfl,rfl,rfl⟩,by kernel_rfl,by kernel_rfl,by kernel_rfl,by kernel_rfl⟩) (⟨(⟨Tryz.underlying28,Tryz.underlying70,Tryz.underlying9,⟨rfl,rfl,rfl,rfl⟩,by kernel_rfl,by kernel_rfl,by kernel_rfl⟩),Tryz.underlying90,Tryz.underlying3,⟨rfl,rfl,rfl,rfl,rfl,rfl⟩,⟨rfl,rfl,rfl,rfl,rfl,rfl⟩,by kernel_rfl,by kernel_rfl⟩) Tryz.underlying24 Tryz.underlying27 Tryz.underlying22 Tryz.underlying25 ⟨rfl,rfl,rfl,rfl⟩ ⟨rfl,rfl,rfl,rfl,rfl,rfl⟩ (by kernel_rfl) (by kernel_rfl) (by kernel_rfl) (by kernel_rfl) (hval 0 27 v0 rfl rfl) h0;have h1k:=h1;obtain ⟨qt1,qm1,qu1,qg1,qo1,qv1,qb1,qk1,l1,rfl,sz1⟩:=open_fqZ (⟨(⟨Tryz.underlying28,Tryz.underlying70,Tryz.underlying9,⟨rfl,rfl,rfl,rfl⟩,by kernel_rfl,by kernel_rfl,by kernel_rfl⟩),Tryz.underlying30,Tryz.underlying3,Tryz.underlying4,⟨rfl,rfl,rfl,rfl,rfl,rfl,rfl,rfl⟩,⟨rfl,rfl,rfl,rfl,rfl,rfl,rfl,rfl⟩,by kernel_rfl,by kernel_rfl,by kernel_rfl⟩) (hval 1 30 v1 rfl rfl) h1;have h2k:=h2;obtain ⟨l2,sl2,sz2⟩:=open_strs Tryz.underlying75 Tryz.underlying9 (by kernel_rfl) (hval 2 75 v2 rfl rfl) h2;clear hA0;simp only [List.append_nil,List.nil_append] at hW';have hlt:∀ x∈p0 ++ p1 ++ p2,x.block<W.heap.size:=fun x hx=>hW'.lt x (by simpa using hx);have hbk:Rows.uptoSmall H ([d0,d1,d2] ++ [])=true:=by first | exact hc1 _ rfl | exact hc2 _ rfl | exact hc3 _ rfl | exact hc4 _ rfl | exact hc5 _ rfl
 have hk:=of_decide_eq_true hbk;simp only [List.append_nil,Rows.uptoBulkAll] at hk;have hpl:l2.length<=1048576:=by omega
 have hpz:(catB l2).size<=1048576:=by omega
 refine (fetchpieces_law vj0 J0 nx0 vc0 lx0 now0 qt1 qm1 qu1 qg1 qo1 qv1 l1 qb1 qk1 v2 l2 W (s13 W hc4) (MaxAt.lt (s13 W hc4)) (wz0 (wt_at hc3 0 rfl rfl)) (sz1 (wt_at hc3 1 rfl rfl)) sl2 hpl hpz).mono fun e W' ⟨he,hb⟩=>?_;subst he;exact ⟨_,rfl,_,_,_,[],_,[],hW',trodAll_cons_mk (shut_bool Tryz.underlying4 _) trodAll_mk0,trodAll_cons_mk (Below.trod laidOut (by kernel_rfl) (of_decide_eq_true (by kernel_rfl)) h0k hb (fun x hx=>hlt x (by simp [hx]))) (trodAll_cons_mk (Below.trod laidOut (by kernel_rfl) (of_decide_eq_true (by kernel_rfl)) h1k hb (fun x hx=>hlt x (by simp [hx]))) (trodAll_cons_mk (Below.trod laidOut (by kernel_rfl) (of_decide_eq_true (by kernel_rfl)) h2k hb (fun x hx=>hlt x (by simp [hx]))) trodAll_mk0)),rfl,hb.frame _,fun h=>by cases h⟩
theorem said:Rows.FetchPiecesUptoSaid:=
 OpenClaim.holds_of_cond 9 Tryz.f9 rfl rfl rfl rfl rfl rfl rfl ⟨rfl,rfl,rfl,rfl,rfl⟩ rfl rfl rfl rfl rfl saidName Tryz.func9 saidFacts saidInst saidWrap
  (fun os started H enc _ F=>by rw [OpenClaim.pre_eq_preRow];exact lifted os started H enc F)
theorem plain (f:FuncId)(fn:Func)(hf:Tryz.pinned.checked.prog.funcNamed "knapsack/knapsacklaw44.FetchPieces" = some f)(hfn:Tryz.pinned.checked.prog.funcs[f]? = some fn):
 true=Tryz.pinned.checked.prog.looks []/\∀ (j:Nat) t,fn.params[j]? = some t->Tryz.pinned.checked.prog.wantsStandIn t=false:=by
 obtain rfl:f=9:=Option.some.inj ((show Tryz.prog.funcNamed "knapsack/knapsacklaw44.FetchPieces" = some 9 by kernel_rfl).symm.trans hf) |>.symm;obtain rfl:fn=Tryz.f9:=(Option.some.inj (Tryz.func9.symm.trans hfn)).symm;refine ⟨by kernel_rfl,fun j t ht=>?_⟩;rw [Tryz.params9] at ht;have hm:t∈[27,30,75]:=by simpa using Array.mem_of_getElem? ht
 have hall:([27,30,75].all fun u=>!Tryz.prog.wantsStandIn u)=true:=by kernel_rfl
 exact (show Tryz.prog.wantsStandIn t=false by simpa using List.all_eq_true.1 hall t hm)
theorem card:Rows.FetchPiecesUptoCardSaid:=
 Claim7.holds_tied_plain_at .later [] _ _ _ _ said (fun _ h=>by cases h) (by kernel_rfl) (fun _ h=>by cases h) fetchPiecesUpto_row_tie rfl ⟨rfl,rfl⟩ (by kernel_rfl) rfl plain (by kernel_rfl)
end Go.Proofs.YtjdhaacmlpegoaaGreatDoor.fetchPiecesUpto
