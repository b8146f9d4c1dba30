/- Part 1 of what the proof needs: K K2 Shelf. -/
import Derived.WalkLawsBesides
import Derived.Maps.AppendAt
import Derived.Shelf.Strings.OnBuilder
import Derived.Shelf.Strings.Trim
import Derived.Shelf.Small.Utf8
import Derived.Shelf.Small.Wraps
import Derived.Shelf.Strconv.Atoi
import Derived.Shelf.Strconv.AtoiLong
import Derived.Shelf.Strings.Shaped
import Derived.Shelf.Strings.LastIndex
import Derived.Shelf.GgClosure.StringsIndexFuncTop
import Derived.Shelf.Strings.SplitShaped
import Derived.Shelf.Strings.Runes
import Derived.Shelf.Strings.AsciiSet
import Derived.Shelf.Strings.Explode
import Derived.Shelf.Unicode.DecodeSlow
import Derived.Shelf.Strings.BuilderCap
import Derived.Shelf.Slices.Turned
import Derived.Shelf.SlicesE.Index
import Derived.Shelf.Path.Small
import Derived.Test.YtjdhaacmlpegoaaGreatDoorProg
set_option linter.unusedSimpArgs false
set_option linter.unusedVariables false
namespace Go.Proofs.YtjdhaacmlpegoaaGreatDoor
open Go.RowKit
structure SlTy (P:Program)(T E:TypeId)(size bytes:Nat):Prop where
 und:P.underlying T=some (.slice E)
 info:∃ i z,P.info? E=some i/\i.zero=some z/\i.size=size/\i.bytes=bytes/\z.cells.size=size
 pos:0<size
theorem SlTy.mk' {P:Program}{T E:TypeId}{size bytes:Nat}{z:Value}(hu:P.underlying T=some (.slice E))
 (h:(P.info? E).map (fun i=>(i.zero,i.size,i.bytes))=some (some z,size,bytes)) (hz:z.cells.size=size) (hp:0<size):SlTy P T E size bytes:=
 let ⟨i,a,b,c,d⟩:=info_parts h
 ⟨hu,⟨i,z,a,b,c,d,hz⟩,hp⟩
theorem grownBy_trans_alloc {w w':World}{o:Obj}{row:Option Nat}(h:(w.alloc o).grownBy w' row):w.grownBy w' row:=
 ⟨h.os,h.tape,h.output,Nat.le_trans (by simp) h.size,fun k hk hne=>(h.block k (by simp;omega) hne).trans (Below.heap_alloc w o k hk)⟩
theorem cells_new (w:World)(news:List Value)(t:TypeId):∀ j u,news[j]? = some u->(w.alloc (.cells news.toArray t)).cell? ((⟨w.heap.size,0,none⟩:Addr).add j)=some u:=by
 intro j u h;have hadd:(⟨w.heap.size,0,none⟩:Addr).add j=⟨w.heap.size,j,none⟩:=by unfold Addr.add;split <;> simp_all
 rw [hadd,cell_of_row _ w.heap.size j news.toArray t (0,0) (heap_alloc_new w _)];simpa using h
theorem below_own {w w' W:World}{b B e s n:Nat}{v:Value}{xs:List Value}(hb:Below B W w)(h:w.ownsRow b e s v n xs)(hg:w.grownBy w' v.ownBlock)(hBw:B<=w.heap.size)(hB:B<=b):Below B W w':=
 hb.grown hg hBw fun k hk=>by have:=h.lt k hk;omega
theorem own_mono {w:World}{b b' e s n:Nat}{v:Value}{xs:List Value}(h:w.ownsRow b e s v n xs)(hb:b'<=b):w.ownsRow b' e s v n xs:=by
 refine ⟨h.1,?_⟩;rcases h.2 with h2 | ⟨g,cap,cur,hv,hg,r⟩
 ·exact .inl h2
 ·exact .inr ⟨g,cap,cur,hv,by omega,r⟩
theorem own_below {w w':World}{b B e s n:Nat}{v:Value}{xs:List Value}(h:w.ownsRow b e s v n xs)(hb:Below B w w')(hB:w.heap.size<=B):w'.ownsRow b e s v n xs:=by
 refine ⟨h.1,?_⟩;rcases h.2 with h2 | ⟨g,cap,cur,hv,hg,hh,r⟩
 ·exact .inl h2
 ·exact .inr ⟨g,cap,cur,hv,hg,by rw [hb.block g (by have:=(Array.getElem?_eq_some_iff.1 hh).1;omega)];exact hh,r⟩
structure BelowBut (B b:Nat)(w w':World):Prop where
 os:w'.os=w.os
 tape:w'.tape=w.tape
 output:w'.output=w.output
 size:w.heap.size<=w'.heap.size
 block:∀ k,k<B->k≠b->w'.heap[k]? = w.heap[k]?
theorem BelowBut.refl (B b:Nat)(w:World):BelowBut B b w w:=⟨rfl,rfl,rfl,Nat.le_refl _,fun _ _ _=>rfl⟩
theorem BelowBut.below {B b B':Nat}{W w w':World}(h:BelowBut B b W w)(k:Below B' w w')(hB:B<=B'):BelowBut B b W w':=
 ⟨k.os.trans h.os,k.tape.trans h.tape,k.output.trans h.output,Nat.le_trans h.size k.size,fun i hi hb=>(k.block i (by omega)).trans (h.block i hi hb)⟩
theorem BelowBut.alloc {B b:Nat}{W w:World}(h:BelowBut B b W w)(hB:B<=w.heap.size)(o:Obj):BelowBut B b W (w.alloc o):=h.below ((Below.refl _ w).alloc hB o) (Nat.le_refl _)
theorem BelowBut.setCell {B b:Nat}{W w:World}(h:BelowBut B b W w)(p:Addr)(hp:p.block=b\/B<=p.block)(u:Value):BelowBut B b W (w.setCell p u):=
 ⟨h.os,h.tape,h.output,by simp [World.setCell];exact h.size,fun k hk hb=>(Below.heap_setCell w p u k (by omega)).trans (h.block k hk hb)⟩
theorem BelowBut.grown {B b e s n:Nat}{W w w':World}{v:Value}{xs:List Value}(h:BelowBut B b W w)(ho:w.ownsRow B e s v n xs)(hg:w.grownBy w' v.ownBlock)(hB:B<=w.heap.size):BelowBut B b W w':=
 h.below (below_own (Below.refl _ w) ho hg hB (Nat.le_refl _)) (Nat.le_refl _)
theorem BelowBut.cell {B b:Nat}{w w':World}(h:BelowBut B b w w'){p:Addr}(hp:p.block<B)(hb:p.block≠b):w'.cell? p=w.cell? p:=World.cell?_of_block (w:=w) (h.block p.block hp hb)
theorem BelowBut.to_below {B b B':Nat}{W w w':World}(h:BelowBut B b w w')(k:Below B' W w)(hB:B'<=B)(hb:B'<=b):Below B' W w':=
 k.trans ⟨h.os,h.tape,h.output,h.size,fun i hi=>h.block i (by omega) (by omega)⟩
theorem own_reads {w:World}{b e s n:Nat}{v:Value}{xs:List Value}(h:w.ownsRow b e s v n xs):
 ∃ a cap,v = .slice a n cap/\n<=cap/\cap<=maxLen/\((a=none/\n=0)\/∃ g,a=some ⟨g,0,none⟩/\b<=g/\g<w.heap.size/\∀ j u,xs[j]? = some u->w.cell? ⟨g,j,none⟩=some u):=by
 rcases h.2 with ⟨rfl,h2⟩ | ⟨g,cap,cur,rfl,hg,hh,hc,hm,hs,ht⟩
 ·subst h2;exact ⟨none,0,rfl,Nat.le_refl _,by simp [maxLen],.inl ⟨rfl,rfl⟩⟩
 ·refine ⟨some ⟨g,0,none⟩,cap,rfl,hc,hm,.inr ⟨g,rfl,hg,(Array.getElem?_eq_some_iff.1 hh).1,fun j u hu=>?_⟩⟩;have:=h.cells (g:=g) rfl j u hu;have hadd:(⟨g,0,none⟩:Addr).add j=⟨g,j,none⟩:=by unfold Addr.add;split <;> simp_all
  rwa [hadd] at this
theorem lr {n:Nat}:n<=n:=Nat.le_refl n
theorem Ka{α:Sort _}(a:α):∃ x,a=x:=⟨a,rfl⟩
theorem Kb{p:Prop}(h:p):Hid p:=h
theorem Kc{n:Nat}(w:World):Below n w w:=Below.refl n w
theorem Kd{a:Nat}{u v w:World}(h:Below a u v)(k:Below v.heap.size v w)(e:u.heap.size=a:=by rfl):Below a u w:=h.trans (k.mono (e ▸ h.size))
theorem Ke:type_of% @if_neg:=@if_neg
theorem Kf:type_of% @if_pos:=@if_pos
theorem Kg:type_of% @Nat.le_trans:=@Nat.le_trans
theorem Kh:type_of% @Nat.zero_le:=@Nat.zero_le
theorem Ki:type_of% @beq_eq_false_iff_ne:=@beq_eq_false_iff_ne
theorem Kj:type_of% @decide_eq_false:=@decide_eq_false
theorem Kl:type_of% @Nat.le_of_lt:=@Nat.le_of_lt
theorem Km:type_of% @List.set_cons_zero:=@List.set_cons_zero
theorem Ko:type_of% @Nat.lt_of_lt_of_le:=@Nat.lt_of_lt_of_le
theorem Kq:type_of% @congrArg:=@congrArg
theorem Kr:type_of% @List.setIfInBounds_toArray:=@List.setIfInBounds_toArray
theorem Ks:type_of% @List.set_cons_succ:=@List.set_cons_succ
theorem Kt:type_of% @ByteArray.toList_eq:=@ByteArray.toList_eq
theorem Ku:type_of% @Nat.add_zero:=@Nat.add_zero
theorem Kv:type_of% @List.length_cons:=@List.length_cons
theorem Kw:type_of% @List.length_append:=@List.length_append
theorem Kx:type_of% @decide_eq_true:=@decide_eq_true
theorem Ky:type_of% @List.getElem_mem:=@List.getElem_mem
theorem Kz:type_of% @List.mem_append:=@List.mem_append
theorem Ja:type_of% @List.eq_nil_of_length_eq_zero:=@List.eq_nil_of_length_eq_zero
theorem Jb:type_of% @decide_eq_true_eq:=@decide_eq_true_eq
theorem Jc:type_of% @List.mem_singleton:=@List.mem_singleton
theorem Jd:type_of% @List.getElem?_eq_getElem:=@List.getElem?_eq_getElem
theorem Je:type_of% @List.append_nil:=@List.append_nil
theorem Jf:type_of% @List.take_succ_eq_append_getElem:=@List.take_succ_eq_append_getElem
theorem Jg:type_of% @List.mem_cons_of_mem:=@List.mem_cons_of_mem
theorem Jh:type_of% @Bool.and_eq_true:=@Bool.and_eq_true
theorem Ji:type_of% @List.mem_cons:=@List.mem_cons
theorem Jj:type_of% @List.append_assoc:=@List.append_assoc
theorem Jk:type_of% @List.length_take:=@List.length_take
theorem Jl:type_of% @Nat.le_of_eq:=@Nat.le_of_eq
theorem Jm:type_of% @Nat.zero_add:=@Nat.zero_add
theorem Jn:type_of% @List.cons_append:=@List.cons_append
theorem Jo:type_of% @Nat.le_succ:=@Nat.le_succ
theorem Jp:type_of% @List.nil_append:=@List.nil_append
theorem Jq:type_of% @List.take_length:=@List.take_length
theorem Js:type_of% @Option.some.injEq:=@Option.some.injEq
theorem Jt:type_of% @List.take_append_drop:=@List.take_append_drop
theorem Ju:type_of% @beq_iff_eq:=@beq_iff_eq
theorem Jv:type_of% @List.all_eq_true:=@List.all_eq_true
theorem Jw:type_of% @List.map_cons:=@List.map_cons
theorem Jy:type_of% @List.length_drop:=@List.length_drop
theorem Jz:type_of% @List.mem_cons_self:=@List.mem_cons_self
theorem Za:type_of% @List.length_map:=@List.length_map
theorem Zb:type_of% @List.take_of_length_le:=@List.take_of_length_le
theorem Zc:type_of% @List.mem_map_of_mem:=@List.mem_map_of_mem
theorem Zd:type_of% @Nat.min_eq_left:=@Nat.min_eq_left
theorem Ze:type_of% @List.dropWhile_cons:=@List.dropWhile_cons
theorem Zf:type_of% @Nat.le_refl:=@Nat.le_refl
theorem Zg:type_of% @List.length_nil:=@List.length_nil
theorem Zh:type_of% @List.getElem?_map:=@List.getElem?_map
theorem Zi:type_of% @List.map_append:=@List.map_append
theorem Zj:type_of% @List.length_filter_le:=@List.length_filter_le
theorem Zk:type_of% @List.length_set:=@List.length_set
theorem Zl:type_of% @Option.some.inj:=@Option.some.inj
theorem Zm:type_of% @Bool.eq_iff_iff:=@Bool.eq_iff_iff
theorem Zn:type_of% @Nat.lt_or_ge:=@Nat.lt_or_ge
theorem Zo:type_of% @List.not_mem_nil:=@List.not_mem_nil
theorem Zp:type_of% @List.mem_filter:=@List.mem_filter
theorem Zq:type_of% @Nat.mul_le_mul_right:=@Nat.mul_le_mul_right
theorem Zr:type_of% @List.drop_drop:=@List.drop_drop
theorem Zs:type_of% @List.filter_append:=@List.filter_append
theorem Zt:type_of% @List.map_nil:=@List.map_nil
theorem Zu:type_of% @List.drop_eq_getElem_cons:=@List.drop_eq_getElem_cons
theorem Zv:type_of% @List.isEmpty_iff:=@List.isEmpty_iff
theorem Zw:type_of% @List.dropWhile_sublist:=@List.dropWhile_sublist
theorem Zx:type_of% @List.cons.inj:=@List.cons.inj
theorem Zy:type_of% @decide_eq_false_iff_not:=@decide_eq_false_iff_not
theorem Zz:type_of% @List.all_cons:=@List.all_cons
theorem Xa:type_of% @List.singleton_append:=@List.singleton_append
theorem Xc:type_of% @List.foldl_cons:=@List.foldl_cons
theorem Xe:type_of% @List.getElem_of_mem:=@List.getElem_of_mem
theorem Xf:type_of% @List.length_pos_iff:=@List.length_pos_iff
theorem Xg:type_of% @Array.getD_eq_getD_getElem?:=@Array.getD_eq_getD_getElem?
theorem Xh:type_of% @of_decide_eq_true:=@of_decide_eq_true
theorem Xi:type_of% @List.getElem?_eq_some_iff:=@List.getElem?_eq_some_iff
theorem Xj:type_of% @List.foldl_append:=@List.foldl_append
theorem Xk:type_of% @List.mem_of_mem_take:=@List.mem_of_mem_take
theorem Xl:type_of% @List.getElem?_cons_succ:=@List.getElem?_cons_succ
theorem Xm:type_of% @List.length_reverse:=@List.length_reverse
theorem Xn:type_of% @Bool.eq_false_or_eq_true:=@Bool.eq_false_or_eq_true
theorem Xo:type_of% @List.length_singleton:=@List.length_singleton
theorem Xp:type_of% @List.cons_prefix_cons:=@List.cons_prefix_cons
theorem Xq:type_of% @Array.getElem?_eq_some_iff:=@Array.getElem?_eq_some_iff
theorem Xr:type_of% @List.mem_of_mem_eraseIdx:=@List.mem_of_mem_eraseIdx
theorem run_append_where {P:Program}(w:World)(base:Nat)(t ty e:TypeId)(i:TypeInfo)(z:Value)(size bytes:Nat)(ht:P.underlying t=some (.slice e))(hi:P.info? e=some i)(hz:i.zero=some z)
 (hsize:i.size=size) (hby:i.bytes=bytes) (hzs:z.cells.size=size) (hsz:0<size)
 (v:Value) (n:Nat) (xs:List Value) (hown:w.ownsRow base e size v n xs)
 (a:Addr) (m c:Nat) (news:List Value) (hl:news.length=m * size) (hnews:∀ j u,news[j]? = some u->w.cell? (a.add j)=some u) (h1:∀ u∈news,u.oneCell'=true)
 (h63:n+m<=maxLen) (hbytes:(n+m) * bytes<=140737488355328) (hbase:base<=w.heap.size) (hm:0<m) :
 ∃ v' w', (Builtin.append_ #[t, t] ty #[v, .slice (some a) m c]).run P w = .ok v' w' ∧ w'.ownsRow base e size v' (n + m) (xs ++ news) ∧ w.grownBy w' v.ownBlock ∧
   ∃ g,v'.ownBlock=some g/\(v.ownBlock=some g\/w.heap.size<=g):=by
 obtain ⟨v',w',hr,h2,h3,_⟩:=run_append_own (P:=P) w base t ty e i z size bytes ht hi hz hsize hby hzs hsz v n xs hown a m c news hl hnews h1 h63 hbytes hbase;refine ⟨v',w',hr,h2,h3,?_⟩;subst hsize hby;rcases hown.2 with ⟨rfl,rfl⟩ | ⟨g,cap,cur,rfl,hbg,hg,hnc,hcm,hcs,htake⟩
 ·have hq:=run_append_nil (P:=P) w t ty e i z ht hi hz a m c news hl hnews hm (by unfold maxLen at h63;omega) (by simp only [Jm] at hbytes;omega);rw [hq] at hr;injection hr with hv _;subst hv;exact ⟨_,rfl,.inr lr⟩
 ·by_cases hroom:n+m<=cap
  ·have hq:=run_append_room (P:=P) w t ty e i ht hi g n cap cur hg a m c news hl hnews h1 hroom (by rw [hl,hcs,<-Nat.add_mul];exact Zq _ hroom);rw [hq] at hr;injection hr with hv _;subst hv;exact ⟨_,rfl,.inl rfl⟩
  ·have hq:=run_append_grow (P:=P) w t ty e i z ht hi hz ⟨g,0,none⟩ n cap xs hown.1 (hown.cells (g:=g) rfl) a m c news hl hnews (by omega) (by unfold maxLen at h63;omega) (growslice_fits (by omega) hbytes);rw [hq] at hr;injection hr with hv _;subst hv;exact ⟨_,rfl,.inr lr⟩
theorem N53{p:Prop}(h:p:=by
 obtain ⟨v',w',hr,k2,k3,g,k4,k5⟩:=run_append_where (P:=P) (W0.alloc (.cells news.toArray E)) B T o.type E i z size bytes hu hi hz h2 h3 h4 hp v n xs (hown.alloc _) ⟨W0.heap.size,0,none⟩ m m news hl (cells_new W0 news E) h1
  (by unfold maxLen;omega) hb (by simp;omega) hm
 unfold Oper.wp execOp;simp only [ho,resolve,invoke,builtin,Sem.run_bind,Sem.run_pure,Result.andThen_ok,List.map_toArray,Jw,Zt,hs,hx,hr]
 first
  |exact hK _ _ (h v' w' k2 (grownBy_trans_alloc k3) ⟨g,k4,k5.imp id (by simp;omega)⟩)
  |refine hK _ _ (h v' w' k2 ?_ fun g' hg=>?_)
   ·exact (hal.mono hN).grown k3 (by simp;omega) fun k hk=>by have:=hv k hk;omega
   ·rw [k4] at hg;injection hg with hg;subst hg;rcases k5 with k5 | k5
    ·exact .inl k5
    ·simp at k5;exact .inr (by omega)
 ):p:=h
theorem app2 {P:Program}{T E size bytes:Nat}(ty:SlTy P T E size bytes)(W0:World){ops:Array Oper}{rest:List Oper}{o:Oper}{a:Act}{Q:Exit->Act->World->Prop}
 (hgd:o.guard=none) (s x:Operand) (ho:o.op = .call { callee:=.builtin .append,args:=#[s,x],argTypes:=#[T,T] })
 (B:Nat) (v:Value) (n:Nat) (xs:List Value) (hs:a.eval s=v) (hown:W0.ownsRow B E size v n xs) (news:List Value) (m:Nat)
 (kk:Nat) (hx:a.eval x = .slice (some ⟨kk,0,none⟩) m m) (hkk:kk=W0.heap.size) (hl:news.length=m * size) (h1:∀ u∈news,u.oneCell'=true)
 (hm:0<m) (hb:(n+m) * bytes<=140737488355328) (hn:n+m<=140737488355328) (hB:B<=W0.heap.size)
 (h:∀ v' w',w'.ownsRow B E size v' (n+m) (xs ++ news)->W0.grownBy w' v.ownBlock->(∃ g,v'.ownBlock=some g/\(v.ownBlock=some g\/W0.heap.size<g))->wpList P ops Q rest (a.put o.dst v') w') :
 wpList P ops Q (o :: rest) a (W0.alloc (.cells news.toArray E)):=by
 subst hkk;obtain ⟨hu,⟨i,z,hi,hz,h2,h3,h4⟩,hp⟩:=ty;refine wpList_plain hgd fun K hK=>?_
 exact N53
end Go.Proofs.YtjdhaacmlpegoaaGreatDoor
namespace Go.Proofs
open Go.Shelf
def Tryz.lays169_ren : Go.Shelf.Ren := ⟨fun | 169 => 111 | n => n, fun | 70 => 146 | 9 => 9 | 0 => 0 | 72 => 148 | 37 => 68 | 127 => 193 | 3 => 3 | 5 => 5 | n => n, fun | n => n⟩
theorem Tryz.lays169 : Go.Proofs.Lays.n169 Tryz.prog Tryz.lays169_ren := {
 mixed := by kernel_rfl
 f169 := Tryz.func111.trans (congrArg some (by kernel_rfl))
 t0 := Tryz.underlying0
 a0 := Tryz.isAgg0
 z0 := Tryz.sizeOf0
 v0 := Tryz.zeroValue0
 t3 := Tryz.underlying3
 a3 := Tryz.isAgg3
 z3 := Tryz.sizeOf3
 v3 := Tryz.zeroValue3
 t9 := Tryz.underlying9
 a9 := Tryz.isAgg9
 z9 := Tryz.sizeOf9
 v9 := Tryz.zeroValue9
 t37 := Tryz.underlying68
 a37 := Tryz.isAgg68
 z37 := Tryz.sizeOf68
 v37 := Tryz.zeroValue68
 t70 := Tryz.underlying146
 a70 := Tryz.isAgg146
 z70 := Tryz.sizeOf146
 v70 := Tryz.zeroValue146
 t72 := Tryz.underlying148
 a72 := Tryz.isAgg148
 z72 := Tryz.sizeOf148
 v72 := Tryz.zeroValue148
 t127 := Tryz.underlying193
 a127 := Tryz.isAgg193
 z127 := Tryz.sizeOf193
 v127 := Tryz.zeroValue193 }
theorem Tryz.Builder_Extra_169 : Builder.Extra Tryz.prog Tryz.lays169_ren := {
 sizeBuilder := by kernel_rfl
 liesBuilder := by kernel_rfl
 t5 := Tryz.underlying5
 a5 := Tryz.isAgg5
 z5 := Tryz.sizeOf5
 v5 := Tryz.zeroValue5
 infoByte := by kernel_rfl
 cellsByte := by kernel_rfl
 sizeByte := by kernel_rfl
 neB5 := by decide }
def Tryz.lays156_ren : Go.Shelf.Ren := ⟨fun | 156 => 81 | 165 => 131 | 166 => 132 | 169 => 111 | 240 => 161 | 241 => 196 | 276 => 223 | 277 => 245 | n => n, fun | 31 => 75 | 9 => 9 | 3 => 3 | 4 => 4 | 0 => 0 | 20 => 20 | 72 => 148 | 76 => 170 | 70 => 146 | 37 => 68 | 75 => 151 | 127 => 193 | 164 => 233 | 5 => 5 | 80 => 121 | n => n, fun | n => n⟩
theorem Tryz.lays156 : Go.Proofs.Lays.n156 Tryz.prog Tryz.lays156_ren := {
 mixed := by kernel_rfl
 f156 := Tryz.func81.trans (congrArg some (by kernel_rfl))
 f165 := Tryz.func131.trans (congrArg some (by kernel_rfl))
 f166 := Tryz.func132.trans (congrArg some (by kernel_rfl))
 f169 := Tryz.func111.trans (congrArg some (by kernel_rfl))
 f240 := Tryz.func161.trans (congrArg some (by kernel_rfl))
 f241 := Tryz.func196.trans (congrArg some (by kernel_rfl))
 f276 := Tryz.func223.trans (congrArg some (by kernel_rfl))
 f277 := Tryz.func245.trans (congrArg some (by kernel_rfl))
 t0 := Tryz.underlying0
 a0 := Tryz.isAgg0
 z0 := Tryz.sizeOf0
 v0 := Tryz.zeroValue0
 t3 := Tryz.underlying3
 a3 := Tryz.isAgg3
 z3 := Tryz.sizeOf3
 v3 := Tryz.zeroValue3
 t4 := Tryz.underlying4
 a4 := Tryz.isAgg4
 z4 := Tryz.sizeOf4
 v4 := Tryz.zeroValue4
 t9 := Tryz.underlying9
 a9 := Tryz.isAgg9
 z9 := Tryz.sizeOf9
 v9 := Tryz.zeroValue9
 t20 := Tryz.underlying20
 a20 := Tryz.isAgg20
 z20 := Tryz.sizeOf20
 v20 := Tryz.zeroValue20
 t31 := Tryz.underlying75
 a31 := Tryz.isAgg75
 z31 := Tryz.sizeOf75
 v31 := Tryz.zeroValue75
 t37 := Tryz.underlying68
 a37 := Tryz.isAgg68
 z37 := Tryz.sizeOf68
 v37 := Tryz.zeroValue68
 t70 := Tryz.underlying146
 a70 := Tryz.isAgg146
 z70 := Tryz.sizeOf146
 v70 := Tryz.zeroValue146
 t72 := Tryz.underlying148
 a72 := Tryz.isAgg148
 z72 := Tryz.sizeOf148
 v72 := Tryz.zeroValue148
 t75 := Tryz.underlying151
 a75 := Tryz.isAgg151
 z75 := Tryz.sizeOf151
 v75 := Tryz.zeroValue151
 t76 := Tryz.underlying170
 a76 := Tryz.isAgg170
 z76 := Tryz.sizeOf170
 v76 := Tryz.zeroValue170
 t127 := Tryz.underlying193
 a127 := Tryz.isAgg193
 z127 := Tryz.sizeOf193
 v127 := Tryz.zeroValue193
 t164 := Tryz.underlying233
 a164 := Tryz.isAgg233
 z164 := Tryz.sizeOf233
 v164 := Tryz.zeroValue233 }
theorem Tryz.Builder_Extra_156 : Builder.Extra Tryz.prog Tryz.lays156_ren := {
 sizeBuilder := by kernel_rfl
 liesBuilder := by kernel_rfl
 t5 := Tryz.underlying5
 a5 := Tryz.isAgg5
 z5 := Tryz.sizeOf5
 v5 := Tryz.zeroValue5
 infoByte := by kernel_rfl
 cellsByte := by kernel_rfl
 sizeByte := by kernel_rfl
 neB5 := by decide }
open Go.RowKit in
theorem Tryz.strings_Join_none (a : Option Addr) (c : Nat) (sep : ByteArray) (w : World) :
 Calls Tryz.prog 81 #[.slice a 0 c, .string sep] w fun e w' => e = .returned (.string ⟨#[]⟩) ∧ w' = w := Any.strings_Join_none Tryz.lays156 Tryz.Builder_Extra_156 a c sep w
open Go.RowKit in
theorem Tryz.strings_Join (bk o c : Nat) (xs : List ByteArray) (sep : ByteArray) (w : World) (hcells : ∀ (j : Nat) x, xs[j]? = some x → w.cell? ⟨bk, o + j, none⟩ = some (.string x)) (hbk : bk < w.heap.size) (hN : xs.length ≤ 140737488355328) (hcap : xs.length ≤ c) (hlen : (Lib.join (xs.map (·.data.toList)) sep.data.toList).length ≤ 140737488355328) :
 Calls Tryz.prog 81 #[.slice (some ⟨bk, o, none⟩) xs.length c, .string sep] w fun e w' => e = .returned (.string ⟨(Lib.join (xs.map (·.data.toList)) sep.data.toList).toArray⟩) ∧ Below w.heap.size w w' := Any.strings_Join Tryz.lays156 Tryz.Builder_Extra_156 bk o c xs sep w hcells hbk hN hcap hlen
def Tryz.lays161_ren : Go.Shelf.Ren := ⟨fun | 161 => 114 | 231 => 164 | 227 => 165 | 233 => 166 | 235 => 167 | 228 => 224 | 197 => 225 | 151 => 226 | 260 => 254 | 152 => 255 | 137 => 64 | 119 => 264 | 224 => 221 | 225 => 220 | 217 => 113 | 266 => 163 | n => n, fun | 9 => 9 | 4 => 4 | 3 => 3 | 5 => 5 | 117 => 197 | 116 => 196 | 0 => 0 | 124 => 200 | 105 => 235 | 21 => 21 | 119 => 251 | 46 => 153 | 139 => 254 | 138 => 253 | n => n, fun | 3 => 1 | 4 => 2 | n => n⟩
theorem Tryz.lays161 : Go.Proofs.Lays.n161 Tryz.prog Tryz.lays161_ren := {
 mixed := by kernel_rfl
 f119 := Tryz.func264.trans (congrArg some (by kernel_rfl))
 f137 := Tryz.func64.trans (congrArg some (by kernel_rfl))
 f151 := Tryz.func226.trans (congrArg some (by kernel_rfl))
 f152 := Tryz.func255.trans (congrArg some (by kernel_rfl))
 f161 := Tryz.func114.trans (congrArg some (by kernel_rfl))
 f197 := Tryz.func225.trans (congrArg some (by kernel_rfl))
 f217 := Tryz.func113.trans (congrArg some (by kernel_rfl))
 f224 := Tryz.func221.trans (congrArg some (by kernel_rfl))
 f225 := Tryz.func220.trans (congrArg some (by kernel_rfl))
 f227 := Tryz.func165.trans (congrArg some (by kernel_rfl))
 f228 := Tryz.func224.trans (congrArg some (by kernel_rfl))
 f231 := Tryz.func164.trans (congrArg some (by kernel_rfl))
 f233 := Tryz.func166.trans (congrArg some (by kernel_rfl))
 f235 := Tryz.func167.trans (congrArg some (by kernel_rfl))
 f260 := Tryz.func254.trans (congrArg some (by kernel_rfl))
 f266 := Tryz.func163.trans (congrArg some (by kernel_rfl))
 t0 := Tryz.underlying0
 a0 := Tryz.isAgg0
 z0 := Tryz.sizeOf0
 v0 := Tryz.zeroValue0
 t3 := Tryz.underlying3
 a3 := Tryz.isAgg3
 z3 := Tryz.sizeOf3
 v3 := Tryz.zeroValue3
 t4 := Tryz.underlying4
 a4 := Tryz.isAgg4
 z4 := Tryz.sizeOf4
 v4 := Tryz.zeroValue4
 t5 := Tryz.underlying5
 a5 := Tryz.isAgg5
 z5 := Tryz.sizeOf5
 v5 := Tryz.zeroValue5
 t9 := Tryz.underlying9
 a9 := Tryz.isAgg9
 z9 := Tryz.sizeOf9
 v9 := Tryz.zeroValue9
 t21 := Tryz.underlying21
 a21 := Tryz.isAgg21
 z21 := Tryz.sizeOf21
 v21 := Tryz.zeroValue21
 t46 := Tryz.underlying153
 a46 := Tryz.isAgg153
 z46 := Tryz.sizeOf153
 v46 := Tryz.zeroValue153
 t105 := Tryz.underlying235
 a105 := Tryz.isAgg235
 z105 := Tryz.sizeOf235
 v105 := Tryz.zeroValue235
 t116 := Tryz.underlying196
 a116 := Tryz.isAgg196
 z116 := Tryz.sizeOf196
 t117 := Tryz.underlying197
 a117 := Tryz.isAgg197
 z117 := Tryz.sizeOf197
 v117 := Tryz.zeroValue197
 t119 := Tryz.underlying251
 a119 := Tryz.isAgg251
 z119 := Tryz.sizeOf251
 t124 := Tryz.underlying200
 a124 := Tryz.isAgg200
 z124 := Tryz.sizeOf200
 v124 := Tryz.zeroValue200
 t138 := Tryz.underlying253
 a138 := Tryz.isAgg253
 z138 := Tryz.sizeOf253
 v138 := Tryz.zeroValue253
 t139 := Tryz.underlying254
 a139 := Tryz.isAgg254
 z139 := Tryz.sizeOf254
 v139 := Tryz.zeroValue254
 g3 := by kernel_rfl
 g4 := by kernel_rfl }
open Go.RowKit in
theorem Tryz.strings_TrimLeft_one (s : ByteArray) (c : UInt8) (hc : c.toNat < 128) (w : World) :
 Calls Tryz.prog 114 #[.string s, .string ⟨#[c]⟩] w fun e w' => e = .returned (.string ⟨(Lib.trimLeftB s.data.toList c).toArray⟩) ∧ w' = w := Any.strings_TrimLeft_one Tryz.lays161 s c hc w
def Tryz.lays160_ren : Go.Shelf.Ren := ⟨fun | 160 => 134 | 232 => 198 | 231 => 164 | 227 => 165 | 234 => 199 | 233 => 166 | 236 => 200 | 235 => 167 | 228 => 224 | 271 => 246 | 151 => 226 | 197 => 225 | 120 => 262 | 152 => 255 | 260 => 254 | 137 => 64 | 119 => 264 | 224 => 221 | 225 => 220 | 217 => 113 | 266 => 163 | n => n, fun | 9 => 9 | 4 => 4 | 3 => 3 | 5 => 5 | 117 => 197 | 116 => 196 | 0 => 0 | 124 => 200 | 21 => 21 | 105 => 235 | 46 => 153 | 119 => 251 | 139 => 254 | 138 => 253 | n => n, fun | 3 => 1 | 4 => 2 | n => n⟩
theorem Tryz.lays160 : Go.Proofs.Lays.n160 Tryz.prog Tryz.lays160_ren := {
 mixed := by kernel_rfl
 f119 := Tryz.func264.trans (congrArg some (by kernel_rfl))
 f120 := Tryz.func262.trans (congrArg some (by kernel_rfl))
 f137 := Tryz.func64.trans (congrArg some (by kernel_rfl))
 f151 := Tryz.func226.trans (congrArg some (by kernel_rfl))
 f152 := Tryz.func255.trans (congrArg some (by kernel_rfl))
 f160 := Tryz.func134.trans (congrArg some (by kernel_rfl))
 f197 := Tryz.func225.trans (congrArg some (by kernel_rfl))
 f217 := Tryz.func113.trans (congrArg some (by kernel_rfl))
 f224 := Tryz.func221.trans (congrArg some (by kernel_rfl))
 f225 := Tryz.func220.trans (congrArg some (by kernel_rfl))
 f227 := Tryz.func165.trans (congrArg some (by kernel_rfl))
 f228 := Tryz.func224.trans (congrArg some (by kernel_rfl))
 f231 := Tryz.func164.trans (congrArg some (by kernel_rfl))
 f232 := Tryz.func198.trans (congrArg some (by kernel_rfl))
 f233 := Tryz.func166.trans (congrArg some (by kernel_rfl))
 f234 := Tryz.func199.trans (congrArg some (by kernel_rfl))
 f235 := Tryz.func167.trans (congrArg some (by kernel_rfl))
 f236 := Tryz.func200.trans (congrArg some (by kernel_rfl))
 f260 := Tryz.func254.trans (congrArg some (by kernel_rfl))
 f266 := Tryz.func163.trans (congrArg some (by kernel_rfl))
 f271 := Tryz.func246.trans (congrArg some (by kernel_rfl))
 t0 := Tryz.underlying0
 a0 := Tryz.isAgg0
 z0 := Tryz.sizeOf0
 v0 := Tryz.zeroValue0
 t3 := Tryz.underlying3
 a3 := Tryz.isAgg3
 z3 := Tryz.sizeOf3
 v3 := Tryz.zeroValue3
 t4 := Tryz.underlying4
 a4 := Tryz.isAgg4
 z4 := Tryz.sizeOf4
 v4 := Tryz.zeroValue4
 t5 := Tryz.underlying5
 a5 := Tryz.isAgg5
 z5 := Tryz.sizeOf5
 v5 := Tryz.zeroValue5
 t9 := Tryz.underlying9
 a9 := Tryz.isAgg9
 z9 := Tryz.sizeOf9
 v9 := Tryz.zeroValue9
 t21 := Tryz.underlying21
 a21 := Tryz.isAgg21
 z21 := Tryz.sizeOf21
 v21 := Tryz.zeroValue21
 t46 := Tryz.underlying153
 a46 := Tryz.isAgg153
 z46 := Tryz.sizeOf153
 v46 := Tryz.zeroValue153
 t105 := Tryz.underlying235
 a105 := Tryz.isAgg235
 z105 := Tryz.sizeOf235
 v105 := Tryz.zeroValue235
 t116 := Tryz.underlying196
 a116 := Tryz.isAgg196
 z116 := Tryz.sizeOf196
 t117 := Tryz.underlying197
 a117 := Tryz.isAgg197
 z117 := Tryz.sizeOf197
 v117 := Tryz.zeroValue197
 t119 := Tryz.underlying251
 a119 := Tryz.isAgg251
 z119 := Tryz.sizeOf251
 t124 := Tryz.underlying200
 a124 := Tryz.isAgg200
 z124 := Tryz.sizeOf200
 v124 := Tryz.zeroValue200
 t138 := Tryz.underlying253
 a138 := Tryz.isAgg253
 z138 := Tryz.sizeOf253
 v138 := Tryz.zeroValue253
 t139 := Tryz.underlying254
 a139 := Tryz.isAgg254
 z139 := Tryz.sizeOf254
 v139 := Tryz.zeroValue254
 g3 := by kernel_rfl
 g4 := by kernel_rfl }
def Tryz.lays137_ren : Go.Shelf.Ren := ⟨fun | 137 => 64 | 217 => 113 | 266 => 163 | n => n, fun | 9 => 9 | 5 => 5 | 3 => 3 | n => n, fun | n => n⟩
theorem Tryz.lays137 : Go.Proofs.Lays.n137 Tryz.prog Tryz.lays137_ren := {
 mixed := by kernel_rfl
 f137 := Tryz.func64.trans (congrArg some (by kernel_rfl))
 f217 := Tryz.func113.trans (congrArg some (by kernel_rfl))
 f266 := Tryz.func163.trans (congrArg some (by kernel_rfl))
 t3 := Tryz.underlying3
 a3 := Tryz.isAgg3
 z3 := Tryz.sizeOf3
 v3 := Tryz.zeroValue3
 t5 := Tryz.underlying5
 a5 := Tryz.isAgg5
 z5 := Tryz.sizeOf5
 v5 := Tryz.zeroValue5
 t9 := Tryz.underlying9
 a9 := Tryz.isAgg9
 z9 := Tryz.sizeOf9
 v9 := Tryz.zeroValue9 }
open Go.RowKit in
theorem Tryz.strings_IndexByte (s : ByteArray) (c : Int) (w : World) :
 Calls Tryz.prog 64 #[.string s, .int .u8 c] w fun e w' => e = .returned (.int .i64 (Lib.indexByte s.data.toList c.toNat.toUInt8)) ∧ w' = w := Any.strings_IndexByte Tryz.lays137 s c w
def Tryz.lays103_ren : Go.Shelf.Ren := ⟨fun | 103 => 63 | 210 => 112 | 206 => 162 | n => n, fun | 9 => 9 | 4 => 4 | 24 => 45 | 3 => 3 | n => n, fun | n => n⟩
theorem Tryz.lays103 : Go.Proofs.Lays.n103 Tryz.prog Tryz.lays103_ren := {
 mixed := by kernel_rfl
 f103 := Tryz.func63.trans (congrArg some (by kernel_rfl))
 f206 := Tryz.func162.trans (congrArg some (by kernel_rfl))
 f210 := Tryz.func112.trans (congrArg some (by kernel_rfl))
 t3 := Tryz.underlying3
 a3 := Tryz.isAgg3
 z3 := Tryz.sizeOf3
 v3 := Tryz.zeroValue3
 t4 := Tryz.underlying4
 a4 := Tryz.isAgg4
 z4 := Tryz.sizeOf4
 v4 := Tryz.zeroValue4
 t9 := Tryz.underlying9
 a9 := Tryz.isAgg9
 z9 := Tryz.sizeOf9
 v9 := Tryz.zeroValue9
 t24 := Tryz.underlying45
 a24 := Tryz.isAgg45
 z24 := Tryz.sizeOf45
 v24 := Tryz.zeroValue45 }
open Go.RowKit in
theorem Tryz.strings_CutPrefix (s p : ByteArray) (w : World) :
 Calls Tryz.prog 63 #[.string s, .string p] w fun e w' => e = .returned (.tuple #[.string ⟨(Lib.trimPrefix s.data.toList p.data.toList).toArray⟩, .bool (Lib.hasPrefix s.data.toList p.data.toList)]) ∧ w' = w := Any.strings_CutPrefix Tryz.lays103 s p w
open Go.RowKit in
theorem Tryz.Builder_String_any_k (B b : Nat) (l : List UInt8) (w : World) (h : Lib.IsBuilderF 148 5 B b (Lib.byteCells l) w) (hBw : B ≤ w.heap.size) :
 Calls Tryz.prog 111 #[.pointer (some ⟨b, 0, none⟩)] w fun e w' => e = .returned (.string ⟨l.toArray⟩) ∧ (Lib.IsBuilderF 148 5 B b (Lib.byteCells l) w' ∧ Below B w w' ∧ Lib.OthersKept 5 (some b) w w') := Any.Builder_String_any_k Tryz.lays169 Tryz.Builder_Extra_169 B b l w h hBw
def Tryz.lays172_ren : Go.Shelf.Ren := ⟨fun | 172 => 265 | 244 => 267 | 245 => 268 | 247 => 269 | 279 => 270 | 280 => 271 | 281 => 272 | 282 => 273 | 287 => 274 | 316 => 275 | 171 => 277 | 205 => 276 | 321 => 278 | 322 => 279 | 243 => 280 | 246 => 281 | 283 => 282 | 284 => 283 | 285 => 284 | 286 => 285 | 129 => 287 | 317 => 286 | 318 => 288 | 319 => 289 | 320 => 290 | 337 => 291 | 338 => 292 | n => n, fun | 9 => 9 | 3 => 3 | 75 => 151 | 76 => 170 | 4 => 4 | 5 => 5 | 167 => 257 | 37 => 68 | 0 => 0 | 85 => 258 | 2 => 2 | 168 => 260 | 53 => 263 | 175 => 264 | 46 => 153 | 210 => 267 | 127 => 193 | 145 => 273 | 143 => 271 | 21 => 21 | 171 => 275 | 173 => 278 | 212 => 281 | 51 => 246 | 20 => 20 | 213 => 282 | 232 => 285 | 233 => 286 | 80 => 121 | n => n, fun | 15 => 3 | 16 => 4 | 17 => 5 | 18 => 6 | 19 => 7 | n => n⟩
theorem Tryz.lays172 : Go.Proofs.Lays.n172 Tryz.prog Tryz.lays172_ren := {
 mixed := by kernel_rfl
 f129 := Tryz.func287.trans (congrArg some (by kernel_rfl))
 f171 := Tryz.func277.trans (congrArg some (by kernel_rfl))
 f172 := Tryz.func265.trans (congrArg some (by kernel_rfl))
 f205 := Tryz.func276.trans (congrArg some (by kernel_rfl))
 f243 := Tryz.func280.trans (congrArg some (by kernel_rfl))
 f244 := Tryz.func267.trans (congrArg some (by kernel_rfl))
 f245 := Tryz.func268.trans (congrArg some (by kernel_rfl))
 f246 := Tryz.func281.trans (congrArg some (by kernel_rfl))
 f247 := Tryz.func269.trans (congrArg some (by kernel_rfl))
 f279 := Tryz.func270.trans (congrArg some (by kernel_rfl))
 f280 := Tryz.func271.trans (congrArg some (by kernel_rfl))
 f281 := Tryz.func272.trans (congrArg some (by kernel_rfl))
 f282 := Tryz.func273.trans (congrArg some (by kernel_rfl))
 f283 := Tryz.func282.trans (congrArg some (by kernel_rfl))
 f284 := Tryz.func283.trans (congrArg some (by kernel_rfl))
 f285 := Tryz.func284.trans (congrArg some (by kernel_rfl))
 f286 := Tryz.func285.trans (congrArg some (by kernel_rfl))
 f287 := Tryz.func274.trans (congrArg some (by kernel_rfl))
 f316 := Tryz.func275.trans (congrArg some (by kernel_rfl))
 f317 := Tryz.func286.trans (congrArg some (by kernel_rfl))
 f318 := Tryz.func288.trans (congrArg some (by kernel_rfl))
 f319 := Tryz.func289.trans (congrArg some (by kernel_rfl))
 f320 := Tryz.func290.trans (congrArg some (by kernel_rfl))
 f321 := Tryz.func278.trans (congrArg some (by kernel_rfl))
 f322 := Tryz.func279.trans (congrArg some (by kernel_rfl))
 f337 := Tryz.func291.trans (congrArg some (by kernel_rfl))
 f338 := Tryz.func292.trans (congrArg some (by kernel_rfl))
 t0 := Tryz.underlying0
 a0 := Tryz.isAgg0
 z0 := Tryz.sizeOf0
 v0 := Tryz.zeroValue0
 t2 := Tryz.underlying2
 a2 := Tryz.isAgg2
 z2 := Tryz.sizeOf2
 v2 := Tryz.zeroValue2
 t3 := Tryz.underlying3
 a3 := Tryz.isAgg3
 z3 := Tryz.sizeOf3
 v3 := Tryz.zeroValue3
 t4 := Tryz.underlying4
 a4 := Tryz.isAgg4
 z4 := Tryz.sizeOf4
 v4 := Tryz.zeroValue4
 t5 := Tryz.underlying5
 a5 := Tryz.isAgg5
 z5 := Tryz.sizeOf5
 v5 := Tryz.zeroValue5
 t9 := Tryz.underlying9
 a9 := Tryz.isAgg9
 z9 := Tryz.sizeOf9
 v9 := Tryz.zeroValue9
 t20 := Tryz.underlying20
 a20 := Tryz.isAgg20
 z20 := Tryz.sizeOf20
 v20 := Tryz.zeroValue20
 t21 := Tryz.underlying21
 a21 := Tryz.isAgg21
 z21 := Tryz.sizeOf21
 v21 := Tryz.zeroValue21
 t37 := Tryz.underlying68
 a37 := Tryz.isAgg68
 z37 := Tryz.sizeOf68
 v37 := Tryz.zeroValue68
 t46 := Tryz.underlying153
 a46 := Tryz.isAgg153
 z46 := Tryz.sizeOf153
 v46 := Tryz.zeroValue153
 t51 := Tryz.underlying246
 a51 := Tryz.isAgg246
 z51 := Tryz.sizeOf246
 v51 := Tryz.zeroValue246
 t53 := Tryz.underlying263
 a53 := Tryz.isAgg263
 z53 := Tryz.sizeOf263
 v53 := Tryz.zeroValue263
 t75 := Tryz.underlying151
 a75 := Tryz.isAgg151
 z75 := Tryz.sizeOf151
 v75 := Tryz.zeroValue151
 t76 := Tryz.underlying170
 a76 := Tryz.isAgg170
 z76 := Tryz.sizeOf170
 v76 := Tryz.zeroValue170
 t85 := Tryz.underlying258
 a85 := Tryz.isAgg258
 z85 := Tryz.sizeOf258
 v85 := Tryz.zeroValue258
 t127 := Tryz.underlying193
 a127 := Tryz.isAgg193
 z127 := Tryz.sizeOf193
 v127 := Tryz.zeroValue193
 t143 := Tryz.underlying271
 a143 := Tryz.isAgg271
 z143 := Tryz.sizeOf271
 v143 := Tryz.zeroValue271
 t145 := Tryz.underlying273
 a145 := Tryz.isAgg273
 z145 := Tryz.sizeOf273
 v145 := Tryz.zeroValue273
 t167 := Tryz.underlying257
 a167 := Tryz.isAgg257
 z167 := Tryz.sizeOf257
 v167 := Tryz.zeroValue257
 t168 := Tryz.underlying260
 a168 := Tryz.isAgg260
 z168 := Tryz.sizeOf260
 v168 := Tryz.zeroValue260
 t171 := Tryz.underlying275
 a171 := Tryz.isAgg275
 z171 := Tryz.sizeOf275
 v171 := Tryz.zeroValue275
 t173 := Tryz.underlying278
 a173 := Tryz.isAgg278
 z173 := Tryz.sizeOf278
 v173 := Tryz.zeroValue278
 t175 := Tryz.underlying264
 a175 := Tryz.isAgg264
 z175 := Tryz.sizeOf264
 v175 := Tryz.zeroValue264
 t210 := Tryz.underlying267
 a210 := Tryz.isAgg267
 z210 := Tryz.sizeOf267
 v210 := Tryz.zeroValue267
 t212 := Tryz.underlying281
 a212 := Tryz.isAgg281
 z212 := Tryz.sizeOf281
 v212 := Tryz.zeroValue281
 t213 := Tryz.underlying282
 a213 := Tryz.isAgg282
 z213 := Tryz.sizeOf282
 t232 := Tryz.underlying285
 a232 := Tryz.isAgg285
 z232 := Tryz.sizeOf285
 v232 := Tryz.zeroValue285
 t233 := Tryz.underlying286
 a233 := Tryz.isAgg286
 z233 := Tryz.sizeOf286
 v233 := Tryz.zeroValue286
 g15 := by kernel_rfl
 g16 := by kernel_rfl
 g17 := by kernel_rfl
 g18 := by kernel_rfl
 g19 := by kernel_rfl }
open Go.RowKit in
theorem Tryz.strconv_Atoi (s : ByteArray) (n : Int) (hl : s.size ≤ 18) (h : Lib.atoi s.data.toList = some n) (w : World) :
 Calls Tryz.prog 265 #[.string s] w fun e w' => e = .returned (.tuple #[.int .i64 n, .nilIface]) ∧ ∃ t, w' = Lib.bytesWorld w 5 t := Any.strconv_Atoi Tryz.lays172 s n hl h w
def Tryz.lays144_ren : Go.Shelf.Ren := ⟨fun | 144 => 177 | 143 => 229 | 219 => 159 | 217 => 113 | 225 => 220 | 224 => 221 | 267 => 222 | 266 => 163 | 314 => 253 | n => n, fun | 9 => 9 | 4 => 4 | 3 => 3 | 5 => 5 | 46 => 153 | 146 => 247 | 51 => 246 | n => n, fun | 1 => 0 | n => n⟩
theorem Tryz.lays144 : Go.Proofs.Lays.n144 Tryz.prog Tryz.lays144_ren := {
 mixed := by kernel_rfl
 f143 := Tryz.func229.trans (congrArg some (by kernel_rfl))
 f144 := Tryz.func177.trans (congrArg some (by kernel_rfl))
 f217 := Tryz.func113.trans (congrArg some (by kernel_rfl))
 f219 := Tryz.func159.trans (congrArg some (by kernel_rfl))
 f224 := Tryz.func221.trans (congrArg some (by kernel_rfl))
 f225 := Tryz.func220.trans (congrArg some (by kernel_rfl))
 f266 := Tryz.func163.trans (congrArg some (by kernel_rfl))
 f267 := Tryz.func222.trans (congrArg some (by kernel_rfl))
 f314 := Tryz.func253.trans (congrArg some (by kernel_rfl))
 t3 := Tryz.underlying3
 a3 := Tryz.isAgg3
 z3 := Tryz.sizeOf3
 v3 := Tryz.zeroValue3
 t4 := Tryz.underlying4
 a4 := Tryz.isAgg4
 z4 := Tryz.sizeOf4
 v4 := Tryz.zeroValue4
 t5 := Tryz.underlying5
 a5 := Tryz.isAgg5
 z5 := Tryz.sizeOf5
 v5 := Tryz.zeroValue5
 t9 := Tryz.underlying9
 a9 := Tryz.isAgg9
 z9 := Tryz.sizeOf9
 v9 := Tryz.zeroValue9
 t46 := Tryz.underlying153
 a46 := Tryz.isAgg153
 z46 := Tryz.sizeOf153
 v46 := Tryz.zeroValue153
 t51 := Tryz.underlying246
 a51 := Tryz.isAgg246
 z51 := Tryz.sizeOf246
 v51 := Tryz.zeroValue246
 t146 := Tryz.underlying247
 a146 := Tryz.isAgg247
 z146 := Tryz.sizeOf247
 v146 := Tryz.zeroValue247
 g1 := by kernel_rfl }
open Go.RowKit Go.Lib in
theorem Tryz.strings_Contains_one (s : ByteArray) (c : UInt8) (w : World) :
 Calls Tryz.prog 177 #[.string s, .string ⟨#[c]⟩] w fun e w' => e = .returned (.bool (decide (0 ≤ Lib.indexByte s.data.toList c))) ∧ w' = w := Any.strings_Contains_one Tryz.lays144 s c w
def Tryz.lays145_ren : Go.Shelf.Ren := ⟨fun | 145 => 60 | 220 => 107 | 219 => 159 | 217 => 113 | 225 => 220 | 224 => 221 | 267 => 222 | 266 => 163 | 314 => 253 | n => n, fun | 9 => 9 | 4 => 4 | 59 => 109 | 3 => 3 | 5 => 5 | 46 => 153 | 146 => 247 | 51 => 246 | n => n, fun | 1 => 0 | n => n⟩
theorem Tryz.lays145 : Go.Proofs.Lays.n145 Tryz.prog Tryz.lays145_ren := {
 mixed := by kernel_rfl
 f145 := Tryz.func60.trans (congrArg some (by kernel_rfl))
 f217 := Tryz.func113.trans (congrArg some (by kernel_rfl))
 f219 := Tryz.func159.trans (congrArg some (by kernel_rfl))
 f220 := Tryz.func107.trans (congrArg some (by kernel_rfl))
 f224 := Tryz.func221.trans (congrArg some (by kernel_rfl))
 f225 := Tryz.func220.trans (congrArg some (by kernel_rfl))
 f266 := Tryz.func163.trans (congrArg some (by kernel_rfl))
 f267 := Tryz.func222.trans (congrArg some (by kernel_rfl))
 f314 := Tryz.func253.trans (congrArg some (by kernel_rfl))
 t3 := Tryz.underlying3
 a3 := Tryz.isAgg3
 z3 := Tryz.sizeOf3
 v3 := Tryz.zeroValue3
 t4 := Tryz.underlying4
 a4 := Tryz.isAgg4
 z4 := Tryz.sizeOf4
 v4 := Tryz.zeroValue4
 t5 := Tryz.underlying5
 a5 := Tryz.isAgg5
 z5 := Tryz.sizeOf5
 v5 := Tryz.zeroValue5
 t9 := Tryz.underlying9
 a9 := Tryz.isAgg9
 z9 := Tryz.sizeOf9
 v9 := Tryz.zeroValue9
 t46 := Tryz.underlying153
 a46 := Tryz.isAgg153
 z46 := Tryz.sizeOf153
 v46 := Tryz.zeroValue153
 t51 := Tryz.underlying246
 a51 := Tryz.isAgg246
 z51 := Tryz.sizeOf246
 v51 := Tryz.zeroValue246
 t59 := Tryz.underlying109
 a59 := Tryz.isAgg109
 z59 := Tryz.sizeOf109
 v59 := Tryz.zeroValue109
 t146 := Tryz.underlying247
 a146 := Tryz.isAgg247
 z146 := Tryz.sizeOf247
 v146 := Tryz.zeroValue247
 g1 := by kernel_rfl }
open Go.RowKit Go.Lib in
theorem Tryz.strings_Cut (s sep : ByteArray) (m : Int) (w : World) (hs : s.size < 4294967281) (hm : w.cell? ⟨0, 0, none⟩ = some (.int .i64 m)) :
 Calls Tryz.prog 60 #[.string s, .string sep] w fun e w' => e = .returned (.tuple #[.string ⟨(Lib.cut s.data.toList sep.data.toList).1.toArray⟩, .string ⟨(Lib.cut s.data.toList sep.data.toList).2.1.toArray⟩, .bool (Lib.cut s.data.toList sep.data.toList).2.2]) ∧ ∃ n, w' = w.drewN n := Any.strings_Cut Tryz.lays145 s sep m w hs hm
def Tryz.lays149_ren : Go.Shelf.Ren := ⟨fun | 149 => 236 | 222 => 261 | n => n, fun | 9 => 9 | 5 => 5 | 3 => 3 | 4 => 4 | n => n, fun | n => n⟩
theorem Tryz.lays149 : Go.Proofs.Lays.n149 Tryz.prog Tryz.lays149_ren := {
 mixed := by kernel_rfl
 f149 := Tryz.func236.trans (congrArg some (by kernel_rfl))
 f222 := Tryz.func261.trans (congrArg some (by kernel_rfl))
 t3 := Tryz.underlying3
 a3 := Tryz.isAgg3
 z3 := Tryz.sizeOf3
 v3 := Tryz.zeroValue3
 t4 := Tryz.underlying4
 a4 := Tryz.isAgg4
 z4 := Tryz.sizeOf4
 v4 := Tryz.zeroValue4
 t5 := Tryz.underlying5
 a5 := Tryz.isAgg5
 z5 := Tryz.sizeOf5
 v5 := Tryz.zeroValue5
 t9 := Tryz.underlying9
 a9 := Tryz.isAgg9
 z9 := Tryz.sizeOf9
 v9 := Tryz.zeroValue9 }
open Go.RowKit Go.Lib in
theorem Tryz.strings_LastIndexByte (s : ByteArray) (c : Int) (hs : s.size < 4611686018427387904) (w : World) :
 Calls Tryz.prog 236 #[.string s, .int .u8 c] w fun e w' => e = .returned (.int .i64 (Lib.lastIndexByte s c)) ∧ w' = w := Any.strings_LastIndexByte Tryz.lays149 s c hs w
def Tryz.laysGw17_ren : Go.Shelf.Ren := ⟨fun | 17 => 234 | 15 => 260 | 20 => 266 | n => n, fun | 9 => 9 | 23 => 240 | 4 => 4 | 3 => 3 | 0 => 0 | 21 => 21 | n => n, fun | n => n⟩
theorem Tryz.laysGw17 : Go.Proofs.LaysGw.n17 Tryz.prog Tryz.laysGw17_ren := {
 mixed := by kernel_rfl
 f15 := Tryz.func260.trans (congrArg some (by kernel_rfl))
 f17 := Tryz.func234.trans (congrArg some (by kernel_rfl))
 f20 := Tryz.func266.trans (congrArg some (by kernel_rfl))
 t0 := Tryz.underlying0
 a0 := Tryz.isAgg0
 z0 := Tryz.sizeOf0
 v0 := Tryz.zeroValue0
 i0 := by kernel_rfl
 t3 := Tryz.underlying3
 a3 := Tryz.isAgg3
 z3 := Tryz.sizeOf3
 v3 := Tryz.zeroValue3
 i3 := by kernel_rfl
 t4 := Tryz.underlying4
 a4 := Tryz.isAgg4
 z4 := Tryz.sizeOf4
 v4 := Tryz.zeroValue4
 i4 := by kernel_rfl
 t9 := Tryz.underlying9
 a9 := Tryz.isAgg9
 z9 := Tryz.sizeOf9
 v9 := Tryz.zeroValue9
 i9 := by kernel_rfl
 t21 := Tryz.underlying21
 a21 := Tryz.isAgg21
 z21 := Tryz.sizeOf21
 v21 := Tryz.zeroValue21
 i21 := by kernel_rfl
 t23 := Tryz.underlying240
 a23 := Tryz.isAgg240
 z23 := Tryz.sizeOf240
 v23 := Tryz.zeroValue240
 i23 := by kernel_rfl }
open Go.RowKit Go.Lib in
theorem Tryz.strings_ContainsFunc (g : Nat) (lb : Array Value) (eg : ∀ args w, (callFunc g args).run Tryz.prog w = .ok (.enter g args) w) (p : Nat → Bool) (s : ByteArray) (w : World) (hp : PredAt Tryz.prog g lb encR p w) :
 Calls Tryz.prog 234 #[.string s, .func (.func g) #[] lb] w fun e w' => e = .returned (.bool (decide (0 ≤ Lib.idxFunc p true s))) ∧ Below w.heap.size w w' := Any.strings_ContainsFunc Tryz.laysGw17 g lb eg p s w hp
def Tryz.lays99_ren : Go.Shelf.Ren := ⟨fun | 99 => 176 | 206 => 162 | n => n, fun | 9 => 9 | 4 => 4 | 3 => 3 | n => n, fun | n => n⟩
theorem Tryz.lays99 : Go.Proofs.Lays.n99 Tryz.prog Tryz.lays99_ren := {
 mixed := by kernel_rfl
 f99 := Tryz.func176.trans (congrArg some (by kernel_rfl))
 f206 := Tryz.func162.trans (congrArg some (by kernel_rfl))
 t3 := Tryz.underlying3
 a3 := Tryz.isAgg3
 z3 := Tryz.sizeOf3
 v3 := Tryz.zeroValue3
 t4 := Tryz.underlying4
 a4 := Tryz.isAgg4
 z4 := Tryz.sizeOf4
 v4 := Tryz.zeroValue4
 t9 := Tryz.underlying9
 a9 := Tryz.isAgg9
 z9 := Tryz.sizeOf9
 v9 := Tryz.zeroValue9 }
open Go.RowKit Go.Lib in
theorem Tryz.strings_HasPrefix (s p : ByteArray) (w : World) :
 Calls Tryz.prog 176 #[.string s, .string p] w fun e w' => e = .returned (.bool (Lib.hasPrefix s.data.toList p.data.toList)) ∧ w' = w := Any.strings_HasPrefix Tryz.lays99 s p w
def Tryz.lays100_ren : Go.Shelf.Ren := ⟨fun | 100 => 133 | 207 => 197 | n => n, fun | 9 => 9 | 4 => 4 | 3 => 3 | n => n, fun | n => n⟩
theorem Tryz.lays100 : Go.Proofs.Lays.n100 Tryz.prog Tryz.lays100_ren := {
 mixed := by kernel_rfl
 f100 := Tryz.func133.trans (congrArg some (by kernel_rfl))
 f207 := Tryz.func197.trans (congrArg some (by kernel_rfl))
 t3 := Tryz.underlying3
 a3 := Tryz.isAgg3
 z3 := Tryz.sizeOf3
 v3 := Tryz.zeroValue3
 t4 := Tryz.underlying4
 a4 := Tryz.isAgg4
 z4 := Tryz.sizeOf4
 v4 := Tryz.zeroValue4
 t9 := Tryz.underlying9
 a9 := Tryz.isAgg9
 z9 := Tryz.sizeOf9
 v9 := Tryz.zeroValue9 }
open Go.RowKit Go.Lib in
theorem Tryz.strings_HasSuffix (s p : ByteArray) (w : World) (hs : s.size ≤ 9223372036854775807) :
 Calls Tryz.prog 133 #[.string s, .string p] w fun e w' => e = .returned (.bool (Lib.hasSuffix s.data.toList p.data.toList)) ∧ w' = w := Any.strings_HasSuffix Tryz.lays100 s p w hs
def Tryz.lays101_ren : Go.Shelf.Ren := ⟨fun | 101 => 175 | 208 => 237 | 206 => 162 | n => n, fun | 9 => 9 | 4 => 4 | 3 => 3 | n => n, fun | n => n⟩
theorem Tryz.lays101 : Go.Proofs.Lays.n101 Tryz.prog Tryz.lays101_ren := {
 mixed := by kernel_rfl
 f101 := Tryz.func175.trans (congrArg some (by kernel_rfl))
 f206 := Tryz.func162.trans (congrArg some (by kernel_rfl))
 f208 := Tryz.func237.trans (congrArg some (by kernel_rfl))
 t3 := Tryz.underlying3
 a3 := Tryz.isAgg3
 z3 := Tryz.sizeOf3
 v3 := Tryz.zeroValue3
 t4 := Tryz.underlying4
 a4 := Tryz.isAgg4
 z4 := Tryz.sizeOf4
 v4 := Tryz.zeroValue4
 t9 := Tryz.underlying9
 a9 := Tryz.isAgg9
 z9 := Tryz.sizeOf9
 v9 := Tryz.zeroValue9 }
open Go.RowKit Go.Lib in
theorem Tryz.strings_TrimPrefix (s p : ByteArray) (w : World) :
 Calls Tryz.prog 175 #[.string s, .string p] w fun e w' => e = .returned (.string ⟨(Lib.trimPrefix s.data.toList p.data.toList).toArray⟩) ∧ w' = w := Any.strings_TrimPrefix Tryz.lays101 s p w
def Tryz.lays146_ren : Go.Shelf.Ren := ⟨fun | 146 => 115 | 221 => 168 | 268 => 227 | 138 => 228 | 143 => 229 | 195 => 256 | 197 => 225 | 218 => 257 | 219 => 159 | 260 => 254 | 217 => 113 | 225 => 220 | 224 => 221 | 267 => 222 | 266 => 163 | 314 => 253 | n => n, fun | 9 => 9 | 31 => 75 | 3 => 3 | 4 => 4 | 0 => 0 | 105 => 235 | 21 => 21 | 5 => 5 | 46 => 153 | 119 => 251 | 139 => 254 | 138 => 253 | 146 => 247 | 51 => 246 | n => n, fun | 1 => 0 | 3 => 1 | 4 => 2 | n => n⟩
theorem Tryz.lays146 : Go.Proofs.Lays.n146 Tryz.prog Tryz.lays146_ren := {
 mixed := by kernel_rfl
 f138 := Tryz.func228.trans (congrArg some (by kernel_rfl))
 f143 := Tryz.func229.trans (congrArg some (by kernel_rfl))
 f146 := Tryz.func115.trans (congrArg some (by kernel_rfl))
 f195 := Tryz.func256.trans (congrArg some (by kernel_rfl))
 f197 := Tryz.func225.trans (congrArg some (by kernel_rfl))
 f217 := Tryz.func113.trans (congrArg some (by kernel_rfl))
 f218 := Tryz.func257.trans (congrArg some (by kernel_rfl))
 f219 := Tryz.func159.trans (congrArg some (by kernel_rfl))
 f221 := Tryz.func168.trans (congrArg some (by kernel_rfl))
 f224 := Tryz.func221.trans (congrArg some (by kernel_rfl))
 f225 := Tryz.func220.trans (congrArg some (by kernel_rfl))
 f260 := Tryz.func254.trans (congrArg some (by kernel_rfl))
 f266 := Tryz.func163.trans (congrArg some (by kernel_rfl))
 f267 := Tryz.func222.trans (congrArg some (by kernel_rfl))
 f268 := Tryz.func227.trans (congrArg some (by kernel_rfl))
 f314 := Tryz.func253.trans (congrArg some (by kernel_rfl))
 t0 := Tryz.underlying0
 a0 := Tryz.isAgg0
 z0 := Tryz.sizeOf0
 v0 := Tryz.zeroValue0
 t3 := Tryz.underlying3
 a3 := Tryz.isAgg3
 z3 := Tryz.sizeOf3
 v3 := Tryz.zeroValue3
 t4 := Tryz.underlying4
 a4 := Tryz.isAgg4
 z4 := Tryz.sizeOf4
 v4 := Tryz.zeroValue4
 t5 := Tryz.underlying5
 a5 := Tryz.isAgg5
 z5 := Tryz.sizeOf5
 v5 := Tryz.zeroValue5
 t9 := Tryz.underlying9
 a9 := Tryz.isAgg9
 z9 := Tryz.sizeOf9
 v9 := Tryz.zeroValue9
 t21 := Tryz.underlying21
 a21 := Tryz.isAgg21
 z21 := Tryz.sizeOf21
 v21 := Tryz.zeroValue21
 t31 := Tryz.underlying75
 a31 := Tryz.isAgg75
 z31 := Tryz.sizeOf75
 v31 := Tryz.zeroValue75
 t46 := Tryz.underlying153
 a46 := Tryz.isAgg153
 z46 := Tryz.sizeOf153
 v46 := Tryz.zeroValue153
 t51 := Tryz.underlying246
 a51 := Tryz.isAgg246
 z51 := Tryz.sizeOf246
 v51 := Tryz.zeroValue246
 t105 := Tryz.underlying235
 a105 := Tryz.isAgg235
 z105 := Tryz.sizeOf235
 v105 := Tryz.zeroValue235
 t119 := Tryz.underlying251
 a119 := Tryz.isAgg251
 z119 := Tryz.sizeOf251
 t138 := Tryz.underlying253
 a138 := Tryz.isAgg253
 z138 := Tryz.sizeOf253
 v138 := Tryz.zeroValue253
 t139 := Tryz.underlying254
 a139 := Tryz.isAgg254
 z139 := Tryz.sizeOf254
 v139 := Tryz.zeroValue254
 t146 := Tryz.underlying247
 a146 := Tryz.isAgg247
 z146 := Tryz.sizeOf247
 v146 := Tryz.zeroValue247
 g1 := by kernel_rfl
 g3 := by kernel_rfl
 g4 := by kernel_rfl }
open Go.RowKit Go.Lib in
theorem Tryz.strings_Split (s sep : ByteArray) (m : Int) (w : World) (hs : s.size < 4294967281) (hm : w.cell? ⟨0, 0, none⟩ = some (.int .i64 m)) (h1 : 1 ≤ sep.size) :
 Calls Tryz.prog 115 #[.string s, .string sep] w fun e w' =>
  e = .returned (.slice (some ⟨w.heap.size, 0, none⟩) (Lib.countB s sep + 1) (Lib.countB s sep + 1)) ∧ w' = w.alloc (.cells ((Lib.splitB sep 0 (Lib.countB s sep) s).map Value.string).toArray 9) := Any.strings_Split Tryz.lays146 (by kernel_rfl) s sep m w hs hm h1
def Tryz.lays107_ren : Go.Shelf.Ren := ⟨fun | 107 => 127 | 108 => 188 | n => n, fun | 28 => 167 | 3 => 3 | 4 => 4 | 0 => 0 | n => n, fun | n => n⟩
theorem Tryz.lays107 : Go.Proofs.Lays.n107 Tryz.prog Tryz.lays107_ren := {
 mixed := by kernel_rfl
 f107 := Tryz.func127.trans (congrArg some (by kernel_rfl))
 f108 := Tryz.func188.trans (congrArg some (by kernel_rfl))
 t0 := Tryz.underlying0
 a0 := Tryz.isAgg0
 z0 := Tryz.sizeOf0
 v0 := Tryz.zeroValue0
 t3 := Tryz.underlying3
 a3 := Tryz.isAgg3
 z3 := Tryz.sizeOf3
 v3 := Tryz.zeroValue3
 t4 := Tryz.underlying4
 a4 := Tryz.isAgg4
 z4 := Tryz.sizeOf4
 v4 := Tryz.zeroValue4
 t28 := Tryz.underlying167
 a28 := Tryz.isAgg167
 z28 := Tryz.sizeOf167
 v28 := Tryz.zeroValue167 }
open Go.Lib in
theorem Tryz.slices_Contains_int (b off n c : Nat) (zs : List Int) (x : Int) (w : World) (hz : n ≤ zs.length) (hbig : n ≤ 9223372036854775807) (hc : ∀ j, j < zs.length → w.cell? ⟨b, off + j, none⟩ = some (.int .i64 (zs.getD j 0))) :
 Calls Tryz.prog 127 #[.slice (some ⟨b, off, none⟩) n c, .int .i64 x] w fun e w' => e = .returned (.bool ((zs.take n).contains x)) ∧ w' = w := Any.slices_Contains_int Tryz.lays107 b off n c zs x w hz hbig hc
def Tryz.lays110_ren : Go.Shelf.Ren := ⟨fun | 110 => 103 | 109 => 158 | n => n, fun | 31 => 75 | 9 => 9 | 4 => 4 | 3 => 3 | 0 => 0 | n => n, fun | n => n⟩
theorem Tryz.lays110 : Go.Proofs.Lays.n110 Tryz.prog Tryz.lays110_ren := {
 mixed := by kernel_rfl
 f109 := Tryz.func158.trans (congrArg some (by kernel_rfl))
 f110 := Tryz.func103.trans (congrArg some (by kernel_rfl))
 t0 := Tryz.underlying0
 a0 := Tryz.isAgg0
 z0 := Tryz.sizeOf0
 v0 := Tryz.zeroValue0
 t3 := Tryz.underlying3
 a3 := Tryz.isAgg3
 z3 := Tryz.sizeOf3
 v3 := Tryz.zeroValue3
 t4 := Tryz.underlying4
 a4 := Tryz.isAgg4
 z4 := Tryz.sizeOf4
 v4 := Tryz.zeroValue4
 t9 := Tryz.underlying9
 a9 := Tryz.isAgg9
 z9 := Tryz.sizeOf9
 v9 := Tryz.zeroValue9
 t31 := Tryz.underlying75
 a31 := Tryz.isAgg75
 z31 := Tryz.sizeOf75
 v31 := Tryz.zeroValue75 }
open Go.Lib in
theorem Tryz.slices_Contains_string (b off n c : Nat) (zs : List ByteArray) (x : ByteArray) (w : World) (hz : n ≤ zs.length) (hbig : n ≤ 9223372036854775807) (hc : ∀ j, j < zs.length → w.cell? ⟨b, off + j, none⟩ = some (.string (zs.getD j ByteArray.empty))) :
 Calls Tryz.prog 103 #[.slice (some ⟨b, off, none⟩) n c, .string x] w fun e w' => e = .returned (.bool (Lib.containsS (zs.take n) x)) ∧ w' = w := Any.slices_Contains_string Tryz.lays110 b off n c zs x w hz hbig hc
open Go.Lib in
theorem Tryz.slices_Contains_string_empty (a : Option Addr) (c : Nat) (x : ByteArray) (w : World) :
 Calls Tryz.prog 103 #[.slice a 0 c, .string x] w fun e w' => e = .returned (.bool false) ∧ w' = w := Any.slices_Contains_string_empty Tryz.lays110 a c x w
def Tryz.bld_ren : Go.Shelf.Ren := ⟨fun | 167 => 110 | 166 => 132 | 240 => 161 | 276 => 223 | n => n, fun | 0 => 0 | 3 => 3 | 4 => 4 | 5 => 5 | 9 => 9 | 20 => 20 | 37 => 68 | 70 => 146 | 72 => 148 | 75 => 151 | 80 => 121 | 127 => 193 | 164 => 233 | n => n, fun | n => n⟩
theorem Tryz.bldExtra : Builder.Extra Tryz.prog Tryz.bld_ren := {
 sizeBuilder := by kernel_rfl
 liesBuilder := by kernel_rfl
 t5 := Tryz.underlying5
 a5 := Tryz.isAgg5
 z5 := Tryz.sizeOf5
 v5 := Tryz.zeroValue5
 infoByte := by kernel_rfl
 cellsByte := by kernel_rfl
 sizeByte := by kernel_rfl
 neB5 := by decide }
theorem Tryz.bldLays167 : Go.Proofs.Lays.n167 Tryz.prog Tryz.bld_ren := {
 mixed := by kernel_rfl
 f167 := Tryz.func110.trans (congrArg some (by kernel_rfl))
 f240 := Tryz.func161.trans (congrArg some (by kernel_rfl))
 f276 := Tryz.func223.trans (congrArg some (by kernel_rfl))
 t0 := Tryz.underlying0
 a0 := Tryz.isAgg0
 z0 := Tryz.sizeOf0
 v0 := Tryz.zeroValue0
 t4 := Tryz.underlying4
 a4 := Tryz.isAgg4
 z4 := Tryz.sizeOf4
 v4 := Tryz.zeroValue4
 t5 := Tryz.underlying5
 a5 := Tryz.isAgg5
 z5 := Tryz.sizeOf5
 v5 := Tryz.zeroValue5
 t9 := Tryz.underlying9
 a9 := Tryz.isAgg9
 z9 := Tryz.sizeOf9
 v9 := Tryz.zeroValue9
 t20 := Tryz.underlying20
 a20 := Tryz.isAgg20
 z20 := Tryz.sizeOf20
 v20 := Tryz.zeroValue20
 t37 := Tryz.underlying68
 a37 := Tryz.isAgg68
 z37 := Tryz.sizeOf68
 v37 := Tryz.zeroValue68
 t70 := Tryz.underlying146
 a70 := Tryz.isAgg146
 z70 := Tryz.sizeOf146
 v70 := Tryz.zeroValue146
 t72 := Tryz.underlying148
 a72 := Tryz.isAgg148
 z72 := Tryz.sizeOf148
 v72 := Tryz.zeroValue148
 t75 := Tryz.underlying151
 a75 := Tryz.isAgg151
 z75 := Tryz.sizeOf151
 v75 := Tryz.zeroValue151
 t164 := Tryz.underlying233
 a164 := Tryz.isAgg233
 z164 := Tryz.sizeOf233
 v164 := Tryz.zeroValue233 }
open Go.RowKit in
theorem Tryz.Builder_WriteByte_k (B b : Nat) (bs : List Value) (c : Int) (w : World) (h : Lib.IsBuilderF 148 5 B b bs w) (hlen : bs.length + 1 ≤ 140737488355328) (hBw : B ≤ w.heap.size) :
 Calls Tryz.prog 110 #[.pointer (some ⟨b, 0, none⟩), .int .u8 c] w fun e w' => e = .returned .nilIface ∧ (Lib.BuilderAtF 148 5 B b (.pointer (some ⟨b, 0, none⟩)) (bs ++ [.int .u8 c]) w' ∧ Below B w w' ∧ Lib.OthersKept 5 (some b) w w') := Any.Builder_WriteByte_k Tryz.bldLays167 Tryz.bldExtra B b bs c w h hlen hBw
end Go.Proofs
