/- Part 29 of what the proof needs: YRG. -/
import Derived.Test.YtjdhaacmlpegoaaGreatDoorU25
set_option linter.unusedSimpArgs false
set_option linter.unusedVariables false
namespace Go.Proofs.YtjdhaacmlpegoaaGreatDoor
open Go.RowKit
theorem Kp.grown {n:Nat}{M:Nat->Prop}{w w1 w2:World}(h:Kp n M w w1){o:Option Nat}(g:w1.grownBy w2 o)(hn:n<=w1.heap.size)(hM:∀ b,b<n->o=some b->M b):Kp n M w w2:=by obtain ⟨g1,g2,g3,g4,g5⟩:=g;exact ⟨g1.trans h.os,g2.trans h.tape,g3.trans h.output,Kg h.size g4,fun i hi hm=>(g5 i (by omega) (fun e=>hm (hM i hi e.symm))).trans (h.block i hi hm)⟩
def OwnB (ev:Value)(b:Nat):Prop:=ev.ownBlock=some b
def FarG {α:Type}(M:Nat->Prop)(l:List α)(u:Value):Prop:=l≠[]->∀ b off n c,u = .slice (some ⟨b,off,none⟩) n c->¬ M b
theorem slkg_lt {α:Type}{enc:α->List Value}{k:Nat}{w:World}{u:Value}{l:List α}(h:SlK enc k w u l)(h0:l≠[]){b off n c:Nat}(e:u = .slice (some ⟨b,off,none⟩) n c):b<w.heap.size:=by
 exact M22
theorem slkg_kp {α:Type}{enc:α->List Value}{k:Nat}{w w':World}{n:Nat}{M:Nat->Prop}{u:Value}{l:List α}(h:SlK enc k w u l)(hf:FarG M l u)(q:Kp n M w w')(hn:w.heap.size<=n):SlK enc k w' u l:=by
 rcases h with h | ⟨h0,b,off,cap,hv,e2,e3,h4,h5⟩
 ·exact .inl h
 ·exact .inr ⟨h0,b,off,cap,hv,e2,e3,Ko h4 q.size,fun i hi j u hu=>(q.cell (by omega) (hf h0 b off _ _ hv)).trans (h5 i hi j u hu)⟩
theorem FarG.to {α:Type}{enc:α->List Value}{k:Nat}{w:World}{M M':Nat->Prop}{u:Value}{l:List α}(hf:FarG M l u)(h:SlK enc k w u l)(hM:∀ b,b<w.heap.size->M' b->M b):FarG M' l u:=
 fun h0 b off n c e hm=>hf h0 b off n c e (hM b (slkg_lt h h0 e) hm)
def Sg {α:Type}(enc:α->List Value)(k:Nat)(ev:Value)(w:World)(u:Value)(l:List α):Prop:=SlK enc k w u l/\FarG (OwnB ev) l u
theorem Sg.kp {α:Type}{enc:α->List Value}{k:Nat}{ev ev':Value}{w w':World}{u:Value}{l:List α}(h:Sg enc k ev w u l)(q:Kp w.heap.size (OwnB ev) w w')(ho:∀ b,ev'.ownBlock=some b->ev.ownBlock=some b\/w.heap.size<=b):Sg enc k ev' w' u l:=
 ⟨slkg_kp h.1 h.2 q lr,h.2.to h.1 fun b hb hm=>(ho b hm).resolve_right (by omega)⟩
theorem Sg.below {α:Type}{enc:α->List Value}{k:Nat}{ev:Value}{w w':World}{u:Value}{l:List α}(h:Sg enc k ev w u l)(q:Below w.heap.size w w'):Sg enc k ev w' u l:=
 h.kp (Kp.of_below q lr) fun _ e=>.inl e
theorem Sg.nil {α:Type}{enc:α->List Value}{k:Nat}(ev:Value)(w:World):Sg enc k ev w (.slice none 0 0) []:=⟨.inl ⟨rfl,none,0,rfl,Kh _⟩,fun h=>absurd rfl h⟩
theorem Sg.new {α:Type}{enc:α->List Value}{k:Nat}{ev:Value}{w w':World}{u:Value}{l:List α}(h:SlK enc k w' u l)(hn:∀ b off n c,u = .slice (some ⟨b,off,none⟩) n c->w.heap.size<=b)(ho:∀ b,ev.ownBlock=some b->b<w.heap.size):Sg enc k ev w' u l:=
 ⟨h,fun _ b off n c e hm=>by have:=hn b off n c e;have:=ho b hm;omega⟩
theorem Sg.shape {α:Type}{enc:α->List Value}{k:Nat}{ev:Value}{w:World}{u:Value}{l:List α}(h:Sg enc k ev w u l):∃ a c,u = .slice a l.length c:=by obtain ⟨a,c,e,_⟩:=h.1.shape;exact ⟨a,c,e⟩
theorem slOp:SlTy Tryz.prog 35 32 4 56:=.mk' (z:=.agg #[.int .u8 0,.int .i64 0,.slice none 0 0,.string ⟨#[]⟩]) Tryz.underlying35 (by kernel_rfl) rfl (by decide)
structure OpsIn (w:World)(B:Nat)(ov:Value)(lo:List (Value × Op4)):Prop where
 own:w.ownsRow B 32 4 ov lo.length (cellsK opC lo)
 hs:∀ x∈lo,Sg hdC 2 ov w x.1 x.2.hs
theorem OpsIn.nil (w:World)(B:Nat):OpsIn w B (.slice none 0 0) []:=⟨World.ownsRow_nil _ _ _ _,fun x hx=>by cases hx⟩
theorem OpsIn.below {w w':World}{B:Nat}{ov:Value}{lo:List (Value × Op4)}(h:OpsIn w B ov lo)(k:Below w.heap.size w w'):OpsIn w' B ov lo:=
 ⟨own_below h.own k lr,fun x hx=>(h.hs x hx).below k⟩
theorem OpsIn.app {w w':World}{B:Nat}{ov ov':Value}{lo:List (Value × Op4)}(h:OpsIn w B ov lo)(x:Value × Op4)(hx:Sg hdC 2 ov w x.1 x.2.hs)(o:w'.ownsRow B 32 4 ov' (lo.length+1) (cellsK opC lo ++ opC x))(q:Kp w.heap.size (OwnB ov) w w')(ho:∀ b,ov'.ownBlock=some b->ov.ownBlock=some b\/w.heap.size<=b):OpsIn w' B ov' (lo ++ [x]):=
 ⟨own_eq o (by simp) (by rw [cellsK_app];simp [cellsK]),fun y hy=>by
  rcases Kz.1 hy with hy | hy
  ·exact (h.hs y hy).kp q ho
  ·obtain rfl:=Jc.1 hy;exact hx.kp q ho⟩
theorem OpsIn.oin {w:World}{B:Nat}{ov:Value}{lo:List (Value × Op4)}(h:OpsIn w B ov lo)(hz:∀ x∈lo,WtH x.2.hs):OIn w ov lo:=
 ⟨SlK.of_own opC_len h.own,fun x hx=>(h.hs x hx).1,hz⟩
theorem OpsIn.kp {w w':World}{B:Nat}{ov:Value}{lo:List (Value × Op4)}(h:OpsIn w B ov lo)(hB:w.heap.size<=w'.heap.size){M:Nat->Prop}(k:Kp w.heap.size M w w')(hM:∀ b,M b->b<B/\∀ x∈lo,∀ b2 off n c,x.1 = .slice (some ⟨b2,off,none⟩) n c->b2≠b):OpsIn w' B ov lo:=
 ⟨own_kp h.own k lr (fun g hg e=>by have:=own_base h.own hg;have:=(hM g e).1;omega),fun x hx=>⟨slkg_kp (h.hs x hx).1 (fun _ b off n c e hm=>(hM b hm).2 x hx b off n c e rfl) k lr,(h.hs x hx).2⟩⟩
end Go.Proofs.YtjdhaacmlpegoaaGreatDoor
