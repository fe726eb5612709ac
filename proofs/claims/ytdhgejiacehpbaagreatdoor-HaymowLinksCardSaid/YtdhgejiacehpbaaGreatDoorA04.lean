import Derived.Test.YtdhgejiacehpbaaGreatDoorA03
import Derived.Shelf.SlMaps.Clone
set_option maxRecDepth 100000
set_option maxHeartbeats 16000000
set_option linter.all false
namespace Go.Proofs.YtdhgejiacehpbaaGreatDoor
open Go.Proofs.Tryz
namespace Co
open Go.RowKit
def Nk:List Value:=[i6 0,.int .u32 0,i6 0,.int .u32 0,i6 0,.int .u32 0,i6 0,.int .u32 0,i6 0,.int .u32 0,i6 0,.int .u32 0,i6 0,.int .u32 0,i6 0,.int .u32 0,i6 0,.int .u32 0]
structure X where
 ty:Int
 ar:Int
 bN:Int
 size:Int
 tick:Int
def X.cells (x:X):List Value:=i6 x.ty::i6 x.ar::i6 x.bN::i6 x.size::i6 x.tick::Nk
def X.val (x:X):Value:=.agg x.cells.toArray
structure W where
 b:Nat
 data:Nat
 nodes:Nat
 at_:Int
 sum:Int
 x:X
def W.cells (p:W):List Value:=i6 p.at_:: .int .u32 p.sum::(p.x.cells++[.map (some p.data),.map (some p.nodes)])
def tV:Option W->Value
 |none=>.pointer none
 |some p=>pt p.b 0
structure Fi where
 g:Nat
 cA:Nat
 fresh:Nat
 bA:Nat
 lost:Nat
 nodes:Nat
 at_:Int
 sum:Int
 ty:Int
 ar:Int
 bN:Int
 tick:Int
 cU:Option W
 age:Int
 vs:List Value
 d:List UInt8
def Fi.x (f:Fi):X:=⟨f.ty,f.ar,f.bN,f.d.length,f.tick⟩
def Fi.maps (f:Fi):List Value:=[.map (some f.cA),.map (some f.fresh),.map (some f.bA),.map (some f.lost),.map (some f.nodes),.bool false,tV f.cU,i6 f.age]
def Fi.cells (f:Fi):List Value:=i6 f.at_:: .int .u32 f.sum::(f.x.cells++f.maps)
def cW:Nat->List Value->KV
 |_,[]=>[]
 |i,v::r=>((i:Int),v)::cW (i+1) r
def gT (vs:List Value):KV:=cW 0 vs
theorem m_:∀(i:Nat) (vs:List Value),(cW i vs).length=vs.length
 |_,[]=>rfl
 |i,v::r=>by unfold cW;rw[List.length_cons,List.length_cons,m_]
theorem mg (vs:List Value): (gT vs).length=vs.length:=m_ 0 vs
theorem fA {n:Int} {v:Value}:∀{i:Nat} {vs:List Value},(n,v)∈cW i vs↔∃j,vs[j]? =some v/\n=((i+j:Nat):Int)
 |i,[]=>by unfold cW;simp
 |i,u::r=>by
  unfold cW;rw[List.mem_cons,fA];constructor
  ·rintro(h|⟨j,I,e⟩)
   ·injection h with J R;subst J R;exact⟨0,rfl,rfl⟩
   ·exact⟨j+1,I,by rw[e];congr 1;omega⟩
  ·rintro⟨j,I,e⟩;cases j with
   |zero=>injection I with I;subst I e;exact .inl rfl
   |succ j=>exact .inr ⟨j,I,by rw[e];congr 1;omega⟩
theorem gJ:∀(i:Nat) (vs:List Value) (n:Int),bK (cW i vs) n=if(i:Int)<=n then vs[(n-i).toNat]? else none
 |i,[],n=>by unfold cW;rw[dq];split<;>simp
 |i,u::r,n=>by
  unfold cW;rw[bp,gJ (i+1) r n];by_cases h: (i:Int)=n
  ·subst h;rw[if_pos rfl,if_pos (Int.le_refl _)];simp
  ·rw[if_neg h];by_cases I: (i:Int)<=n
   ·rw[if_pos I,if_pos om,show(n-(i:Int)).toNat=(n-((i+1:Nat):Int)).toNat+1 by omega,List.getElem?_cons_succ]
   ·rw[if_neg I,if_neg om]
theorem AP (vs:List Value) (n:Nat):bK (gT vs) (n:Int)=vs[n]? :=by unfold gT;rw[gJ,if_pos om];simp
theorem kM:∀(i:Nat) (vs:List Value),bY (cW i vs)
 |_,[]=>fR
 |i,v::r=>by unfold cW bY;rw[List.pairwise_cons];refine⟨λy I=>?_,kM (i+1) r⟩;obtain⟨n,u⟩:=y;obtain⟨j,_,e⟩:=fA.1 I;show(i:Int)<n;omega
theorem mK (vs:List Value):bY (gT vs):=kM 0 vs
theorem Hf (vs:List Value) (n:Nat) (v:Value) (h:n<=vs.length):dk (gT vs) (n:Int) v=gT (if n<vs.length then vs.set n v else vs++[v]):=by
 refine qe (mJ (mK _) _ _) (mK _) λk=>?_;rw[fW];unfold gT;rw[gJ,gJ];simp only[Int.ofNat_zero,Int.sub_zero];by_cases J: (n:Int)=k
 ·subst J;rw[if_pos rfl,if_pos om,Int.toNat_natCast];split
  ·rename_i hl;rw[List.getElem?_set_self hl]
  ·rename_i hl;obtain rfl:n=vs.length:=(by omega);simp
 ·rw[if_neg J];by_cases I: (0:Int)<=k
  ·rw[if_pos I,if_pos I];obtain⟨j,rfl⟩:=Int.eq_ofNat_of_zero_le I;have R:n≠j:=λe=>J (by rw[e]);rw[show((j:Nat):Int).toNat=j from Int.toNat_natCast j]at*;split
   ·rw[List.getElem?_set_ne R]
   ·rename_i hl;rw[List.getElem?_append];split
    ·rfl
    ·rename_i hj;rw[List.getElem?_eq_none om,List.getElem?_eq_none (by simp;omega)]
  ·rw[if_neg I,if_neg I]
theorem xU (vs:List Value) (k:Nat): (gT vs).filter (λy=> !decide ((k:Int)<=y.1))=gT (vs.take k):=by
 have gen:∀(i:Nat) (vs:List Value),(cW i vs).filter (λy=> !decide ((k:Int)<=y.1))=cW i (vs.take (k-i)):=by
  intro i vs;induction vs generalizing i with
  |nil=>unfold cW;simp
  |cons v r ih=>
   by_cases h: (k:Int)<=(i:Int)
   ·rw[show k-i=0 by omega,List.take_zero];rw[List.filter_eq_nil_iff.2]
    ·rfl
    ·rintro⟨n,u⟩ I;obtain⟨j,_,e⟩:=fA.1 I;simp only[Bool.not_eq_true,Bool.not_eq_false',decide_eq_true_eq];omega
   ·rw[show k-i=(k-(i+1))+1 by omega,List.take_succ_cons];unfold cW;rw[List.filter_cons,if_pos (by simp;omega),ih (i+1)]
 rw[gT,gen 0 vs];rfl
section
variable {w w':World} {own own':Nat->Nat} {i:Nat} {f:Fi} {p:W}
structure gX (w:World) (own:Nat->Nat) (p:W):Prop where
 blk:ak w p.b 260 p.cells
 data:ay w prog 3 p.data []
 nodes:ay w prog 3 p.nodes []
 o0:own p.b=0
 o1:own p.data=0
 o2:own p.nodes=0
structure kB (w:World) (own:Nat->Nat) (i:Nat) (f:Fi):Prop where
 blk:ak w f.g 155 f.cells
 cA:ay w prog 3 f.cA []
 fresh:ay w prog 3 f.fresh (gT f.vs)
 bA:ay w prog 3 f.bA []
 lost:ay w prog 3 f.lost []
 nodes:ay w prog 3 f.nodes []
 o0:own f.g=10*(i+1)
 o1:own f.cA=10*(i+1)+1
 o2:own f.fresh=10*(i+1)+2
 o3:own f.bA=10*(i+1)+3
 o4:own f.lost=10*(i+1)+4
 o5:own f.nodes=10*(i+1)+5
 cU:∀p,f.cU=some p->gX w own p
 jW:∀n v,f.vs[n]? =some v->Bs w w.heap.size v (Sp.blk f.d n)/\∀b,v.ownBlock=some b->own b=0
 ok: (Sp.F.mk f.d f.vs.length).ok
theorem af.bs {X:Nat->Prop} {v:Value} {l:List UInt8} (h:af X w w') (hb:Bs w w.heap.size v l) (hX:∀g,v.ownBlock=some g->¬X g):Bs w' w'.heap.size v l:=(af.fe h hb lh hX).more h.size
theorem oM {v:Value} {l:List UInt8} {b:Nat} (h:Bs w w.heap.size v l) (hb:v.ownBlock=some b) (hl:0<l.length):b<w.heap.size:=by
 obtain⟨A,c,rfl,U,j,o,I⟩:=h;obtain⟨J,off,rfl,R,_⟩:=I hl;have:J=b:=by injection hb
 omega
theorem gX.bU {X:Nat->Prop} (h:gX w own p) (ht:af X w w') (hX:∀b,X b->b<w.heap.size->own b≠0) (ho:∀b,b<w.heap.size->own' b=own b):gX w' own' p:=⟨ht.blk h.blk λe=>hX _ e h.blk.lt h.o0,ht.map h.data λe=>hX _ e h.data.lt h.o1,ht.map h.nodes λe=>hX _ e h.nodes.lt h.o2,(ho _ h.blk.lt).trans h.o0,(ho _ h.data.lt).trans h.o1,(ho _ h.nodes.lt).trans h.o2⟩
theorem kB.bU {X:Nat->Prop} (h:kB w own i f) (ht:af X w w') (hX:∀b,X b->b<w.heap.size->own b≠0/\own b/10≠i+1) (ho:∀b,b<w.heap.size->own' b=own b):kB w' own' i f where
 blk:=ht.blk h.blk λe=>(hX _ e h.blk.lt).2 (by rw[h.o0];omega)
 cA:=ht.map h.cA λe=>(hX _ e h.cA.lt).2 (by rw[h.o1];omega)
 fresh:=ht.map h.fresh λe=>(hX _ e h.fresh.lt).2 (by rw[h.o2];omega)
 bA:=ht.map h.bA λe=>(hX _ e h.bA.lt).2 (by rw[h.o3];omega)
 lost:=ht.map h.lost λe=>(hX _ e h.lost.lt).2 (by rw[h.o4];omega)
 nodes:=ht.map h.nodes λe=>(hX _ e h.nodes.lt).2 (by rw[h.o5];omega)
 o0:=(ho _ h.blk.lt).trans h.o0
 o1:=(ho _ h.cA.lt).trans h.o1
 o2:=(ho _ h.fresh.lt).trans h.o2
 o3:=(ho _ h.bA.lt).trans h.o3
 o4:=(ho _ h.lost.lt).trans h.o4
 o5:=(ho _ h.nodes.lt).trans h.o5
 cU:=λp hp=>(h.cU p hp).bU ht (λb hb hl=>(hX b hb hl).1) ho
 jW:=λn v I=>⟨af.bs ht (h.jW n v I).1 λg hg e=>(hX g e (oM (h.jW n v I).1 hg (by rw[Sp.aM];omega))).1 ((h.jW n v I).2 g hg),λb hb=>(ho b (oM (h.jW n v I).1 hb (by rw[Sp.aM];omega))).trans ((h.jW n v I).2 b hb)⟩
 ok:=h.ok
theorem kB.below (h:kB w own i f) (hb:Bw w w'):kB w' own i f:=h.bU (X:=λ_=>False) (af.aj hb) (λ_ e _=>e.elim) (λ_ _=>rfl)
def FO:List Int:=[1,1,1,1,1,1,15,225,3375]
def nW (w:World):Prop:=∀(k:Nat) (n:Int),FO[k]? =some n->w.cell? (ae 0 k)=some (i6 n)
structure tq (w:World) (own:Nat->Nat):Prop where
 halves:a7 w
 D_:nW w
 og:∀b,b<=1->own b=0
theorem tq.lt (h:tq w own):1<w.heap.size:=by have:=World.block_lt_of_cell? _ _ (h.halves 0 dc);exact this
theorem tq.bU {X:Nat->Prop} (h:tq w own) (ht:af X w w') (hX:∀b,X b->b<w.heap.size->own b≠0) (ho:∀b,b<w.heap.size->own' b=own b):tq w' own' where
 halves:=λk J=>(ht.cell (p:=ae 1 k) h.lt λe=>hX _ e h.lt (h.og 1 dc)).trans (h.halves k J)
 D_:=λk n R=>(ht.cell (p:=ae 0 k) (Nat.lt_trans Nat.zero_lt_one h.lt) λe=>hX _ e (Nat.lt_trans Nat.zero_lt_one h.lt) (h.og 0 dc)).trans (h.D_ k n R)
 og:=λb I=>(ho b (Nat.lt_of_le_of_lt I h.lt)).trans (h.og b I)
theorem tq.below (h:tq w own) (hb:Bw w w'):tq w' own:=h.bU (X:=λ_=>False) (af.aj hb) (λ_ e _=>e.elim) (λ_ _=>rfl)
def cV:Nat->List Fi->KV
 |_,[]=>[]
 |i,f::r=>((i+1:Nat),pt f.g 0)::cV (i+1) r
def kC (fs:List Fi):KV:=cV 0 fs
structure bD (w:World) (c:C) (fs:List Fi):Prop where
 core:ak w c.g 110 c.cells
 len:c.eI
 files:ay w prog 3 c.files (kC fs)
 gone:ay w prog 3 c.gone c.b_
 aB:ay w prog 3 c.aB c.cL
 bad:ay w prog 3 c.k.bad []
 o1:c.own c.g=1
 o2:c.own c.files=2
 o3:c.own c.gone=3
 o4:c.own c.aB=4
 ob:c.own c.k.bad=0
 hi:∀b,w.heap.size<=b->c.own b=0
 fi:∀(i:Nat) (f:Fi),fs[i]? =some f->kB w c.own i f
 aU:bw w w.heap.size 2 c.k.aU (c.k.nQ.length/2) c.k.nQ/\∀b,c.k.aU.ownBlock=some b->c.own b=0/\b<w.heap.size
 gl:tq w c.own
 gM:fs.length<=40
structure Step (w:World) (c:C) (w':World) (c':C):Prop where
 turn:af (λb=>c.own b≠0) w w'
 own:∀b,b<w.heap.size->c'.own b=c.own b
variable {c c' c'':C} {w'':World} {fs fs':List Fi}
theorem Step.trans (h:Step w c w' c') (k:Step w' c' w'' c''):Step w c w'' c'':=
 ⟨h.turn.trans k.turn λb I=>by
  by_cases J:b<w.heap.size
  ·exact .inl (by rw[<-h.own b J];exact I)
  ·exact .inr om,λb I=>(k.own b (Nat.lt_of_lt_of_le I h.turn.size)).trans (h.own b I)⟩
theorem Step.below (hb:Bw w w') (c:C):Step w c w' c:=⟨af.aj hb,λ_ _=>rfl⟩
theorem bD.below (h:bD w c fs) (hb:Bw w w'):bD w' c fs where
 core:=h.core.ext hb
 len:=h.len
 files:=h.files.ext hb
 gone:=h.gone.ext hb
 aB:=h.aB.ext hb
 bad:=h.bad.ext hb
 o1:=h.o1
 o2:=h.o2
 o3:=h.o3
 o4:=h.o4
 ob:=h.ob
 hi:=λb J=>h.hi b (Nat.le_trans hb.size J)
 fi:=λi f R=>(h.fi i f R).below hb
 aU:=⟨(h.aU.1.ext lh hb).more hb.size,λb I=>⟨(h.aU.2 b I).1,Nat.lt_of_lt_of_le (h.aU.2 b I).2 hb.size⟩⟩
 gl:=h.gl.below hb
 gM:=h.gM
theorem bD.pI (h:bD w c fs) (ht:af (· =c.g) w w') (hk:ak w' c.g 110 c'.cells) (hl:c'.eI) (h1:c'.g=c.g) (h2:c'.files=c.files) (h3:c'.gone=c.gone) (h4:c'.aB=c.aB)
 (h5:c'.b_=c.b_) (h6:c'.cL=c.cL) (h7:c'.k.bad=c.k.bad) (h8:c'.own=c.own) (h9:c'.k.aU=c.k.aU) (h10:c'.k.nQ=c.k.nQ):bD w' c' fs where
 core:=by rw[h1];exact hk
 len:=hl
 files:=by rw[h2];exact ht.map h.files λe=>absurd (e▸h.o2) (by rw[h.o1];decide)
 gone:=by rw[h3,h5];exact ht.map h.gone λe=>absurd (e▸h.o3) (by rw[h.o1];decide)
 aB:=by rw[h4,h6];exact ht.map h.aB λe=>absurd (e▸h.o4) (by rw[h.o1];decide)
 bad:=by rw[h7];exact ht.map h.bad λe=>absurd (e▸h.ob) (by rw[h.o1];decide)
 o1:=by rw[h1,h8];exact h.o1
 o2:=by rw[h2,h8];exact h.o2
 o3:=by rw[h3,h8];exact h.o3
 o4:=by rw[h4,h8];exact h.o4
 ob:=by rw[h7,h8];exact h.ob
 hi:=λb I=>by rw[h8];exact h.hi b (Nat.le_trans ht.size I)
 fi:=λi f J=>(h.fi i f J).bU ht (λb e _=>by subst e;rw[h.o1];exact⟨by decide,by omega⟩) (λb _=>by rw[h8])
 aU:=by rw[h9,h10,h8];exact⟨(ht.fe h.aU.1 lh λg R e=>absurd (h.aU.2 g R).1 (by rw[e,h.o1];decide)).more ht.size,λb hb2=>⟨(h.aU.2 b hb2).1,Nat.lt_of_lt_of_le (h.aU.2 b hb2).2 ht.size⟩⟩
 gl:=h.gl.bU ht (λb e _=>by subst e;rw[h.o1];decide) (λb _=>by rw[h8])
 gM:=h.gM
theorem bD.qv (h:bD w c fs) {X:Nat->Prop} (ht:af X w w') (hX:∀b,X b->b<w.heap.size->b=c.files\/10<=c.own b) (h1:c'={c with own:=c'.own}) (ho:∀b,b<w.heap.size->c'.own b=c.own b) (hh:∀b,w'.heap.size<=b->c'.own b=0)
 (hm:ay w' prog 3 c.files (kC fs')) (hf:∀(i:Nat) (f:Fi),fs'[i]? =some f->kB w' c'.own i f) (hl:fs'.length<=40):bD w' c' fs':=by
 have I:∀b,b<w.heap.size->b≠c.files->c.own b<10->¬X b:=λb j h2 h3 e=>by
  rcases hX b e j with h4|h4
  ·exact h2 h4
  ·omega
 have eg:c'.g=c.g:=by rw[h1]
 have ef:c'.files=c.files:=by rw[h1]
 have R:c'.gone=c.gone:=by rw[h1]
 have es:c'.aB=c.aB:=by rw[h1]
 have o:c'.k=c.k:=by rw[h1]
 have ec:c'.cells=c.cells:=by rw[h1];rfl
 have e5:c'.b_=c.b_:=by rw[h1]
 have e6:c'.cL=c.cL:=by rw[h1]
 have J:∀b,b<w.heap.size->c.own b=0->¬X b:=λb j U=>I b j (λe=>by rw[e,h.o2]at U;cases U) om;exact{
  core:=by rw[eg,ec];exact ht.blk h.core (I _ h.core.lt (λe=>absurd (e▸h.o2) (by rw[h.o1];decide)) (by rw[h.o1];decide))
  len:=by rw[h1];exact⟨h.len.aF,h.len.av,h.len.maps,h.len.used,h.len.dH,h.len.dG⟩
  files:=by rw[ef];exact hm
  gone:=by rw[R,e5];exact ht.map h.gone (I _ h.gone.lt (λe=>absurd (e▸h.o2) (by rw[h.o3];decide)) (by rw[h.o3];decide))
  aB:=by rw[es,e6];exact ht.map h.aB (I _ h.aB.lt (λe=>absurd (e▸h.o2) (by rw[h.o4];decide)) (by rw[h.o4];decide))
  bad:=by rw[o];exact ht.map h.bad (J _ h.bad.lt h.ob)
  o1:=by rw[eg,ho _ h.core.lt];exact h.o1
  o2:=by rw[ef,ho _ h.files.lt];exact h.o2
  o3:=by rw[R,ho _ h.gone.lt];exact h.o3
  o4:=by rw[es,ho _ h.aB.lt];exact h.o4
  ob:=by rw[o,ho _ h.bad.lt];exact h.ob
  hi:=hh
  fi:=hf
  aU:=by rw[o];exact⟨(ht.fe h.aU.1 lh λg hg=>J g (h.aU.2 g hg).2 (h.aU.2 g hg).1).more ht.size,λb hb2=>⟨(ho b (h.aU.2 b hb2).2).trans (h.aU.2 b hb2).1,Nat.lt_of_lt_of_le (h.aU.2 b hb2).2 ht.size⟩⟩
  gl:=h.gl.bU ht (λb e hl U=>J b hl U e) ho
  gM:=hl}
theorem af.setCell (w:World) (g o:Nat) (v:Value):af (· =g) w (w.setCell (ae g o) v):=⟨rfl,rfl,rfl,by simp,λk _ I=>Below.heap_setCell w _ v k I⟩
theorem af.setCells (w:World) (g o:Nat) (vs:List Value):af (· =g) w (w.setCells g o vs):=af.bt (fZ vs w o) λ_ e=>(Option.some.inj e).symm
theorem bD.set (h:bD w c fs) {o:Nat} {v:Value} (hc:c.cells.set o v=c'.cells) (hl:c'.eI) (h1:c'.g=c.g) (h2:c'.files=c.files) (h3:c'.gone=c.gone) (h4:c'.aB=c.aB)
 (h5:c'.b_=c.b_) (h6:c'.cL=c.cL) (h7:c'.k.bad=c.k.bad) (h8:c'.own=c.own) (h9:c'.k.aU=c.k.aU) (h10:c'.k.nQ=c.k.nQ):bD (w.setCell (ae c.g o) v) c' fs:=
 h.pI (af.setCell w c.g o v) (hc▸h.core.aC o v) hl h1 h2 h3 h4 h5 h6 h7 h8 h9 h10
theorem bD.tick (h:bD w c fs) (t:Int) (t0:0<=t) (t1:t<=2147483647):bD (w.setCell (ae c.g 179) (i6 t)) {c with tick:=t} fs:=h.set (E2 h.len t) ⟨h.len.aF,h.len.av,h.len.maps,h.len.used,t0,t1⟩ rfl rfl rfl rfl rfl rfl rfl rfl rfl rfl
theorem bD.p_ (h:bD w c fs) (i:Nat) (hi:i<40) (v:Value):bD (w.setCell (ae c.g (127+i)) v) {c with av:=c.av.set i v} fs:=h.set (wG h.len i hi v) ⟨h.len.aF,by rw[List.length_set];exact h.len.av,h.len.maps,h.len.used,h.len.dH,h.len.dG⟩ rfl rfl rfl rfl rfl rfl rfl rfl rfl rfl
theorem bD.age (h:bD w c fs) (t:Int):bD (w.setCell (ae c.g 194) (i6 t)) {c with age:=t} fs:=h.set (te h.len t) ⟨h.len.aF,h.len.av,h.len.maps,h.len.used,h.len.dH,h.len.dG⟩ rfl rfl rfl rfl rfl rfl rfl rfl rfl rfl
theorem bD.step (h:bD w c fs) (h1:af (· =c.g) w w') (h2:c'.own=c.own):Step w c w' c':=⟨h1.mono λb e=>by subst e;rw[h.o1];decide,λb _=>by rw[h2]⟩
end
end Co
namespace Co
open Go.RowKit
theorem wp_build {P:Program} {Q:Exit->Act->World->Prop} {o:Oper} {a:Act} {w:World} {K:Act->World->Prop} {r:Value} (t:TypeId) (parts:Array (Nat×Operand)) (ho:o.op=.build t parts) (hr: (Instr.build t (parts.map λ(i,x)=>(i,a.eval x))).run P w=.ok r w) (h:K (a.put o.dst r) w):o.wp P a w K Q:=by unfold Oper.wp execOp;simp only[ho,hr,Sem.run_bind,Result.andThen_ok];exact h
theorem wpList_build {P:Program} {Q:Exit->Act->World->Prop} {ops:Array Oper} {rest:List Oper} {o:Oper} {a:Act} {w:World} {r:Value} (hgd:o.guard=none) (t:TypeId) (parts:List (Nat×Operand)) (ho:o.op=.build t parts.toArray) (hr: (Instr.build t (parts.map λ(i,x)=>(i,a.eval x)).toArray).run P w=.ok r w)
 (h:wpList P ops Q rest (a.put o.dst r) w):wpList P ops Q (o::rest) a w:=
 wpList_plain hgd λ_ hK=>wp_build t parts.toArray ho (by rw[List.map_toArray];exact hr) (hK _ _ h)
theorem cM {P:Program} {ops:Array Oper} {rest:List Oper} {op:Oper} {a:Act} {w:World} {Q:Exit->Act->World->Prop} (hgd:op.guard=none) (ty:TypeId) (x y:Operand) (ho:op.op=.store ty x y)
 (b o:Nat) (cs:List Value) (hx:a.eval x=pt b o) (hy:a.eval y=.agg cs.toArray) (ht:w.there b o cs.length) (hi: (P.info? ty).map (·.size)=some cs.length) (h1:∀v∈cs,v.oneCell'=true)
 (h:wpList P ops Q rest (a.put op.dst undef) (w.setCells b o cs)):wpList P ops Q (op::rest) a w:=
 wpList_store_mid hgd ty x y ho b o cs.toArray hx hy (by rw[List.size_toArray];exact ht) (by rw[List.size_toArray];exact hi) (all_oneCell_toArray h1) h
theorem bE {P:Program} {ops:Array Oper} {rest:List Oper} {op:Oper} {a:Act} {w:World} {Q:Exit->Act->World->Prop} (hgd:op.guard=none) (ty:TypeId) (x y:Operand) (ho:op.op=.store ty x y)
 {arr:Array Value} (cs:List Value) (hx:a.eval x=pt w.heap.size 0) (hy:a.eval y=.agg cs.toArray) (hn:cs.length<=arr.size) {T:TypeId} (_:T=ty)
 (hi: (P.info? ty).map (·.size)=some cs.length) (h1:∀v∈cs,v.oneCell'=true)
 (h:wpList P ops Q rest (a.put op.dst undef) ((w.alloc (.cells arr T)).setCells w.heap.size 0 cs)):wpList P ops Q (op::rest) a (w.alloc (.cells arr T)):=by
 refine wpList_store_mid hgd ty x y ho w.heap.size 0 cs.toArray hx hy ((ak.new w T arr).there 0 _ (by simpa using hn)) (by simpa using hi) (all_oneCell_toArray h1) ?_;exact h
theorem fc (vs:List Value):∀(w:World) (g o:Nat),(w.setCells g o vs).heap.size=w.heap.size:=by
 induction vs with
 |nil=>intro w g o;rfl
 |cons v r I=>intro w g o;exact(I (w.setCell (ae g o) v) g (o+1)).trans sj
theorem az:prog.underlying 3=some (.int .i64):=underlying3
theorem tj (w:World): (zeroValue 94).run prog w=.ok (.pointer none) w:=by kernel_rfl
theorem oI (w:World): (zeroValue 208).run prog w=.ok (.agg #[]) w:=by kernel_rfl
theorem fg:∀(i:Nat) (fs:List Fi) (n:Int),bK (cV i fs) n=if(i:Int)<n then(fs[(n-i-1).toNat]?).map (λf=>pt f.g 0)else none
 |i,[],n=>by unfold cV;rw[dq];split<;>simp
 |i,f::r,n=>by
  unfold cV;rw[bp,fg (i+1) r n];by_cases h: ((i+1:Nat):Int)=n
  ·rw[if_pos h,if_pos om,show(n-i-1).toNat=0 by omega];rfl
  ·rw[if_neg h];by_cases I: (i:Int)<n
   ·rw[if_pos I,if_pos om,show(n-i-1).toNat=(n-((i+1:Nat):Int)-1).toNat+1 by omega,List.getElem?_cons_succ]
   ·rw[if_neg I,if_neg om]
theorem j7 (fs:List Fi) (i:Nat):bK (kC fs) ((i+1:Nat):Int)=(fs[i]?).map (λf=>pt f.g 0):=by unfold kC;rw[fg,if_pos om];congr 2;omega
theorem mY:∀(i:Nat) (fs:List Fi),(cV i fs).length=fs.length
 |_,[]=>rfl
 |i,f::r=>by unfold cV;rw[List.length_cons,List.length_cons,mY]
theorem jZ (fs:List Fi): (kC fs).length=fs.length:=mY 0 fs
theorem cC (k:Int) (h0:-1000000<=k) (h1:k<=1000000): (Lit.int .i64 k).wf=true:=WalkArith.wf_i64 om
section
variable {w:World} {c:C} {fs:List Fi}
theorem bD.cell (h:bD w c fs) (i:Nat):w.cell? (ae c.g i)=c.cells[i]? :=h.core.cell i
def JD (w:World) (c:C) (fs:List Fi) (w':World):Prop:=∃t,bD w' {c with tick:=t} fs/\af (· =c.g) w w'
theorem jJ (h:bD w c fs):
 Calls prog 21 #[pt c.g 0] w λe w'=>e=.returned (.tuple #[])/\JD w c fs w':=by
 have c1:w.cell? (ae c.g 179)=some (i6 c.tick):=(h.cell _).trans (fY h.len);have f1:=h.core.frozen 179;have t0:=h.len.dH;have t1:=h.len.dG;have H:=ja h;clear h;go_enter func21,ntmps21;go_wp2;all_goals
  go_end0;exact⟨rfl,_,H.a.tick _ om om,af.setCell _ _ _ _⟩
theorem cN (h:bD w c fs) (i:Nat) (f:Fi) (hf:fs[i]? =some f) (hi:i<1000) (ino:Int) (hino:ino=i+1):
 Calls prog 69 #[pt c.g 0,.int .i64 ino] w λe w'=>e=.returned (.tuple #[pt f.g 0,.int .i64 0])/\Bw w w':=by
 have c1:w.cell? (ae c.g 178)=some (.map (some c.k.bad)):=(h.cell _).trans (nR h.len);have c2: (w.alloc (.cells #[] 208)).cell? (ae c.g 6)=some (.map (some c.files)):=((h.core.alloc _).cell _).trans (cg h.len);have J:=cC (i+1:Nat) om om;have l1:=h.bad.gw az underlying101 (oI w) (i+1:Nat) J;have l2:=(h.files.alloc (.cells #[] 208)).gw az underlying95 (tj _) (i+1:Nat) J;rw[j7,hf]at l2;rw[dq]at l1;simp only[Option.map_some,Option.getD_some,Option.isSome_some,Option.getD_none,Option.isSome_none]at l1 l2;clear h hf;have I: ((i+1:Nat):Int)=ino:=by omega
 rw[I]at l1 l2 J;clear hino I;go_enter func69,ntmps69;go_wp2;go_ret2;exact⟨rfl,bh.alloc lh _⟩
theorem i' (h:bD w c fs) (i:Nat) (f:Fi) (hf:fs[i]? =some f) (hi:i<1000) (ino:Int) (hino:ino=i+1):
 Calls prog 70 #[pt c.g 0,i6 ino] w λe w'=>e=.returned (.tuple #[pt f.g 0,i6 0])/\Bw w w':=by
 have I:=cN h i f hf hi ino hino;have H:=ja h;clear h hf;clear hino;go_enter func70,ntmps70;go_wp2_with fail
 refine I.mono ?_;rintro e U ⟨rfl,R⟩;have J:=H.a.below R;have c1:U.cell? (ae c.g 178)=some (.map (some c.k.bad)):=(J.cell _).trans (nR J.len);have o:=J.bad.len underlying101 3;have j:=ja R;clear J R;go_wp2;go_ret2;exact⟨rfl,j.a⟩
theorem vV: (prog.info? 41).map (·.size)=some 23:=by kernel_rfl
theorem dv (x:X):∀v∈x.cells,v.oneCell'=true:=by intro v I;simp only[X.cells,Nk,List.mem_cons,List.not_mem_nil,or_false]at I;rcases I with rfl|rfl|rfl|rfl|rfl|rfl|rfl|rfl|rfl|rfl|rfl|rfl|rfl|rfl|rfl|rfl|rfl|rfl|rfl|rfl|rfl|rfl|rfl<;>rfl
theorem Fi.NK (f:Fi):f.x.cells=(f.cells.drop 2).take f.x.cells.length:=rfl
theorem lK (h:bD w c fs) (i:Nat) (f:Fi) (hf:fs[i]? =some f) (hi:i<1000) (ino:Int) (hino:ino=i+1):
 Calls prog 28 #[pt c.g 0,i6 ino] w λe w'=>e=.returned (.tuple #[f.x.val,i6 0])/\Bw w w':=by
 have H:=ja h;have o:=ja hf;have HI:=ja hino;clear h hf hino;go_enter func28,ntmps28;go_upto_region 1 with fail
 generalize R:w.alloc (.cells _ 41)=w0;have J:ak w0 w.heap.size 41 (X.cells ⟨0,0,0,0,0⟩):=by rw[<-R];exact ak.new w _ _
 have I:Bw w w0:=by rw[<-R];exact bh.alloc lh _
 clear R;obtain⟨g,hg⟩:=ex w.heap.size;have U:w.heap.size<=g:=by omega
 rw[hg]at J|-;clear hg;go_wp2_with fail
 refine(cN (H.a.below I) i f o.a hi _ HI.a).mono ?_;rintro e w1 ⟨rfl,j⟩;replace J:=J.ext j;replace I:=I.trans (j.mono I.size);have hF:=(H.a.below I).fi i f o.a;have hr:=hF.blk.bF 2 f.x.cells f.NK;have B0:=ja I;clear I j hF;go_wp2_with(first|refine aw 41 (.tmp 20) rfl rfl f.g 2 rfl f.x.cells _ hr underlying41 rfl vV ?_|refine wpList_store_mid rfl 41 (.tmp 4) (.tmp 21) rfl g 0 f.x.cells.toArray rfl rfl (J.there 0 23 lh) vV (all_oneCell_toArray (dv f.x)) ?_)
 have k5:=J.setCells f.x.cells 0 lh;rw[ck (X.cells ⟨0,0,0,0,0⟩) f.x.cells rfl]at k5;exact bodyPost_ret (v:=.tuple #[f.x.val,i6 0]) (bG f.x.cells _ results28 rfl k5.range underlying41 rfl vV rfl) rfl ⟨rfl,aS B0.a U 0 _⟩
end
end Co
namespace Co
open Go.RowKit
theorem ay.copy {w:World} {K:TypeId} {b:Nat} {l:KV} {es:Array MapEntry} {clock:Nat} (h:ay w prog K b l) (hb:w.heap[b]? =some (.map es clock)):ay (w.alloc (.map es clock)) prog K w.heap.size l:=by obtain⟨R,J,I,F,hs,U⟩:=h;rw[hb]at I;injection I with I;injection I with j o;subst j o;exact⟨es,clock,(MapKept.heap_alloc w _).1,F,hs,U⟩
def zF (w:World) (l:KV) (e:Ending) (w':World):Prop:=∃b,e=.returned (.map (some b))/\Hid (b=w.heap.size)/\Hid (w'.heap.size=b+1)/\ay w' prog 3 b l/\Bw w w'
theorem qt {w:World} {b:Nat} {l:KV} (h:ay w prog 3 b l):
 Calls prog 119 #[.map (some b)] w (zF w l):=by
 obtain⟨es,clock,I⟩:∃es clock,w.heap[b]? =some (.map es clock):=by obtain⟨es,clock,I,_⟩:=h;exact⟨es,clock,I⟩
 have J:=λw=>run_eql_map_nil_sl (P:=prog) w 95 _ _ (some b) underlying95;have H:=ja h;clear h;go_enter func119,ntmps119;go_wp2;rw[run_callFunc_extern func166 kj kj kj (e:=Extern.MapsClone.clone) kj,run_maps_clone_sl w 95 I];simp only[Result.andThen];rw[Oper.upon_value];go_wp2;rw[run_typeAssert_map_sl _ 95 20 _ _ _ underlying95];simp only[Result.andThen];rw[Oper.upon_value];go_wp2;go_ret;exact⟨_,rfl,Lib.hid rfl,Lib.hid sj,ay.copy H.a I,bh.alloc lh _⟩
theorem dK {w:World} {b:Nat} {l:KV} (h:ay w prog 3 b l):
 Calls prog 120 #[.map (some b)] w (zF w l):=by
 obtain⟨es,clock,I⟩:∃es clock,w.heap[b]? =some (.map es clock):=by obtain⟨es,clock,I,_⟩:=h;exact⟨es,clock,I⟩
 have J:=λw=>run_eql_map_nil_sl (P:=prog) w 101 _ _ (some b) underlying101;have H:=ja h;clear h;go_enter func120,ntmps120;go_wp2;rw[run_callFunc_extern func166 kj kj kj (e:=Extern.MapsClone.clone) kj,run_maps_clone_sl w 101 I];simp only[Result.andThen];rw[Oper.upon_value];go_wp2;rw[run_typeAssert_map_sl _ 101 20 _ _ _ underlying101];simp only[Result.andThen];rw[Oper.upon_value];go_wp2;go_ret;exact⟨_,rfl,Lib.hid rfl,Lib.hid sj,ay.copy H.a I,bh.alloc lh _⟩
theorem iY {w:World} {b:Nat} {l:KV} (h:ay w prog 3 b l):
 Calls prog 139 #[.map (some b)] w (zF w l):=by
 obtain⟨es,clock,I⟩:∃es clock,w.heap[b]? =some (.map es clock):=by obtain⟨es,clock,I,_⟩:=h;exact⟨es,clock,I⟩
 have J:=λw=>run_eql_map_nil_sl (P:=prog) w 151 _ _ (some b) underlying151;have H:=ja h;clear h;go_enter func139,ntmps139;go_wp2;rw[run_callFunc_extern func166 kj kj kj (e:=Extern.MapsClone.clone) kj,run_maps_clone_sl w 151 I];simp only[Result.andThen];rw[Oper.upon_value];go_wp2;rw[run_typeAssert_map_sl _ 151 20 _ _ _ underlying151];simp only[Result.andThen];rw[Oper.upon_value];go_wp2;go_ret;exact⟨_,rfl,Lib.hid rfl,Lib.hid sj,ay.copy H.a I,bh.alloc lh _⟩
theorem sw {w:World} {b:Nat} {l:KV} (h:ay w prog 3 b l):
 Calls prog 140 #[.map (some b)] w (zF w l):=by
 obtain⟨es,clock,I⟩:∃es clock,w.heap[b]? =some (.map es clock):=by obtain⟨es,clock,I,_⟩:=h;exact⟨es,clock,I⟩
 have J:=λw=>run_eql_map_nil_sl (P:=prog) w 152 _ _ (some b) underlying152;have H:=ja h;clear h;go_enter func140,ntmps140;go_wp2;rw[run_callFunc_extern func166 kj kj kj (e:=Extern.MapsClone.clone) kj,run_maps_clone_sl w 152 I];simp only[Result.andThen];rw[Oper.upon_value];go_wp2;rw[run_typeAssert_map_sl _ 152 20 _ _ _ underlying152];simp only[Result.andThen];rw[Oper.upon_value];go_wp2;go_ret;exact⟨_,rfl,Lib.hid rfl,Lib.hid sj,ay.copy H.a I,bh.alloc lh _⟩
theorem JK: (prog.info? 155).map (·.size)=some 33:=by kernel_rfl
theorem KS (f:Fi): (prog.info? 155).map (·.size)=some f.cells.length:=JK
theorem Em (o:Option W): (tV o).oneCell'=true:=by cases o<;>rfl
theorem yc (f:Fi):∀v∈f.cells,v.oneCell'=true:=by
 intro v I;simp only[Fi.cells,Fi.maps,List.mem_cons,List.mem_append,List.not_mem_nil,or_false]at I;rcases I with rfl|rfl|h|rfl|rfl|rfl|rfl|rfl|rfl|rfl|rfl
 ·rfl
 ·rfl
 ·exact dv _ v h
 all_goals first|rfl|exact Em _
theorem gK {n:Int} {v:Value}:∀{i:Nat} {fs:List Fi},(n,v)∈cV i fs->∃j f,fs[j]? =some f/\n=((i+j+1:Nat):Int)/\v=pt f.g 0
 |i,[],h=>by unfold cV at h;cases h
 |i,u::r,h=>by
  unfold cV at h;rcases List.mem_cons.1 h with h|h
  ·injection h with I J;exact⟨0,u,rfl,I,J⟩
  ·obtain⟨j,f,R,e,U⟩:=gK h;exact⟨j+1,f,R,by rw[e];congr 1;omega,U⟩
theorem fa:∀(i:Nat) (fs:List Fi),bY (cV i fs)
 |_,[]=>fR
 |i,v::r=>by unfold cV bY;rw[List.pairwise_cons];refine⟨λy I=>?_,fa (i+1) r⟩;obtain⟨n,u⟩:=y;obtain⟨j,f,_,e,_⟩:=gK I;show((i+1:Nat):Int)<n;omega
theorem mI (fs:List Fi):bY (kC fs):=fa 0 fs
theorem tE (fs:List Fi) (i:Nat) (f:Fi) (h:i<=fs.length) (n:Int) (hn:n=i+1):dk (kC fs) n (pt f.g 0)=kC (if i<fs.length then fs.set i f else fs++[f]):=by
 subst hn;refine qe (mJ (mI _) _ _) (mI _) λk=>?_;rw[fW];unfold kC;rw[fg,fg];simp only[Int.ofNat_zero,Int.sub_zero];by_cases R: (i:Int)+1=k
 ·subst R;rw[if_pos rfl,if_pos om,show((i:Int)+1-1).toNat=i by omega];split
  ·rename_i hl;rw[List.getElem?_set_self hl];rfl
  ·rename_i hl;obtain rfl:i=fs.length:=(by omega);simp
 ·rw[if_neg R];by_cases I: (0:Int)<k
  ·rw[if_pos I,if_pos I];obtain⟨j,hj⟩:∃j:Nat,(k-1).toNat=j:=⟨_,rfl⟩;have J:i≠j:=(by omega);rw[hj];split
   ·rw[List.getElem?_set_ne J]
   ·rename_i hl;rw[List.getElem?_append];split
    ·rfl
    ·rename_i hj;rw[List.getElem?_eq_none om,List.getElem?_eq_none (by simp;omega)]
  ·rw[if_neg I,if_neg I]
structure r7 (f f':Fi):Prop where
 at_:f'.at_=f.at_
 sum:f'.sum=f.sum
 ty:f'.ty=f.ty
 ar:f'.ar=f.ar
 bN:f'.bN=f.bN
 tick:f'.tick=f.tick
 cU:f'.cU=f.cU
 vs:f'.vs=f.vs
 d:f'.d=f.d
def AW (c c':C):Prop:=∃own,c'={c with own:=own}
def owns (c:C) (B i:Nat):Nat->Nat:=λb=>if b<B then c.own b else if b<B+6 then 10*(i+1)+(b-B)else 0
def Fs (w:World) (c:C) (fs:List Fi) (i:Nat) (f:Fi) (e:Ending) (w':World):Prop:=∃c' f',e=.returned (pt f'.g 0)/\r7 f f'/\f'.age=c.age/\AW c c'/\bD w' c' (fs.set i f')/\Step w c w' c'
section
variable {w:World} {c:C} {fs:List Fi}
theorem Cv (h:bD w c fs) (i:Nat) (f:Fi) (hf:fs[i]? =some f) (ha:f.age=c.age) {w':World} (hb:Bw w w'):Fs w c fs i f (.returned (pt f.g 0)) w':=by
 have e:fs.set i f=fs:=by obtain⟨hi,rfl⟩:=List.getElem?_eq_some_iff.1 hf;exact List.set_getElem_self hi
 exact⟨c,f,rfl,⟨rfl,rfl,rfl,rfl,rfl,rfl,rfl,rfl,rfl⟩,ha,⟨_,rfl⟩,by rw[e];exact h.below hb,Step.below hb c⟩
theorem EI {B i b:Nat} (h:b<B):owns c B i b=c.own b:=if_pos h
theorem im {B i j:Nat} (h:j<6):owns c B i (B+j)=10*(i+1)+j:=by unfold owns;rw[if_neg om,if_pos om];congr 1;omega
theorem Ge {wd W w7:World} (H:bD wd c fs) (i:Nat) (f:Fi) (hf:fs[i]? =some f) (hb0:Bw w wd) {ino:Int} (hino:ino=i+1) {g l1 l2 l3 l4 l5:Nat} (hg:wd.heap.size=g)
 (X7:af (· =g) wd W) (K7:ak W g 155 (Fi.cells ⟨g,l1,l2,l3,l4,l5,f.at_,f.sum,f.ty,f.ar,f.bN,f.tick,f.cU,c.age,f.vs,f.d⟩))
 (e1:l1=g+1) (e2:l2=g+2) (e3:l3=g+3) (e4:l4=g+4) (e5:l5=g+5) (hs:g+6<=W.heap.size)
 (m1:ay W prog 3 l1 []) (m2:ay W prog 3 l2 (gT f.vs)) (m3:ay W prog 3 l3 []) (m4:ay W prog 3 l4 []) (m5:ay W prog 3 l5 [])
 (m7:ay w7 prog 3 c.files (dk (kC fs) ino (pt g 0))) (t7:W.mapTurned w7 c.files):Fs w c fs i f (.returned (pt g 0)) w7:=by
 have A':i<fs.length:=(List.getElem?_eq_some_iff.1 hf).1;have hF:=H.fi i f hf;have A2:=H.files.lt;rw[hg]at A2;have I:af (· =c.files) W w7:=af.bt t7.grown (λ_ e=>(Option.some.inj e).symm);have A4:W.heap.size<=w7.heap.size:=I.size;have U:af (λb=>b=g\/b=c.files) wd w7:=(X7.mono (λ_ e=>.inl e)).trans I (λ_ e=>.inl (.inr e));have J:∀b,b<wd.heap.size->owns c g i b=c.own b:=λb R=>EI om;have A5:=hF.o0;refine⟨{c with own:=owns c g i},⟨g,l1,l2,l3,l4,l5,f.at_,f.sum,f.ty,f.ar,f.bN,f.tick,f.cU,c.age,f.vs,f.d⟩,rfl,⟨rfl,rfl,rfl,rfl,rfl,rfl,rfl,rfl,rfl⟩,rfl,⟨_,rfl⟩,?_,?_⟩
 ·refine H.qv U (λb R hl=>R.elim (λe=>absurd hl om) (λe=>.inl e)) rfl J ?_ ?_ ?_ (by rw[List.length_set];exact H.gM)
  ·intro b R;show owns c g i b=0;unfold owns;rw[if_neg om,if_neg om]
  ·rw[tE fs i ⟨g,l1,l2,l3,l4,l5,f.at_,f.sum,f.ty,f.ar,f.bN,f.tick,f.cU,c.age,f.vs,f.d⟩ om ino hino,if_pos A']at m7;exact m7
  ·intro j f' o;by_cases A0:i=j
   ·subst A0;rw[List.getElem?_set_self A']at o;injection o with o;subst o;have A3:∀n v,f.vs[n]? =some v->Bs w7 w7.heap.size v (Sp.blk f.d n)/\∀b,v.ownBlock=some b->owns c g i b=0:=λn v hv=>(by have ho:=hF.jW n v hv;have A1:∀b,v.ownBlock=some b->b<wd.heap.size:=λb R=>oM ho.1 R (by rw[Sp.aM];omega);exact⟨af.bs U ho.1 λb R e=>e.elim (λe=>absurd (A1 b R) om) (λe=>absurd (ho.2 b R) (by rw[e,H.o2];decide)),λb R=>(J b (A1 b R)).trans (ho.2 b R)⟩);subst e1 e2 e3 e4 e5;exact{
     blk:=I.blk K7 (show g≠c.files by omega)
     cA:=I.map m1 (show g+1≠c.files by omega)
     fresh:=I.map m2 (show g+2≠c.files by omega)
     bA:=I.map m3 (show g+3≠c.files by omega)
     lost:=I.map m4 (show g+4≠c.files by omega)
     nodes:=I.map m5 (show g+5≠c.files by omega)
     o0:=im (j:=0) dc
     o1:=im (j:=1) dc
     o2:=im (j:=2) dc
     o3:=im (j:=3) dc
     o4:=im (j:=4) dc
     o5:=im (j:=5) dc
     cU:=λp hp=>(hF.cU p hp).bU U (λb R hl=>R.elim (λe=>absurd hl om) (λe=>by rw[e,H.o2];decide)) J
     jW:=A3
     ok:=hF.ok}
   ·rw[List.getElem?_set_ne A0]at o;exact(H.fi j f' o).bU U (λb R hl=>R.elim (λe=>absurd hl om) (λe=>by rw[e,H.o2];exact⟨by decide,by omega⟩)) J
 ·refine(Step.below hb0 c).trans ⟨?_,J⟩;refine⟨U.os,U.tape,U.output,U.size,λk hk hn=>U.block k hk (λe=>?_)⟩;rcases e with e|e
  ·omega
  ·exact hn (by show c.own k≠0;rw[e,H.o2];decide)
theorem vX (h:bD w c fs) (i:Nat) (f:Fi) (hf:fs[i]? =some f) (hi:i<1000) (ino:Int) (hino:ino=i+1):
 Calls prog 86 #[pt c.g 0,i6 ino] w (Fs w c fs i f):=by
 have c2:w.cell? (ae c.g 6)=some (.map (some c.files)):=(h.cell _).trans (cg h.len);have c3:w.cell? (ae c.g 194)=some (i6 c.age):=(h.cell _).trans (gF h.len);have hF:=h.fi i f hf;have c4:w.cell? (ae f.g 32)=some (i6 f.age):=hF.blk.cell 32;have A':=cC ino om om;have l2:=h.files.look az underlying95 (tj _) ino A';have J: ((i+1:Nat):Int)=ino:=by omega
 rw[<-J,j7,hf,J]at l2;simp only[Option.map_some,Option.getD_some]at l2;have HI:=ja hino;have HF:=ja hf;have Ae:=ja hF;have H:=ja h;have A7:=ja A';clear hino J hf h hF A';by_cases ha:f.age=c.age
 ·have e1: (f.age==c.age)=true:=(by rw[ha];exact beq_self_eq_true _);have HA:=ja ha;clear ha;go_enter func86,ntmps86;go_wp2;go_quiet (fail);go_wp2;go_ret;exact Cv H.a i f HF.a HA.a (below_drewN bh nq)
 ·have e1: (f.age==c.age)=false:=beq_eq_false_iff_ne.2 ha;clear ha;go_enter func86,ntmps86;go_wp2;go_quiet (fail);have A0:=below_drewN (Below.refl w.heap.size w) nq;generalize w.drewN nq=wd at A0|-;have H1:=H.a.below A0;have A1:=H1.fi i f HF.a;have hr:wd.rangeAt f.g 0 f.cells:=A1.blk.range;have A3:=ja A1;have U:=ja H1;clear A1 H1 c2 c3 c4;go_upto_region 5 with(first|refine aw 155 (.tmp 25) rfl rfl f.g 0 rfl f.cells _ hr underlying155 rfl JK ?_|(with_reducible refine bE rfl 155 (.tmp 6) (.tmp 26) rfl f.cells rfl rfl ?_ rfl (KS f) (yc f) ?_))
  ·exact Nat.le_refl 33
  generalize hW:wd.alloc (.cells _ 155)=wa;obtain⟨z,hz,ka⟩:∃z:List Value,z.length=33/\ak wa wd.heap.size 155 z:=⟨_,rfl,by rw[<-hW];exact ak.new wd _ _⟩;have sa:wa.heap.size=wd.heap.size+1:=(by rw[<-hW];simp);have ba:Bw wd wa:=(by rw[<-hW];exact bh.alloc lh _);clear hW;obtain⟨g,hg⟩:=ex wd.heap.size;have A8:wd.heap.size<=g:=(by omega);rw[hg]at ka sa|-;have kb:=ka.setCells f.cells 0 (by rw[hz];exact Nat.le_refl 33);rw[ck z f.cells (by rw[hz];rfl)]at kb;have bb:=aS ba A8 0 f.cells;have sb: (wa.setCells g 0 f.cells).heap.size=g+1:=(by rw[fc,sa]);generalize wa.setCells g 0 f.cells=w0 at kb bb sb|-;have SB:=ja sb;have HG:=ja hg;clear sa sb ka ba hr hg hz;have A2:=A3.a.below bb;have j:¬f.g=g:=λe=>(by have:=A3.a.blk.lt;have:=HG.a;omega);have Aa:¬g=f.g:=λe=>j e.symm;have I:=ja A2;have o:=ja (show c.own g=0 from U.a.hi g (by rw[HG.a];exact Nat.le_refl _));have c0:w0.cell? (ae f.g 25)=some (.map (some f.cA)):=A2.blk.cell 25;have f0:=kb.frozen;have T0:af (· =g) w0 w0:=af.refl _ _;have K0:=ja kb;clear A2 kb;(go_wp2_with fail);refine(iY (T0.map I.a.cA (λe=>absurd (e▸I.a.o1) (by rw[o.a];omega)))).mono ?_;rintro e w1 ⟨l1,rfl,L1,S1,m1,b1⟩;have c1:w1.cell? (ae f.g 26)=some (.map (some f.fresh)):=((T0.trans (af.aj (X:=(· =g)) b1) (λ_ h=>.inl h)).cell (p:=ae f.g 26) I.a.blk.lt j).trans (I.a.blk.cell 26);have d1:w1.cell? (ae g 25)=some (.map (some f.cA)):=(K0.a.ext b1).cell 25;have K1:=ja ((K0.a.ext b1).aC 25 (.map (some l1)));have f1:=(K0.a.ext b1).frozen;have T1:=(T0.trans (af.aj (X:=(· =g)) b1) (λ_ h=>.inl h)).trans (af.setCell w1 g 25 (.map (some l1))) (λ_ h=>.inl h);have B1:=ja b1;clear c0 f0 b1;(go_wp2_with fail);refine(sw (T1.map I.a.fresh (λe=>absurd (e▸I.a.o2) (by rw[o.a];omega)))).mono ?_;rintro e w2 ⟨l2,rfl,L2,S2,m2,b2⟩;have c2:w2.cell? (ae f.g 27)=some (.map (some f.bA)):=((T1.trans (af.aj (X:=(· =g)) b2) (λ_ h=>.inl h)).cell (p:=ae f.g 27) I.a.blk.lt j).trans (I.a.blk.cell 27);have d2:w2.cell? (ae g 26)=some (.map (some f.fresh)):=(K1.a.ext b2).cell 26;have K2:=ja ((K1.a.ext b2).aC 26 (.map (some l2)));have f2:=(K1.a.ext b2).frozen;have T2:=(T1.trans (af.aj (X:=(· =g)) b2) (λ_ h=>.inl h)).trans (af.setCell w2 g 26 (.map (some l2))) (λ_ h=>.inl h);have B2:=ja b2;clear c1 f1 d1 b2;(go_wp2_with fail);refine(dK (T2.map I.a.bA (λe=>absurd (e▸I.a.o3) (by rw[o.a];omega)))).mono ?_;rintro e w3 ⟨l3,rfl,L3,S3,m3,b3⟩;have c3:w3.cell? (ae f.g 28)=some (.map (some f.lost)):=((T2.trans (af.aj (X:=(· =g)) b3) (λ_ h=>.inl h)).cell (p:=ae f.g 28) I.a.blk.lt j).trans (I.a.blk.cell 28);have d3:w3.cell? (ae g 27)=some (.map (some f.bA)):=(K2.a.ext b3).cell 27;have K3:=ja ((K2.a.ext b3).aC 27 (.map (some l3)));have f3:=(K2.a.ext b3).frozen;have T3:=(T2.trans (af.aj (X:=(· =g)) b3) (λ_ h=>.inl h)).trans (af.setCell w3 g 27 (.map (some l3))) (λ_ h=>.inl h);have B3:=ja b3;clear c2 f2 d2 b3;(go_wp2_with fail);refine(dK (T3.map I.a.lost (λe=>absurd (e▸I.a.o4) (by rw[o.a];omega)))).mono ?_;rintro e w4 ⟨l4,rfl,L4,S4,m4,b4⟩;have c4:w4.cell? (ae f.g 29)=some (.map (some f.nodes)):=((T3.trans (af.aj (X:=(· =g)) b4) (λ_ h=>.inl h)).cell (p:=ae f.g 29) I.a.blk.lt j).trans (I.a.blk.cell 29);have d4:w4.cell? (ae g 28)=some (.map (some f.lost)):=(K3.a.ext b4).cell 28;have K4:=ja ((K3.a.ext b4).aC 28 (.map (some l4)));have f4:=(K3.a.ext b4).frozen;have T4:=(T3.trans (af.aj (X:=(· =g)) b4) (λ_ h=>.inl h)).trans (af.setCell w4 g 28 (.map (some l4))) (λ_ h=>.inl h);have B4:=ja b4;clear c3 f3 d3 b4;(go_wp2_with fail);refine(dK (T4.map I.a.nodes (λe=>absurd (e▸I.a.o5) (by rw[o.a];omega)))).mono ?_;rintro e w5 ⟨l5,rfl,L5,S5,m5,b5⟩;have d5:w5.cell? (ae g 29)=some (.map (some f.nodes)):=(K4.a.ext b5).cell 29;have K5:=ja ((K4.a.ext b5).aC 29 (.map (some l5)));have f5:=(K4.a.ext b5).frozen;have T5:=(T4.trans (af.aj (X:=(· =g)) b5) (λ_ h=>.inl h)).trans (af.setCell w5 g 29 (.map (some l5))) (λ_ h=>.inl h);have B5:=ja b5;clear c4 f4 d4;have R:=U.a.below bb;have A4:¬c.g=g:=λe=>(by have:=U.a.core.lt;have:=HG.a;omega);have Ab:¬g=c.g:=λe=>A4 e.symm;have T6:=T4.trans (af.aj (X:=(· =g)) b5) (λ_ h=>.inl h);have KC:=T6.blk R.core A4;have c6:w5.cell? (ae c.g 6)=some (.map (some c.files)):=(KC.cell 6).trans (cg R.len);have c7:w5.cell? (ae c.g 194)=some (i6 c.age):=(KC.cell 194).trans (gF R.len);have d6:w5.cell? (ae g 32)=some (i6 f.age):=(K4.a.ext b5).cell 32;have A9:c.files≠g:=λe=>(by have:=U.a.files.lt;have:=HG.a;omega);have T7:=T5.trans (af.setCell _ g 32 (i6 c.age)) (λ_ h=>.inl h);have K7:=ja (K5.a.aC 32 (i6 c.age));obtain⟨w7,Ad,A5,A6⟩:=ay.store (T7.map R.files A9) az underlying95 (by rw[jZ,aq];have:=R.gM;omega) ino A7.a (pt g 0);have AI:=ja A5;have AR:=ja A6;have X7:=(af.aj (X:=(· =g)) bb).trans T7 (λ_ h=>.inl h);have B5:=ja b5;clear R KC A5 A6 b5;go_wp2;go_ret;have z1:=L1.out;have z2:=L2.out;have z3:=L3.out;have z4:=L4.out;have z5:=L5.out;have y1:=S1.out;have y2:=S2.out;have y3:=S3.out;have y4:=S4.out;have y5:=S5.out;have y0:=SB.a;simp only[World.size_setCell]at z2 z3 z4 z5;have n1:l1≠g:=(by omega);have n2:l2≠g:=(by omega);have n3:l3≠g:=(by omega);have n4:l4≠g:=(by omega);have n5:l5≠g:=(by omega);have R5:=(af.setCell w5 g 29 (.map (some l5))).trans (af.setCell _ g 32 (i6 c.age)) (λ_ h=>.inl h);have R4:=((af.setCell w4 g 28 (.map (some l4))).trans (af.aj (X:=(· =g)) B5.a) (λ_ h=>.inl h)).trans R5 (λ_ h=>.inl h);have R3:=((af.setCell w3 g 27 (.map (some l3))).trans (af.aj (X:=(· =g)) B4.a) (λ_ h=>.inl h)).trans R4 (λ_ h=>.inl h);have R2:=((af.setCell w2 g 26 (.map (some l2))).trans (af.aj (X:=(· =g)) B3.a) (λ_ h=>.inl h)).trans R3 (λ_ h=>.inl h);have R1:=((af.setCell w1 g 25 (.map (some l1))).trans (af.aj (X:=(· =g)) B2.a) (λ_ h=>.inl h)).trans R2 (λ_ h=>.inl h);exact Ge U.a i f HF.a A0 HI.a HG.a X7 K7.a om om om om om (by simp only[World.size_setCell];omega)
   (R1.map m1 n1) (R2.map m2 n2) (R3.map m3 n3) (R4.map m4 n4) (R5.map m5 n5) AI.a AR.a
end
end Co
namespace Co
open Go.RowKit
section
variable {w w':World} {c:C} {fs:List Fi}
theorem nd:∀(k:Nat) (fs:List Fi) (i:Nat) (f f':Fi),fs[i]? =some f->f'.g=f.g->cV k (fs.set i f')=cV k fs
 |_,[],_,_,_,h,_=>by simp at h
 |k,u::r,0,f,f',h,e=>by simp only[List.getElem?_cons_zero,Option.some.injEq]at h;subst h;rw[List.set_cons_zero];unfold cV;rw[e]
 |k,u::r,i+1,f,f',h,e=>by rw[List.getElem?_cons_succ]at h;rw[List.set_cons_succ];unfold cV;rw[nd (k+1) r i f f' h e]
theorem bD.Jr (h:bD w c fs) {i:Nat} {f f':Fi} (hf:fs[i]? =some f) {X:Nat->Prop} (ht:af X w w') (hX:∀b,X b->b<w.heap.size->c.own b/10=i+1) (hn:kB w' c.own i f') (hg:f'.g=f.g):bD w' c (fs.set i f')/\Step w c w' c:=by
 have U:i<fs.length:=(List.getElem?_eq_some_iff.1 hf).1;refine⟨h.qv ht (λb J o=>.inr (oa (hX b J o))) rfl (λ_ _=>rfl) (λb J=>h.hi b (Nat.le_trans ht.size J)) ?_ ?_ (by rw[List.length_set];exact h.gM),?_⟩
 ·have e:kC (fs.set i f')=kC fs:=nd 0 fs i f f' hf hg;rw[e];exact ht.map h.files λe=>by have:=hX _ e h.files.lt;rw[h.o2]at this;omega
 ·intro j f2 I;by_cases R:i=j
  ·subst R;rw[List.getElem?_set_self U]at I;injection I with I;subst I;exact hn
  ·rw[List.getElem?_set_ne R]at I;exact(h.fi j f2 I).bU ht (λb J o=>by have:=hX b J o;exact⟨by omega,by omega⟩) (λ_ _=>rfl)
 ·exact⟨⟨ht.os,ht.tape,ht.output,ht.size,λk hk A'=>ht.block k hk λe=>A' (by have:=hX k e hk;show c.own k≠0;omega)⟩,λ_ _=>rfl⟩
theorem bD.M' (h:bD w c fs) {i:Nat} {f f':Fi} (hf:fs[i]? =some f) {o:Nat} {v:Value} (hc:f.cells.set o v=f'.cells) (h0:f'.g=f.g) (h1:f'.cA=f.cA) (h2:f'.fresh=f.fresh) (h3:f'.bA=f.bA) (h4:f'.lost=f.lost) (h5:f'.nodes=f.nodes)
 (h6:f'.cU=f.cU) (h7:f'.vs=f.vs) (h8:∀n,n<f.vs.length->Sp.blk f'.d n=Sp.blk f.d n) (h9: (Sp.F.mk f'.d f'.vs.length).ok):bD (w.setCell (ae f.g o) v) c (fs.set i f')/\Step w c (w.setCell (ae f.g o) v) c:=by
 have I:=h.fi i f hf;have T:=af.setCell w f.g o v;refine h.Jr hf T (λb J _=>by rw[J,I.o0];omega) ?_ h0;exact{
  blk:=by rw[h0,<-hc];exact I.blk.aC o v
  cA:=by rw[h1];exact T.map I.cA λe=>absurd (e▸I.o1) (by rw[I.o0];omega)
  fresh:=by rw[h2,h7];exact T.map I.fresh λe=>absurd (e▸I.o2) (by rw[I.o0];omega)
  bA:=by rw[h3];exact T.map I.bA λe=>absurd (e▸I.o3) (by rw[I.o0];omega)
  lost:=by rw[h4];exact T.map I.lost λe=>absurd (e▸I.o4) (by rw[I.o0];omega)
  nodes:=by rw[h5];exact T.map I.nodes λe=>absurd (e▸I.o5) (by rw[I.o0];omega)
  o0:=by rw[h0];exact I.o0
  o1:=by rw[h1];exact I.o1
  o2:=by rw[h2];exact I.o2
  o3:=by rw[h3];exact I.o3
  o4:=by rw[h4];exact I.o4
  o5:=by rw[h5];exact I.o5
  cU:=λp hp=>(I.cU p (h6▸hp)).bU T (λb J _=>by rw[J,I.o0];omega) (λ_ _=>rfl)
  jW:=λn v R=>by rw[h7]at R;have U:=I.jW n v R;rw[h8 n (List.getElem?_eq_some_iff.1 R).1];exact⟨af.bs T U.1 λb J e=>absurd (U.2 b J) (by rw[e,I.o0];omega),U.2⟩
  ok:=h9}
def ub (w:World) (c:C) (fs:List Fi) (i:Nat) (f:Fi) (by_:Int) (e:Ending) (w':World):Prop:=∃c' f',e=.returned (i6 0)/\r7 {f with ar:=f.ar+by_} f'/\AW c c'/\bD w' c' (fs.set i f')/\Step w c w' c'
theorem gY (h:bD w c fs) (i:Nat) (f:Fi) (hf:fs[i]? =some f) (hi:i<1000) (ino:Int) (hino:ino=i+1) (by_:Int) (hl0:0<=f.ar) (hl1:f.ar<=200) (hb0:-f.ar<=by_) (hb1:by_<=200-f.ar):
 Calls prog 38 #[pt c.g 0,i6 ino,i6 by_] w (ub w c fs i f by_):=by
 have H:=ja h;have HI:=ja hino;have HF:=ja hf;clear h hino hf;go_enter func38,ntmps38;go_wp2_with fail
 refine(i' H.a i f HF.a hi _ HI.a).mono ?_;rintro e w1 ⟨rfl,b1⟩;have H1:=H.a.below b1;have c1:w1.cell? (ae f.g 3)=some (i6 f.ar):=(H1.fi i f HF.a).blk.cell 3;have A':=ja H1;have B1:=ja b1;clear H1 b1;have n1:decide (by_< -f.ar)=false:=decide_eq_false om;have n2:decide (200-f.ar<by_)=false:=decide_eq_false om;go_wp2_with fail
 refine(vX A'.a i f HF.a hi _ HI.a).mono ?_;rintro e w2 ⟨c2,f2,rfl,I,ha,ho,U,s2⟩;have j:i<fs.length:=(List.getElem?_eq_some_iff.1 HF.a).1;have J: (fs.set i f2)[i]? =some f2:=List.getElem?_set_self j;have R:=U.fi i f2 J;have A1:w2.cell? (ae f2.g 3)=some (i6 f.ar):=(R.blk.cell 3).trans (by rw[<-I.ar];rfl);have r2:=R.blk.frozen 3;have HQ:=ja (⟨I,ho,U,s2,J,R.ok⟩:r7 f f2/\AW c c2/\bD w2 c2 (fs.set i f2)/\Step w1 c w2 c2/\(fs.set i f2)[i]? =some f2/\(Sp.F.mk f2.d f2.vs.length).ok);clear I ha ho U s2 j J R n1 n2 c1;have A2:0<=f.ar+by_:=by omega
 have A3:f.ar+by_<=200:=by omega
 go_wp2;go_ret;obtain⟨I,ho,U,s2,J,A0⟩:=HQ.a;obtain⟨H3,s3⟩:=U.M' J (f':={f2 with ar:=f.ar+by_}) (o:=3) (v:=i6 (f.ar+by_)) rfl rfl rfl rfl rfl rfl rfl rfl rfl (λ_ _=>rfl) A0;rw[List.set_set]at H3;exact⟨c2,{f2 with ar:=f.ar+by_},rfl,⟨I.at_,I.sum,I.ty,rfl,I.bN,I.tick,I.cU,I.vs,I.d⟩,ho,H3,((Step.below B1.a c).trans s2).trans s3⟩
end
end Co
namespace Cd
open Pk (bO db)
theorem js (w:Int) (ws:List Int):db (w::ws)=w.toNat+db ws:=by unfold db;simp
theorem zip_fst:∀(W:List Int) (V:List Nat),V.length=W.length->(W.zip V).map (·.1)=W
 |[],[],_=>rfl
 |[],_::_,h=>by simp at h
 |_::_,[],h=>by simp at h
 |w::W,v::V,h=>by rw[List.zip_cons_cons,List.map_cons,zip_fst W V (by simpa using h)]
theorem fh (W:List Int) (V:List Nat) (h:V.length=W.length): (bO (W.zip V)).length=db W:=by
 have e:db W=db ((W.zip V).map (·.1)):=by rw[zip_fst W V h]
 rw[Pk.fh,e];unfold db;rw[List.map_map];rfl
end Cd
namespace Nd
open Pk (iQ bO)
open Crc (bR)
structure In where
 t:Int
 l:Int
 v:Int
 s:Int
 k:Int
 ps:List (Int×Nat)
deriving DecidableEq
def dj (p:Int×Nat):Bool:=decide (0<=p.1/\p.1<=2147483647/\(p.1=0->p.2=0))
def uA (t l v s k:Int):Bool:=decide ((t=1\/t=2)/\0<=l/\l<=200/\0<=v/\v<=2147483647/\0<=s/\s<=1099511627776/\0<=k/\k<=2147483647)
def aV (x:In):Bool:=uA x.t x.l x.v x.s x.k&&x.ps.all dj
def lQ (i:Int):Bool:=decide (1<=i/\i<=39)
def pW:Nat->List Int
 |0=>[]
 |n+1=>4::4::pW n
def pV (ps:List (Int×Nat)):List Nat:=ps.flatMap λp=>[p.1.toNat,p.2]
def I_:List Int:=[4,1,1,1,4,6,4]++pW 9
def Jl (i:Nat) (x:In):List Nat:=[1768845156,i,x.t.toNat,x.l.toNat,x.v.toNat,x.s.toNat,x.k.toNat]++pV x.ps
def ND (i:Nat) (x:In):List UInt8:=bR (bO (I_.zip (Jl i x)))
def NC (ps:List (Int×Nat)):List UInt8:=bR (bO ((pW 15).zip (pV ps)))
theorem jK:∀n,(pW n).length=2*n
 |0=>rfl
 |n+1=>by rw[pW,List.length_cons,List.length_cons,jK n];omega
theorem rY (p:Int×Nat) (ps:List (Int×Nat)):pV (p::ps)=p.1.toNat::p.2::pV ps:=by unfold pV;rw[List.flatMap_cons];rfl
theorem jy:∀ps,(pV ps).length=2*ps.length
 |[]=>rfl
 |p::ps=>by rw[rY,List.length_cons,List.length_cons,List.length_cons,jy ps];omega
theorem sD:∀(ps:List (Int×Nat)),ps.all dj=true->(∀p∈ps,p.2<4294967296)->∀x∈(pW ps.length).zip (pV ps),iQ x=0
 |[],_,_,x,hx=>by simp[pW,pV]at hx
 |p::ps,hp,hs,x,hx=>by
  rw[rY,List.length_cons,pW,List.zip_cons_cons,List.zip_cons_cons]at hx;simp only[List.all_cons,Bool.and_eq_true]at hp;have I:=hp.1;unfold dj at I;rw[decide_eq_true_iff]at I;have R:=hs p List.mem_cons_self;rcases List.mem_cons.1 hx with rfl|hx
  ·refine Pk.dy rfl ?_;simp;omega
  ·rcases List.mem_cons.1 hx with rfl|hx
   ·refine Pk.dy rfl ?_;simp;omega
   ·exact sD ps hp.2 (λq J=>hs q (List.mem_cons_of_mem _ J)) x hx
def Good (x:In):Prop:=x.ps.length=9/\∀p∈x.ps,p.2<4294967296
theorem eK (a:List Int) (b:List Nat) (c:List Int) (d:List Nat) (h:a.length=b.length): (a++c).zip (b++d)=a.zip b++c.zip d:=List.zip_append h
theorem LA (i:Nat) (x:In) (hi:lQ i=true) (hm:aV x=true) (hg:Good x):∀y∈I_.zip (Jl i x),iQ y=0:=by
 unfold lQ at hi;unfold aV uA at hm;rw[Bool.and_eq_true,decide_eq_true_iff]at hm;rw[decide_eq_true_iff]at hi;obtain⟨h1,h2⟩:=hm;intro y hy;unfold I_ Jl at hy;rw[eK _ _ _ _ rfl]at hy;rcases List.mem_append.1 hy with hy|hy
 ·simp only[List.zip_cons_cons,List.zip_nil_right,List.mem_cons,List.not_mem_nil,or_false]at hy;rcases hy with rfl|rfl|rfl|rfl|rfl|rfl|rfl<;>refine Pk.dy rfl ?_<;>simp<;>omega
 ·rw[<-hg.1]at hy;exact sD x.ps h2 hg.2 y hy
theorem Ip (i:Nat) (x:In) (hg:Good x): (Jl i x).length=I_.length:=by unfold Jl I_;rw[List.length_append,List.length_append,jy,jK,hg.1];rfl
theorem Kw (ps:List (Int×Nat)) (h:ps.length=15): (pV ps).length=(pW 15).length:=by rw[jy,jK,h]
theorem LF (ps:List (Int×Nat)) (h:ps.length=15) (ha:ps.all dj=true) (hs:∀p∈ps,p.2<4294967296):∀x∈(pW 15).zip (pV ps),iQ x=0:=by rw[<-h];exact sD ps ha hs
theorem zO (i:Nat) (x:In) (hg:Good x): (bO (I_.zip (Jl i x))).length=93:=Cd.fh I_ _ (Ip i x hg)
theorem IB (ps:List (Int×Nat)) (h:ps.length=15): (bO ((pW 15).zip (pV ps))).length=120:=Cd.fh (pW 15) _ (Kw ps h)
end Nd
namespace Im
structure Sl where
 a:Int
 s:Nat
 v:Int
deriving DecidableEq
def Sl.zero:Sl:=⟨0,0,0⟩
def Sl.ptr (x:Sl):Int×Nat:=(x.a,x.s)
def mO (x:Sl):Bool:=Nd.dj x.ptr&&decide (0<=x.v/\x.v<=2147483647)
def zero:List Sl:=List.replicate 40 Sl.zero
def blk (m:List Sl) (k:Nat):List Sl:=(m.drop (10*k)).take 10
def jQ (b:List Sl) (k:Int):Bool:=b.all mO&&(decide (0<k)||decide (b.getD 0 Sl.zero=Sl.zero))
def aV (m:List Sl):Bool:=m.all mO&&decide (m.getD 0 Sl.zero=Sl.zero)
def Good (m:List Sl):Prop:=m.length=40/\∀x∈m,x.s<4294967296
theorem aM {m:List Sl} (h:m.length=40) {k:Nat} (hk:k<4): (blk m k).length=10:=by unfold blk;rw[List.length_take,List.length_drop];omega
theorem Ie {m:List Sl} (i k:Nat) (hi:i<10): (blk m k).getD i Sl.zero=m.getD (10*k+i) Sl.zero:=by unfold blk;rw[List.getD_eq_getElem?_getD,List.getD_eq_getElem?_getD,List.getElem?_take,if_pos hi,List.getElem?_drop]
theorem NN {m:List Sl} (h:m.length=40):m=blk m 0++(blk m 1++(blk m 2++blk m 3)):=by
 unfold blk;have I: (m.drop 30).take 10=m.drop 30:=List.take_of_length_le (by rw[List.length_drop];omega);have J: (m.drop 20).take 10++m.drop 30=m.drop 20:=by rw[show m.drop 30=(m.drop 20).drop 10 by rw[List.drop_drop],List.take_append_drop]
 have R: (m.drop 10).take 10++m.drop 20=m.drop 10:=by rw[show m.drop 20=(m.drop 10).drop 10 by rw[List.drop_drop],List.take_append_drop]
 show m=(m.drop 0).take 10++((m.drop 10).take 10++((m.drop 20).take 10++(m.drop 30).take 10));rw[I,J,R,List.drop_zero,List.take_append_drop]
theorem Ed {m:List Sl} (h:m.length=40):aV m=(List.range 4).all λk=>jQ (blk m k) k:=by
 have e:m.all mO=((blk m 0).all mO&&((blk m 1).all mO&&((blk m 2).all mO&&(blk m 3).all mO))):=by
  (conv=>lhs;rw[NN h]);rw[List.all_append,List.all_append,List.all_append]
 have I: (blk m 0).getD 0 Sl.zero=m.getD 0 Sl.zero:=Ie 0 0 om;unfold aV;rw[e];show _=(jQ (blk m 0) 0&&(jQ (blk m 1) 1&&(jQ (blk m 2) 2&&(jQ (blk m 3) 3&&true))));unfold jQ;rw[I];cases(blk m 0).all mO<;>cases(blk m 1).all mO<;>cases(blk m 2).all mO<;>cases(blk m 3).all mO<;>cases decide (m.getD 0 Sl.zero=Sl.zero)<;>rfl
theorem zX {m:List Sl} (h:aV m=true): (∀x∈m,mO x=true)/\m.getD 0 Sl.zero=Sl.zero:=by unfold aV at h;rw[Bool.and_eq_true,decide_eq_true_iff]at h;exact⟨λx hx=>List.all_eq_true.1 h.1 x hx,h.2⟩
theorem lW {m:List Sl} {i:Nat} (h:i<m.length):m.getD i Sl.zero∈m:=by rw[List.getD_eq_getElem?_getD,List.getElem?_eq_getElem h];exact List.getElem_mem h
theorem jP {x:Sl} (h:mO x=true):0<=x.a/\x.a<=2147483647/\(x.a=0->x.s=0)/\0<=x.v/\x.v<=2147483647:=by unfold mO Nd.dj Sl.ptr at h;rw[Bool.and_eq_true,decide_eq_true_iff,decide_eq_true_iff]at h;exact⟨h.1.1,h.1.2.1,h.1.2.2,h.2.1,h.2.2⟩
theorem pU {m:List Sl} (h:aV m=true) (hl:m.length=40) (i:Nat) (hi:i<40):mO (m.getD i Sl.zero)=true:=(zX h).1 _ (lW om)
def lQ (i:Int):Bool:=decide (1<=i/\i<=39)
def bZ (m:List Sl) (i:Int):Nat:=if aV m then(if lQ i then 0 else 4)else 1
def at_ (m:List Sl) (i:Int):Sl:=m.getD i.toNat Sl.zero
def lp (m:List Sl) (i:Int) (p:Int×Nat):Nat:=if bZ m i=0 then(if 1<=p.1/\Nd.dj p=true then 0 else 1)else bZ m i
def qx (m:List Sl) (i:Int) (p:Int×Nat):List Sl:=if lp m i p=0 then m.set i.toNat ⟨p.1,p.2,(at_ m i).v⟩else zero
def dY (m:List Sl) (i:Int):Nat:=if bZ m i=0 then(if 0<(at_ m i).a then 0 else 6)else bZ m i
def mZ (m:List Sl) (i:Int):List Sl:=if dY m i=0 then m.set i.toNat ⟨0,0,(at_ m i).v⟩else zero
def eD (m:List Sl) (i:Int):Nat:=if bZ m i=0 then(if(at_ m i).v=2147483647 then 19 else 0)else bZ m i
def dV (m:List Sl) (i:Int):List Sl:=if eD m i=0 then m.set i.toNat ⟨(at_ m i).a,(at_ m i).s,(at_ m i).v+1⟩else zero
theorem eU {m:List Sl} {i:Int} (h:bZ m i=0):aV m=true/\1<=i/\i<=39:=by
 unfold bZ lQ at h;split at h
 ·rename_i hm;split at h
  ·rename_i hi;exact⟨hm,of_decide_eq_true hi⟩
  ·cases h
 ·cases h
end Im
end Go.Proofs.YtdhgejiacehpbaaGreatDoor
