/-
  HaymowLinks: whatever names a file is given, and loses, in whatever order, its octets are the same by each of its names, and it is gone with the last one. For every input; no condition beyond the given statement's own.
  The texts A01, A02 and so on are one proof in a chain, joined and shortened by a program: each imports the one ahead; the last one holds haymowLinks_holds. A hypothesis that is written with ':= by' is proved by that script where the theorem is used.
-/
import Derived.Test.YtdhgejiacehpbaaGreatDoorChecked
import Derived.WalkKit
import Derived.ProofKit
import Derived.Lib.Hide
import Derived.OpenShut
import Derived.ShutString
import Derived.ChangeOld
import Derived.Deep.QuietTactic
import Derived.BigQuiet
import Derived.Deep.Draws
import Derived.Lib.ConvBytes
import Derived.Maps.AppendAt
import Derived.Deep.Matrix
import Derived.Lib.SlBytesConst
import Derived.RangeFuncNested
import Derived.RangeFuncBound
import Derived.RangeFuncCalls
import Derived.RangeFuncLeaves
import Derived.Shelf.Abstract
import Derived.Shelf.RegionOpen
import Derived.OwnWalkIn
import Derived.TacticsInMore
import Derived.LoopNIn
import Derived.LoopIn
import Derived.Sort.CutIn
import Derived.Orders
set_option maxRecDepth 100000
set_option maxHeartbeats 16000000
set_option linter.all false
namespace Go.Proofs.YtdhgejiacehpbaaGreatDoor
open Go.Proofs.Tryz
section
open Go.RowKit
theorem kj {p:Prop} (h:p:=by kernel_rfl):p:=h
theorem om {p:Prop} (h:p:=by omega):p:=h
theorem dc {p:Prop} (h:p:=by decide):p:=h
theorem sj {p:Prop} (h:p:=by simp):p:=h
theorem oa {q p:Prop} (a:q) (h:q->p:=by intro _;omega):p:=h a
theorem oi {q r p:Prop} (a:q) (b:r) (h:q->r->p:=by intro _ _;omega):p:=h a b
theorem oy {q r s p:Prop} (a:q) (b:r) (c:s) (h:q->r->s->p:=by intro _ _ _;omega):p:=h a b c
theorem ex {α:Type _} (a:α):∃b,a=b:=⟨a,rfl⟩
theorem lh {n:Nat}:n<=n:=Nat.le_refl n
theorem bh {w:World} {n:Nat}:Below n w w:=Below.refl n w
abbrev pt (g o:Nat):Value:=.pointer (some ⟨g,o,none⟩)
abbrev ae (g o:Nat):Addr:=⟨g,o,none⟩
abbrev i6 (n:Int):Value:=.int .i64 n
abbrev ez (v:Value):Value->World->Prop:=λy _=>y=v
abbrev ey (v:Value): (Nat->Bool)->Value->World->Prop:=λ_ y _=>y=v
abbrev Bw (w w':World):Prop:=Below w.heap.size w w'
theorem cl {B:Nat} {a w:World} {p:Addr} {v:Option Value} (h:Below B a w) (hl:p.block<B) (hc:a.cell? p=v):w.cell? p=v:=(h.cell hl).trans hc
theorem ms {p:Prop} (h:p:=by simp[intOf];omega):p:=h
theorem td: (∀(α:Type) (x:α) (l:List α) (n:Nat),(x::l).take (n+1)=x::l.take n)/\(∀(α:Type) (l:List α),l.take 0=[])/\(∀(α:Type) (x:α) (l:List α) (n:Nat),(x::l).drop (n+1)=l.drop n)/\(∀(α:Type) (l:List α),l.drop 0=l):=⟨λ_ _ _ _=>rfl,λ_ _=>rfl,λ_ _ _ _=>rfl,λ_ _=>rfl⟩
structure Ka (pa:Prop):Prop where
 (a:pa)
theorem ja {pa:Prop} (a:pa):Ka pa:=⟨a⟩
structure Kb (pa pb:Prop):Prop where
 (a:pa) (b:pb)
theorem jb {pa pb:Prop} (a:pa) (b:pb):Kb pa pb:=⟨a,b⟩
structure Kc (pa pb pc:Prop):Prop where
 (a:pa) (b:pb) (c:pc)
theorem jc {pa pb pc:Prop} (a:pa) (b:pb) (c:pc):Kc pa pb pc:=⟨a,b,c⟩
structure Kd (pa pb pc pd:Prop):Prop where
 (a:pa) (b:pb) (c:pc) (d:pd)
theorem jd {pa pb pc pd:Prop} (a:pa) (b:pb) (c:pc) (d:pd):Kd pa pb pc pd:=⟨a,b,c,d⟩
structure Ke (pa pb pc pd pe:Prop):Prop where
 (a:pa) (b:pb) (c:pc) (d:pd) (e:pe)
theorem je {pa pb pc pd pe:Prop} (a:pa) (b:pb) (c:pc) (d:pd) (e:pe):Ke pa pb pc pd pe:=⟨a,b,c,d,e⟩
structure Kf (pa pb pc pd pe pf:Prop):Prop where
 (a:pa) (b:pb) (c:pc) (d:pd) (e:pe) (f:pf)
theorem jf {pa pb pc pd pe pf:Prop} (a:pa) (b:pb) (c:pc) (d:pd) (e:pe) (f:pf):Kf pa pb pc pd pe pf:=⟨a,b,c,d,e,f⟩
structure Kg (pa pb pc pd pe pf pg:Prop):Prop where
 (a:pa) (b:pb) (c:pc) (d:pd) (e:pe) (f:pf) (g:pg)
theorem jg {pa pb pc pd pe pf pg:Prop} (a:pa) (b:pb) (c:pc) (d:pd) (e:pe) (f:pf) (g:pg):Kg pa pb pc pd pe pf pg:=⟨a,b,c,d,e,f,g⟩
structure Kh (pa pb pc pd pe pf pg ph:Prop):Prop where
 (a:pa) (b:pb) (c:pc) (d:pd) (e:pe) (f:pf) (g:pg) (h:ph)
theorem jh {pa pb pc pd pe pf pg ph:Prop} (a:pa) (b:pb) (c:pc) (d:pd) (e:pe) (f:pf) (g:pg) (h:ph):Kh pa pb pc pd pe pf pg ph:=⟨a,b,c,d,e,f,g,h⟩
structure Ki (pa pb pc pd pe pf pg ph pi:Prop):Prop where
 (a:pa) (b:pb) (c:pc) (d:pd) (e:pe) (f:pf) (g:pg) (h:ph) (i:pi)
theorem ji {pa pb pc pd pe pf pg ph pi:Prop} (a:pa) (b:pb) (c:pc) (d:pd) (e:pe) (f:pf) (g:pg) (h:ph) (i:pi):Ki pa pb pc pd pe pf pg ph pi:=⟨a,b,c,d,e,f,g,h,i⟩
structure Kj (pa pb pc pd pe pf pg ph pi pj:Prop):Prop where
 (a:pa) (b:pb) (c:pc) (d:pd) (e:pe) (f:pf) (g:pg) (h:ph) (i:pi) (j:pj)
theorem jj {pa pb pc pd pe pf pg ph pi pj:Prop} (a:pa) (b:pb) (c:pc) (d:pd) (e:pe) (f:pf) (g:pg) (h:ph) (i:pi) (j:pj):Kj pa pb pc pd pe pf pg ph pi pj:=⟨a,b,c,d,e,f,g,h,i,j⟩
structure Kk (pa pb pc pd pe pf pg ph pi pj pk:Prop):Prop where
 (a:pa) (b:pb) (c:pc) (d:pd) (e:pe) (f:pf) (g:pg) (h:ph) (i:pi) (j:pj) (k:pk)
theorem jk {pa pb pc pd pe pf pg ph pi pj pk:Prop} (a:pa) (b:pb) (c:pc) (d:pd) (e:pe) (f:pf) (g:pg) (h:ph) (i:pi) (j:pj) (k:pk):Kk pa pb pc pd pe pf pg ph pi pj pk:=⟨a,b,c,d,e,f,g,h,i,j,k⟩
structure Kl (pa pb pc pd pe pf pg ph pi pj pk pl:Prop):Prop where
 (a:pa) (b:pb) (c:pc) (d:pd) (e:pe) (f:pf) (g:pg) (h:ph) (i:pi) (j:pj) (k:pk) (l:pl)
theorem jl {pa pb pc pd pe pf pg ph pi pj pk pl:Prop} (a:pa) (b:pb) (c:pc) (d:pd) (e:pe) (f:pf) (g:pg) (h:ph) (i:pi) (j:pj) (k:pk) (l:pl):Kl pa pb pc pd pe pf pg ph pi pj pk pl:=⟨a,b,c,d,e,f,g,h,i,j,k,l⟩
structure Km (pa pb pc pd pe pf pg ph pi pj pk pl pm:Prop):Prop where
 (a:pa) (b:pb) (c:pc) (d:pd) (e:pe) (f:pf) (g:pg) (h:ph) (i:pi) (j:pj) (k:pk) (l:pl) (m:pm)
theorem jm {pa pb pc pd pe pf pg ph pi pj pk pl pm:Prop} (a:pa) (b:pb) (c:pc) (d:pd) (e:pe) (f:pf) (g:pg) (h:ph) (i:pi) (j:pj) (k:pk) (l:pl) (m:pm):Km pa pb pc pd pe pf pg ph pi pj pk pl pm:=⟨a,b,c,d,e,f,g,h,i,j,k,l,m⟩
structure Kn (pa pb pc pd pe pf pg ph pi pj pk pl pm pn:Prop):Prop where
 (a:pa) (b:pb) (c:pc) (d:pd) (e:pe) (f:pf) (g:pg) (h:ph) (i:pi) (j:pj) (k:pk) (l:pl) (m:pm) (n:pn)
theorem jo {pa pb pc pd pe pf pg ph pi pj pk pl pm pn:Prop} (a:pa) (b:pb) (c:pc) (d:pd) (e:pe) (f:pf) (g:pg) (h:ph) (i:pi) (j:pj) (k:pk) (l:pl) (m:pm) (n:pn):Kn pa pb pc pd pe pf pg ph pi pj pk pl pm pn:=⟨a,b,c,d,e,f,g,h,i,j,k,l,m,n⟩
end
section
open Go.RowKit Go.ChangeShapes Go.WideShapes Go.ChangeAt
theorem aq:maxLen=9223372036854775807:=rfl
theorem below_drewN {B:Nat} {a w:World} (h:Below B a w) (n:Nat):Below B a (w.drewN n):=⟨h.os,h.tape,h.output,h.size,h.block⟩
theorem dX (l:List UInt8): (⟨l.toArray⟩:ByteArray).size=l.length:=by show l.toArray.size=_;simp
def bw (w:World) (B sz:Nat) (v:Value) (n:Nat) (xs:List Value):Prop:=
 ∃(A:Option Addr) (c:Nat),v=.slice A n c/\n<=c/\c<=maxLen/\xs.length=n*sz/\
  (0<n->∃b off,A=some ⟨b,off,none⟩/\b<B/\∀j u,xs[j]? =some u->w.cell? (ae b (off+j))=some u)
section
variable {w w':World} {B B' sz n:Nat} {v:Value} {xs:List Value}
theorem bw.bU (h:bw w B sz v n xs) (hk:∀p:Addr,p.block<B->w'.cell? p=w.cell? p):bw w' B sz v n xs:=by obtain⟨A,c,J,R,U,o,h5⟩:=h;refine⟨A,c,J,R,U,o,λhn=>?_⟩;obtain⟨b,off,e,I,hc⟩:=h5 hn;exact⟨b,off,e,I,λj u hu=>(hk _ I).trans (hc j u hu)⟩
theorem bw.more (h:bw w B sz v n xs) (hB:B<=B'):bw w B' sz v n xs:=by obtain⟨A,c,I,J,R,U,j⟩:=h;refine⟨A,c,I,J,R,U,λo=>?_⟩;obtain⟨b,off,e,hb,hc⟩:=j o;exact⟨b,off,e,Nat.lt_of_lt_of_le hb hB,hc⟩
theorem bw.below (h:bw w B sz v n xs) (hb:Below B w w'):bw w' B sz v n xs:=h.bU λ_ hp=>hb.cell hp
theorem bw.ext (h:bw w B sz v n xs) (hB:B<=w.heap.size) (hb:Bw w w'):bw w' B sz v n xs:=h.below (hb.mono hB)
theorem bw.alloc (h:bw w B sz v n xs) (hB:B<=w.heap.size) (o:Obj):bw (w.alloc o) B sz v n xs:=h.bU λp hp=>World.cell?_alloc_lt w o p om
theorem bw.fp (w:World) (B sz:Nat):bw w B sz (.slice none 0 0) 0 []:=⟨none,0,rfl,Nat.le_refl _,by simp[maxLen],by simp,λh=>absurd h om⟩
theorem bw.aG {base:Nat} {e:TypeId} (h:w.ownsRow base e sz v n xs):bw w w.heap.size sz v n xs:=by
 rcases h.2 with⟨rfl,rfl⟩|⟨g,cap,cur,rfl,_,o,I,J,_,_⟩
 ·exact⟨none,0,rfl,Nat.le_refl _,by simp[maxLen],h.1,λR=>absurd R om⟩
 ·refine⟨_,_,rfl,I,J,h.1,λR=>⟨g,0,rfl,?_,λj u hu=>?_⟩⟩
  ·exact(h.lt g rfl).2
  ·have:=h.cells (g:=g) rfl j u hu;rw[Nat.zero_add];unfold Addr.add at this;by_cases U:j=0
   ·subst U;simpa using this
   ·simpa [U]using this
theorem bw.head {A:Option Addr} {c k:Nat} (h:bw w B sz (.slice A n c) n xs) (hk:k<=n):bw w B sz (.slice A k c) k (xs.take (k*sz)):=by
 obtain⟨A',c',he,h2,I,J,R⟩:=h;injection he with U e2 o;subst U o;refine⟨A,c,rfl,by omega,I,?_,λhn=>?_⟩
 ·rw[List.length_take,J];have:=Nat.mul_le_mul_right sz hk;omega
 ·obtain⟨b,off,e,hb,hc⟩:=R om;refine⟨b,off,e,hb,λj u hu=>hc j u ?_⟩;rw[List.getElem?_take]at hu;split at hu
  ·exact hu
  ·cases hu
theorem bw.tail {A:Option Addr} {c k:Nat} (h:bw w B sz (.slice A n c) n xs) (hk:k<=n):
 bw w B sz (.slice (if c=k then A else A.map (·.add (k*sz))) (n-k) (c-k)) (n-k) (xs.drop (k*sz)):=by
 obtain⟨A',c',he,h2,h3,J,R⟩:=h;injection he with U e2 o;subst U o;refine⟨_,_,rfl,by omega,by omega,?_,λhn=>?_⟩
 ·rw[List.length_drop,J,Nat.sub_mul]
 ·obtain⟨b,off,rfl,hb,hc⟩:=R om;rw[if_neg om];refine⟨b,off+k*sz,?_,hb,λj u hu=>?_⟩
  ·unfold Addr.add;by_cases I:k*sz=0
   ·simp[I]
   ·simp[I]
  ·rw[Nat.add_assoc];exact hc _ u (by rw[<-hu,List.getElem?_drop])
theorem bw.len (h:bw w B sz v n xs):n<=9223372036854775807:=by obtain⟨A,c,J,R,I,U,j⟩:=h;rw[aq]at I;omega
end
def ak (w:World) (g:Nat) (t:TypeId) (cs:List Value):Prop:=w.heap[g]? =some (.cells cs.toArray t (0,0))
section
variable {w w':World} {g:Nat} {t:TypeId} {cs:List Value}
theorem ak.lt (h:ak w g t cs):g<w.heap.size:=by
 rcases Nat.lt_or_ge g w.heap.size with I|J
 ·exact I
 ·unfold ak at h;rw[Array.getElem?_eq_none J]at h;cases h
theorem ak.cell (h:ak w g t cs) (i:Nat):w.cell? (ae g i)=cs[i]? :=by rw[cell_of_row w g i cs.toArray t (0,0) h];simp
theorem ak.frozen (h:ak w g t cs) (i:Nat):w.frozen? (ae g i)=false:=by unfold ak at h;simp[World.frozen?,h]
theorem ak.new (w:World) (t:TypeId) (a:Array Value):ak (w.alloc (.cells a t)) w.heap.size t a.toList:=heap_alloc_new w _
theorem ak.drew (h:ak w g t cs):ak w.drew g t cs:=h
theorem ak.drewN (h:ak w g t cs) (n:Nat):ak (w.drewN n) g t cs:=h
theorem ak.alloc (h:ak w g t cs) (o:Obj):ak (w.alloc o) g t cs:=(Below.heap_alloc w o g h.lt).trans h
theorem ak.aC (h:ak w g t cs) (i:Nat) (u:Value):ak (w.setCell (ae g i) u) g t (cs.set i u):=by unfold ak at h|-;simp[World.setCell,Array.getElem?_modify,h]
theorem ak.cf (h:ak w g t cs) {p:Addr} (hp:g≠p.block) (u:Value):ak (w.setCell p u) g t cs:=(Below.heap_setCell w p u g hp).trans h
theorem ak.below {B:Nat} (h:ak w g t cs) (hb:Below B w w') (hg:g<B):ak w' g t cs:=(hb.block g hg).trans h
theorem ak.ext (h:ak w g t cs) (hb:Bw w w'):ak w' g t cs:=h.below hb h.lt
theorem ak.grown {row:Option Nat} (h:ak w g t cs) (hb:w.grownBy w' row) (hg:some g≠row):ak w' g t cs:=(hb.block g h.lt hg).trans h
theorem ak.row (h:ak w g t cs) (a:Array Value):ak (w.setRow g a) g t a.toList:=setRow_heap w g _ a t _ h
theorem fL {B:Nat} {a w:World} (h:Below B a w) {g:Nat} (hg:B<=g) (cs:Array Value):Below B a (w.setRow g cs):=h.trans ⟨rfl,rfl,rfl,by simp,λk I=>setRow_other w g k cs om⟩
theorem ak.fe (h:ak w g t cs) (off n c sz:Nat) (hn:off+n*sz<=cs.length) (hc:n<=c) (hm:c<=maxLen):
 bw w (g+1) sz (.slice (some ⟨g,off,none⟩) n c) n ((cs.drop off).take (n*sz)):=by
 refine⟨_,_,rfl,hc,hm,by rw[List.length_take,List.length_drop];omega,λ_=>⟨g,off,rfl,by omega,λj u hu=>?_⟩⟩;rw[List.getElem?_take]at hu;split at hu
 ·rw[List.getElem?_drop]at hu;rw[h.cell,hu]
 ·cases hu
theorem ak.own (h:ak w g t cs) {base:Nat} (hb:base<=g) (n cap sz:Nat) (hs:cs.length=cap*sz) (hn:n<=cap) (hm:cap<=maxLen):
 w.ownsRow base t sz (.slice (some ⟨g,0,none⟩) n cap) n (cs.take (n*sz)):=by
 refine⟨?_,.inr ⟨g,cap,cs.toArray,rfl,hb,h,hn,hm,by simpa using hs,by simp⟩⟩;rw[List.length_take,hs];have:=Nat.mul_le_mul_right sz hn;omega
theorem iC {P:Program} (h:ak w g t cs) {B n m c c':Nat} {A:Option Addr} {xs:List Value} (dT ty elem:TypeId)
 (hu:P.underlying dT=some (.slice elem)) (hs: (P.info? elem).map (·.size)=some 1) (hr:bw w B 1 (.slice A m c) m xs) (h1:∀u∈xs,u.oneCell'=true) (hmn:m<=n) (hn:n=cs.length):
 ∃w2,(Builtin.copy_ #[dT,dT] ty #[.slice (some ⟨g,0,none⟩) n c',.slice A m c]).run P w=.ok (i6 (m:Int)) w2/\ak w2 g t (xs++cs.drop m)/\∀(B':Nat) (a:World),B'<=g->Below B' a w->Below B' a w2:=by
 obtain⟨A',c2,he,h2,h3,I,R⟩:=hr;injection he with U e2 o;subst U o;rw[Nat.mul_one]at I;by_cases hm:m=0
 ·subst hm;have hx:xs=[]:=List.eq_nil_of_length_eq_zero I;subst hx;exact⟨w,run_copy_none w dT dT ty elem _ _ _ _ _ _ hu hs sj,by simpa using h,λ_ _ _ J=>J⟩
 ·obtain⟨b,off,rfl,J,hc⟩:=R om;have hr:=run_copy_row (P:=P) w dT dT ty elem g 0 n c' (ae b off) m c cs.toArray t xs hu hs h (by rw[I];exact(Nat.min_eq_left hmn).symm)
   (λj v hv=>by rw[add_plain];exact hc j v hv) (by simp;omega) h1
  refine⟨w.setRow g (cs.toArray.toList.take 0++xs++cs.toArray.toList.drop (0+xs.length)).toArray,?_,?_,λ_ _ hg J=>fL J hg _⟩
  ·rw[hr,I];rfl
  ·have:=h.row (cs.toArray.toList.take 0++xs++cs.toArray.toList.drop (0+xs.length)).toArray;rw[I]at this|-;simpa using this
end
theorem run_mk {P:Program} {t e size bytes:Nat} {z:Value} (ht:P.underlying t=some (.slice e)) (hinfo: (P.info? e).map (λi=>(i.zero,i.size,i.bytes))=some (some z,size,bytes)) (n c:Nat) (hnc:n<=c) (hb:bytes*c<=281474976710656) (hc:c<=9223372036854775807) (w:World):
 (Instr.makeSlice t (i6 (n:Int)) (i6 (c:Int))).run P w=.ok (.slice (some ⟨w.heap.size,0,none⟩) n c) (w.alloc (.cells (madeCells z.cells (c*size)) e)):=by
 obtain⟨i,hi,U,hs,I⟩:=info_parts hinfo;have J: (i.bytes:Int)*(c:Int)<=281474976710656:=by rw[I];have h: ((bytes*c:Nat):Int)<=281474976710656:=(by omega);rwa [Int.natCast_mul]at h
 have R:=run_make (P:=P) w t e i z ht hi U .i64 .i64 n c om om J om;simp only[Int.toNat_natCast,hs]at R;exact R
theorem aE {P:Program} {w:World} {base t ty e size bytes:Nat} {z:Value} (ht:P.underlying t=some (.slice e)) (hinfo: (P.info? e).map (λi=>(i.zero,i.size,i.bytes))=some (some z,size,bytes)) (hzs:z.cells.size=size) (hsz:0<size)
 {v:Value} {n:Nat} {xs:List Value} (hown:w.ownsRow base e size v n xs) {B m c:Nat} {A:Option Addr} {news:List Value} (hr:bw w B size (.slice A m c) m news) (h1:∀u∈news,u.oneCell'=true)
 (h63:n+m<=maxLen) (hbytes: (n+m)*bytes<=140737488355328) (hbase:base<=w.heap.size):
 ∃v' w',(Builtin.append_ #[t,t] ty #[v,.slice A m c]).run P w=.ok v' w'/\w'.ownsRow base e size v' (n+m) (xs++news)/\w.grownBy w' v.ownBlock/\(v'.ownBlock=v.ownBlock\/v'.ownBlock=some w.heap.size):=by
 obtain⟨i,hi,hz,hs,o⟩:=info_parts hinfo;obtain⟨A',c',he,h2,h3,h4,h5⟩:=hr;injection he with e1 e2 e3;subst e1 e3;cases A with
 |none=>
  have hm:m=0:=by
   rcases Nat.eq_zero_or_pos m with I|I
   ·exact I
   ·obtain⟨b,off,R,_⟩:=h5 I;cases R
  subst hm;have hx:news=[]:=List.eq_nil_of_length_eq_zero (by rw[h4,Nat.zero_mul]);subst hx;refine⟨v,w,?_,by simpa using hown,World.grownBy.refl w _,.inl rfl⟩;rcases hown.2 with⟨rfl,rfl⟩|⟨g,cap,cur,rfl,_,_,A0,_⟩
  ·simp[Builtin.append_,run_underlying ht,sizeOf,typeInfo,hi,Builtin.lenOf,Builtin.firstCells]
  ·simp[Builtin.append_,run_underlying ht,sizeOf,typeInfo,hi,Builtin.lenOf,Builtin.firstCells,A0,storeCells]
 |some ad=>
  have J:∀j u,news[j]? =some u->w.cell? (ad.add j)=some u:=by
   intro j u hu;rcases Nat.eq_zero_or_pos m with I|I
   ·subst I;have hx:news=[]:=List.eq_nil_of_length_eq_zero (by rw[h4,Nat.zero_mul]);subst hx;simp at hu
   ·obtain⟨b,off,R,_,hc⟩:=h5 I;injection R with R;subst R;rw[add_plain];exact hc j u hu
  obtain⟨v',w',U,g2,g3,_,g5⟩:=run_append_own_at (P:=P) w base t ty e i z size bytes ht hi hz hs o hzs hsz v n xs hown ad m c news h4 J h1 h63 hbytes hbase;exact⟨v',w',U,g2,g3,g5⟩
theorem aI {a w:World} (h:Bw a w) (row:Option Nat):a.grownBy w row:=⟨h.os,h.tape,h.output,h.size,λi hi _=>h.block i hi⟩
theorem aW {w:World} {g:Nat} {t:TypeId} {cs:List Value} {base:Nat} {e:TypeId} {sz n:Nat} {v:Value} {xs:List Value} (h:w.ownsRow base e sz v n xs) (hg:ak w g t cs) (hne:e≠t):some g≠v.ownBlock:=by
 rcases h.2 with⟨rfl,_⟩|⟨I,cap,cur,rfl,_,J,_⟩
 ·simp[Value.ownBlock]
 ·intro he;have R:g=I:=(by simpa [Value.ownBlock]using he);subst R;unfold ak at hg;rw[J]at hg;injection hg with hg;injection hg with _ U;exact hne U
theorem gV {w w':World} {base base':Nat} {e e':TypeId} {sz sz' n n':Nat} {v v':Value} {xs xs':List Value} (h:w.ownsRow base e sz v n xs) (h':w.ownsRow base' e' sz' v' n' xs') (hne:e≠e') (hg:w.grownBy w' v'.ownBlock):w'.ownsRow base e sz v n xs:=by
 refine h.kept hg ?_;rcases h.2 with⟨rfl,_⟩|⟨g,cap,cur,rfl,_,I,_⟩
 ·exact .inl rfl
 ·right;exact aW (t:=e) (cs:=cur.toList) h' (by unfold ak;simpa using I) (Ne.symm hne)
theorem aD {w w':World} {base:Nat} {e:TypeId} {sz n:Nat} {v:Value} {xs:List Value} (h:w.ownsRow base e sz v n xs) (hb:Bw w w'):w'.ownsRow base e sz v n xs:=h.kept (aI hb none) (by cases v.ownBlock<;>simp)
def Bs (w:World) (B:Nat) (v:Value) (l:List UInt8):Prop:=bw w B 1 v l.length (l.map λc=>.int .u8 (c.toNat:Int))
def Is (k:IntKind) (w:World) (B:Nat) (v:Value) (l:List Int):Prop:=bw w B 1 v l.length (l.map λc=>.int k c)
def oL (w:World) (B:Nat) (v:Value) (ls:List (List UInt8)):Prop:=∃us:List Value,us.length=ls.length/\bw w B 1 v ls.length us/\∀(j:Nat) u l,us[j]? =some u->ls[j]? =some l->Bs w B u l
section
variable {w w':World} {B B':Nat} {v:Value} {l:List UInt8} {ls:List (List UInt8)}
theorem Bs.open_ (h:Bs w B v l):∃(A:Option Addr) (c:Nat),v=.slice A l.length c/\l.length<=c/\c<=9223372036854775807/\
 ∀(j:Nat) (hj:j<l.length),∃b off,A=some ⟨b,off,none⟩/\b<B/\w.cell? (ae b (off+j))=some (.int .u8 (l[j].toNat:Int)):=by
 obtain⟨A,c,I,J,R,h4,U⟩:=h;refine⟨A,c,I,J,R,λj hj=>?_⟩;obtain⟨b,off,e,o,hc⟩:=U om;exact⟨b,off,e,o,hc j _ (by simp[hj])⟩
theorem Is.open_ {k:IntKind} {l:List Int} (h:Is k w B v l):∃(A:Option Addr) (c:Nat),v=.slice A l.length c/\l.length<=c/\c<=9223372036854775807/\
 ∀(j:Nat) (hj:j<l.length),∃b off,A=some ⟨b,off,none⟩/\b<B/\w.cell? (ae b (off+j))=some (.int k l[j]):=by
 obtain⟨A,c,I,J,R,h4,U⟩:=h;refine⟨A,c,I,J,R,λj hj=>?_⟩;obtain⟨b,off,e,o,hc⟩:=U om;exact⟨b,off,e,o,hc j _ (by simp[hj])⟩
theorem oL.open_ (h:oL w B v ls):∃(A:Option Addr) (c:Nat),v=.slice A ls.length c/\ls.length<=c/\c<=9223372036854775807/\
 ∀(j:Nat) (hj:j<ls.length),∃b off u,A=some ⟨b,off,none⟩/\b<B/\w.cell? (ae b (off+j))=some u/\Bs w B u ls[j]:=by
 obtain⟨us,hu,⟨A,c,R,U,o,h4,h5⟩,hb⟩:=h;refine⟨A,c,R,U,o,λj hj=>?_⟩;obtain⟨b,off,e,J,hc⟩:=h5 om;have I:j<us.length:=by omega
 exact⟨b,off,us[j],e,J,hc j _ (by simp[I]),hb j _ _ (by simp[I]) (by simp[hj])⟩
theorem Bs.rP (h:Bs w B v l):∃(A:Option Addr) (c:Nat),v=.slice A l.length c/\l.length<=c/\c<=9223372036854775807/\
 ∀(j:Nat),j<l.length->∃b off,A=some ⟨b,off,none⟩/\b<B/\w.cell? (ae b (off+j))=some (.int .u8 ((l.getD j 0).toNat:Int)):=by
 obtain⟨A,c,J,R,U,o⟩:=h.open_;refine⟨A,c,J,R,U,λj I=>?_⟩;obtain⟨b,off,e,hb,hc⟩:=o j I;exact⟨b,off,e,hb,by rw[hc];simp[List.getD,I]⟩
theorem Bs.more (h:Bs w B v l) (hB:B<=B'):Bs w B' v l:=bw.more h hB
theorem Bs.ext (h:Bs w B v l) (hB:B<=w.heap.size) (hb:Bw w w'):Bs w' B v l:=bw.ext h hB hb
theorem Bs.head {A:Option Addr} {c k:Nat} (h:Bs w B (.slice A l.length c) l) (hk:k<=l.length):Bs w B (.slice A k c) (l.take k):=by have:=bw.head h hk;unfold Bs;rw[List.length_take,Nat.min_eq_left hk,List.map_take];simpa using this
theorem Bs.tail {A:Option Addr} {c k:Nat} (h:Bs w B (.slice A l.length c) l) (hk:k<=l.length):
 Bs w B (.slice (if c=k then A else A.map (·.add k)) (l.length-k) (c-k)) (l.drop k):=by
 have:=bw.tail h hk;unfold Bs;rw[List.length_drop,List.map_drop];simpa using this
theorem Bs.aG {base:Nat} {e:TypeId} (h:w.ownsRow base e 1 v l.length (l.map λc=>.int .u8 (c.toNat:Int))):Bs w w.heap.size v l:=bw.aG h
theorem oL.ext (h:oL w B v ls) (hB:B<=w.heap.size) (hb:Bw w w'):oL w' B v ls:=by obtain⟨us,I,J,R⟩:=h;exact⟨us,I,J.ext hB hb,λj u l hu U=>(R j u l hu U).ext hB hb⟩
theorem oL.more (h:oL w B v ls) (hB:B<=B'):oL w B' v ls:=by obtain⟨us,I,J,R⟩:=h;exact⟨us,I,J.more hB,λj u l hu U=>(R j u l hu U).more hB⟩
end
theorem rF (l m:List UInt8): (⟨l.toArray⟩:ByteArray)++⟨m.toArray⟩=⟨(l++m).toArray⟩:=by apply ByteArray.ext;simp
theorem iL (l:List UInt8) (i j:Nat): (⟨l.toArray⟩:ByteArray).extract i j=⟨((l.take j).drop i).toArray⟩:=by apply ByteArray.ext;rw[ByteArray.data_extract];apply Array.toList_inj.1;simp[List.extract,List.drop_take]
theorem nL (l:List UInt8) (j:Nat): (⟨l.toArray⟩:ByteArray).extract 0 j=⟨(l.take j).toArray⟩:=by rw[iL,List.drop_zero]
theorem gR {P:Program} {w:World} {B:Nat} {v:Value} {l:List UInt8} (h:Bs w B v l) (src dst e:TypeId) (hs:P.underlying src=some (.slice e)) (he:P.underlying e=some (.int .u8)) (hd:P.underlying dst=some .string):
 (convert src dst v).run P w=.ok (.string ⟨l.toArray⟩) w:=by
 obtain⟨A,c,rfl,h2,h3,R⟩:=h.open_;by_cases o:0<l.length
 ·obtain⟨b,off,rfl,_,_⟩:=R 0 o;refine run_convert_bytes_back w src dst e (ae b off) c l hs he hd λj I=>?_;obtain⟨b',U,J,_,hc⟩:=R j I;injection J with J;injection J with e1 e2;subst e1 e2;rw[add_plain];exact hc
 ·have:l=[]:=List.eq_nil_of_length_eq_zero om;subst this;cases A with
  |none=>exact run_convert_bytes_nil w src e hs he 0 c dst hd
  |some a=>exact run_convert_bytes_back w src dst e a c [] hs he hd λj I=>absurd I sj
theorem Is.lit (k:IntKind) (w:World) (t:TypeId) (a:Array Value) (l:List Int) (n:Nat) (ha:a.toList=l.map λc=>.int k c) (hn:n=l.length) (hm:n<=maxLen):
 Is k (w.alloc (.cells a t)) (w.heap.size+1) (.slice (some ⟨w.heap.size,0,none⟩) n n) l:=by
 have:=(ak.new w t a).fe 0 n n 1 (by rw[ha,List.length_map];omega) lh hm;subst hn;unfold Is;rw[ha,List.drop_zero,List.take_of_length_le (by rw[List.length_map];omega)]at this;exact this
theorem oL.LD {w:World} {u:Value} {l:List UInt8} (t:TypeId) (h:Bs w w.heap.size u l):
 oL (w.alloc (.cells #[u] t)) (w.heap.size+1) (.slice (some ⟨w.heap.size,0,none⟩) 1 1) [l]:=by
 refine⟨[u],rfl,⟨some ⟨w.heap.size,0,none⟩,1,rfl,Nat.le_refl _,by simp[maxLen],rfl,λ_=>⟨w.heap.size,0,rfl,by omega,λj x hx=>?_⟩⟩,λj x m hx hm=>?_⟩
 ·match j,hx with
  |0,hx=>injection hx with hx;subst hx;simp[go_sem]
 ·match j,hx,hm with
  |0,hx,hm=>injection hx with hx;injection hm with hm;subst hx hm;exact(bw.alloc h lh _).more (Nat.le_succ _)
theorem oL.Jo {w:World} {u:Value} {l:List UInt8} (t:TypeId) (h:Bs w w.heap.size u l) {g:Nat} (hg:g=w.heap.size):
 oL (w.alloc (.cells #[u] t)) (g+1) (.slice (some ⟨g,0,none⟩) 1 1) [l]:=by
 subst hg;exact oL.LD t h
section
variable {H:Type} {enc:TypeId×Value->H} {P:Program} {W:World} {base b0:Nat} {r:Reach}
theorem wf_u8 {n:Int} (h: (Lit.int .u8 n).wf=true):0<=n/\n<256:=by
 have:0<=n/\n<=255:=by simpa [Lit.wf,IntKind.min,IntKind.max,IntKind.signed,IntKind.bits]using h
 omega
theorem qQ {w:World} {a:Addr} {u:Value} (h:w.cell? a=some u):a.spot=none:=by simpa using World.cell?_spot h
theorem w_ {k:IntKind} {t e:TypeId} (ht:P.underlying t=some (.slice e)) (he:P.underlying e=some (.int k)) (hc:P.cellsOf e=1)
 {v:Value} {d:DataW H} {ps:List MemPlace} (hv:Value.okWide P W r b0 t v) (h:DataW.Trod enc P W base (λ_=>true) true t v d ps):
 ∃zs:List Int,Is k W W.heap.size v zs/\∀n∈zs,(Lit.int k n).wf=true:=by
 obtain⟨a0,I,U,rfl⟩:=okWide_slice ht hv;obtain⟨fuel,hf⟩:=h;rcases open_ints ht he hc hf with⟨J,_⟩|⟨x,l,c,zs,J,_,hl,hm,hz,_,R,A0⟩
 ·simp[Value.cells]at J;obtain⟨rfl,rfl,rfl⟩:=J;exact⟨[],bw.fp _ _ _,by simp⟩
 ·simp[Value.cells]at J;obtain⟨rfl,rfl,rfl⟩:=J;simp only[if_true]at hz;have hlen: (zs.take I).length=I:=(by rw[List.length_take,hz];omega);refine⟨zs.take I,⟨some x,U,by rw[hlen],by rw[hlen];exact hl,hm,by simp,λhn=>?_⟩,λn hn=>A0 n (List.mem_of_mem_take hn)⟩;rw[hlen]at hn;obtain⟨b,off,spot⟩:=x;have h0:=R 0 om;obtain rfl:spot=none:=(by simpa [Addr.add]using qQ h0);refine⟨b,off,rfl,World.block_lt_of_cell? W _ (by simpa [Addr.add]using h0),λj u hu=>?_⟩;rw[List.getElem?_map]at hu;by_cases hj:j<(zs.take I).length
  ·rw[List.getElem?_eq_getElem hj]at hu;have o:j<zs.length:=(by rw[hlen]at hj;omega);have A':=R j o;rw[add_plain]at A';rw[A',<-hu];simp[List.getD,o,List.getElem_take]
  ·rw[List.getElem?_eq_none om]at hu;cases hu
theorem EF {w:World} {B:Nat} {v:Value} {zs:List Int} (h:Is .u8 w B v zs) (hw:∀n∈zs,(Lit.int .u8 n).wf=true):∃l:List UInt8,Bs w B v l:=by
 refine⟨zs.map λz=>UInt8.ofNat z.toNat,?_⟩;unfold Bs;unfold Is at h;have e: ((zs.map λz=>UInt8.ofNat z.toNat).map λc=>Value.int .u8 (c.toNat:Int))=zs.map λc=>Value.int .u8 c:=by rw[List.map_map];refine List.map_congr_left λz J=>?_;have:=wf_u8 (hw z J);have R:z.toNat<256:=(by omega);have I: ((UInt8.ofNat z.toNat).toNat:Int)=z:=(by rw[UInt8.toNat_ofNat'];omega);show Value.int .u8 ((UInt8.ofNat z.toNat).toNat:Int)=_;rw[I]
 rw[e,List.length_map];exact h
theorem xT {t e:TypeId} (ht:P.underlying t=some (.slice e)) (he:P.underlying e=some (.int .u8)) (hc:P.cellsOf e=1)
 {v:Value} {d:DataW H} {ps:List MemPlace} (hv:Value.okWide P W r b0 t v) (h:DataW.Trod enc P W base (λ_=>true) true t v d ps):
 ∃l:List UInt8,Bs W W.heap.size v l:=by
 obtain⟨zs,I,J⟩:=w_ ht he hc hv h;exact EF I J
theorem kF (hl:laidOutB P=true) {W':World} (hb:Bw W W') {sp:Nat->Bool}:∀(ts:List TypeId) (_:∀t∈ts,P.readableRec t=true/\t<P.types.size) (vs:List Value) (ds:List (DataW H)) (ps:List MemPlace),
 DataW.TrodAll enc P W 0 (λ_=>true) true ts vs ds ps->(∀x∈ps,x.block<W.heap.size)->(∀x∈ps,sp x.block=true)->DataW.TrodAll enc P W' 0 sp true ts vs ds ps
 |[],_,[],[],_,h,_,_=>h
 |t::ts,ht,v::vs,d::ds,ps,h,hlt,hsp=>by obtain⟨p,q,J,R,rfl⟩:=h;refine⟨p,q,?_,kF hl hb ts (λU j=>ht U (List.mem_cons_of_mem _ j)) vs ds q R (λx hx=>hlt x (List.mem_append_right _ hx)) (λx hx=>hsp x (List.mem_append_right _ hx)),rfl⟩;obtain⟨o,I⟩:=ht t List.mem_cons_self;exact WideElems.Trod_stays hl o I J (λx hx=>hb.same (hlt x (List.mem_append_left _ hx))) (λx hx=>hsp x (List.mem_append_left _ hx))
 |_::_,_,[],_,_,h,_,_=>by cases h
 |_::_,_,_::_,[],_,h,_,_=>by cases h
 |[],_,_::_,_,_,h,_,_=>by cases h
 |[],_,[],_::_,_,h,_,_=>by cases h
theorem FU (hl:laidOutB P=true) {f:Func} {s:ChangeSpec} {tb:TypeId} {W':World} {args:Array Value} {ds:List (DataW H)} {before:List MemPlace}
 (hp:∀t∈f.params.toList,P.readableRec t=true/\t<P.types.size) (hres:f.resultTypes=#[tb]) (hbool:P.underlying tb=some .bool) (hv:s.vars=[])
 (hspec:s.fn H (ds++[])={results:=[.lit (.bool true)],args:=ds})
 (hW:DataW.Whole enc P f.params.toList s.vars false W args.toList ds [] before) (hb:Bw W W'):
 s.post enc P f false true false false W args (.bool true) W':=by
 have I:=hW;obtain⟨p,q,R,j,U,o,A'⟩:=hW;have hA:DataW.TrodAll enc P W 0 (λ_=>true) true f.params.toList args.toList ds p:=R;rw[hv]at j;obtain⟨_,rfl⟩:=trodVars_none j;have J:∀x∈p,x.block<W.heap.size:=λx hx=>I.lt x (by rw[U];exact List.mem_append_left _ hx);refine⟨ds,[],before,[],p,[],I,?_,?_,?_,hb.frame _,λh=>by cases h⟩
 ·rw[hres,hspec];exact trodAll_mk1 (shut_bool hbool _)
 ·rw[hspec];exact kF hl hb _ hp _ _ _ hA J (λx hx=>by simpa using J x hx)
 ·rw[hspec,hv];rfl
end
end
section
open Go.RowKit
def kQ (o:Oper):Bool:=match o.op with| .defer _=>false|_=>true
theorem L6 {o:Oper} (h:kQ o=true):∀c,o.op≠.defer c:=by intro c e;unfold kQ at h;rw[e]at h;cases h
section
variable {P:Program} {ops:Array Oper} {Q:Exit->Act->World->Prop} {n l:Nat}
theorem nr {f:FuncId} {args:Array Value} {w:World} {R:Ending->World->Prop} (h:Calls P f args w R):CallsIn (Fence.wide.inRound l) n P f args w R:=CallsIn.inRound l (callsIn_wide.2 h)
theorem J6 {row:String} {args:Array Value} {w:World} {R:Value->World->Prop} (h:Rows P row args w R):RowsIn (Fence.wide.inRound l) n P row args w R:=λc cs _=>let⟨v,w',hr,s⟩:=h c cs;⟨v,w',hr,stepsIn_wide.2 s⟩
theorem Ek {o:Oper} (hd:kQ o=true) {a:Act} {w:World} {K:Act->World->Prop} (h:o.wp P a w K Q):o.wpIn (Fence.wide.inRound l) n P a w K Q:=by
 refine⟨λ_ _=>trivial,?_⟩;rw[Fence.inRound_round,Oper.semAt_some l _ o (L6 hd)];unfold Oper.wp at h;generalize(execOp a.eval o).run P w=r at*;cases r with
 |ok x w'=>
  cases x<;>simp only[Oper.upon,Oper.uponIn]at h|-<;>
   first
    |exact h
    |exact⟨λh=>by simp[Fence.wide,Fence.inRound]at h,nr h⟩
    |exact⟨λh=>by simp[Fence.wide,Fence.inRound]at h,J6 h⟩
    |exact h.elim
 |halt x w'=>cases x<;>simp only[Oper.upon,Oper.uponIn]at h|-<;>exact h
theorem list_round (hQ:¬LetsOut Q):∀(rest:List Oper) (_:rest.all kQ=true) {a:Act} {w:World},wpList P ops Q rest a w->wpListIn (Fence.wide.inRound l) n P ops Q rest a w
 |[],_,_,_,h=>h
 |o::rest,hd,a,w,h=>by
  rw[List.all_cons,Bool.and_eq_true]at hd;unfold wpList at h;unfold wpListIn;split
  ·rename_i hw;rw[if_pos hw]at h;rcases h with h|h
   ·exact Oper.wpIn_mono (λ_ _ hh=>list_round hQ rest hd.2 hh) (Ek hd.1 h)
   ·exact absurd h.2 hQ
  ·rename_i hw;rw[if_neg hw]at h;exact⟨λ_ _=>trivial,list_round hQ rest hd.2 h⟩
theorem MB (hQ:¬LetsOut Q) (hd:ops.all kQ=true) {i:Nat} {K:Act->World->Prop} {a:Act} {w:World} (h:wpOp P ops Q i K a w):wpOpIn (Fence.wide.inRound l) n P ops Q i K a w:=by
 unfold wpOp at h;unfold wpOpIn;cases ho:ops[i]? with
 |none=>rw[ho]at h;exact h
 |some o=>
  rw[ho]at h;have hdo:kQ o=true:=(by obtain⟨hi,he⟩:=Array.getElem?_eq_some_iff.1 ho;rw[<-he];exact(Array.all_eq_true.1 hd) i hi);dsimp only at h|-;split
  ·rename_i hw;rw[if_pos hw]at h;rcases h with h|h
   ·exact Ek hdo h
   ·exact absurd h.2 hQ
  ·rename_i hw;rw[if_neg hw]at h;exact⟨λ_ _=>trivial,h⟩
theorem GA (hQ:¬LetsOut Q) (hd:ops.all kQ=true) {md:Region.Mode}:∀(fuel:Nat) (listed:Array Bool) (a:Act) (w:World),wpAny P md ops Q fuel listed a w->wpAnyIn (Fence.wide.inRound l) n P md ops Q fuel listed a w
 |0,_,_,_,h=>h
 |fuel+1,_,_,_,h=>⟨h.1,λi hi=>wpOpIn_mono (λa w hh=>GA hQ hd fuel _ a w hh) (MB hQ hd (h.2 i hi))⟩
theorem mG (hQ:¬LetsOut Q) (hd:ops.all kQ=true) {id:Nat} {a:Act} {w:World} (hm:P.follows .mixedOrders=true)
 (h:wpAny P .any ops Q ops.size (Array.replicate ops.size false) a {w with drawn:=w.drawn+1}): (Code.region id ops true).wpIn (Fence.wide.inRound l) n P Q a w:=
 wpIn_region_any hm (GA hQ hd _ _ _ _ h)
theorem j9 (hQ:¬LetsOut Q) {id:Nat} {os:List Oper} (hd:os.all kQ=true) {a:Act} {w:World} (h:wpList P os.toArray Q os a w): (Code.region id os.toArray false).wpIn (Fence.wide.inRound l) n P Q a w:=wpIn_region_lit (list_round hQ os hd h)
end
end
section
open Go.RowKit
def isDep (ops:Array Oper) (i j d:Nat):Bool:=((ops[i]?).map λo=>o.after.any λe=>e.on==j&&Region.binds .any e).getD false&&((ops[j]?).bind (·.dst)==some d)
def iZ (ops:Array Oper) (i t:Nat):Bool:=
 (List.range ops.size).all λj=>match ops[j]? with
  |some o=>o.dst != some t||o.after.any λe=>e.on==i&&Region.binds .any e
  |none=>true
def kW (ops:Array Oper) (n:Nat):Bool:=
 (List.range ops.size).all λj=>match ops[j]? with
  |some o=>(match o.dst with
   |some d=>decide (d<n)&&(List.range ops.size).all λk=>k==j||(ops[k]?).bind (·.dst) != some d
   |none=>true)&&o.after.all λe=> !Region.binds .any e||decide (e.on<j)
  |none=>true
def Ib (ops:Array Oper) (j:Nat):List Nat:=((ops[j]?).map λo=>(o.after.toList.filter (Region.binds .any ·)).map (·.on)).getD []
def marked (ops:Array Oper) (m:Nat):List Nat:=(List.range (m+1)).reverse.foldl (λS j=>if S.contains j then S++Ib ops j else S) [m]
def uX (ops:Array Oper) (m:Nat):Bool:=(List.range ops.size).all λi=>decide (i<m)||(List.range i).all λj=>(marked ops i).contains j
def gC (Q:Act->World->Prop) (V:Nat->Value->World->Prop):List Oper->Nat->Act->World->Prop
 |[],_,a,w=>Q a w
 |o::os,i,a,w=>match o.dst with
  |some d=>∀v,V i v w->gC Q V os (i+1) (a.put (some d) v) w
  |none=>gC Q V os (i+1) a w
theorem ap: (∀(a:Act) (t:Tmp) (v:Value),a.put (some t) v={a with tmps:=a.tmps.setIfInBounds t v})/\(∀(a:Act) (v:Value),a.put none v=a)/\(∀(l:List Value) (i:Nat) (v:Value),l.toArray.setIfInBounds i v=(l.set i v).toArray)/\(∀(x y:Value) (l:List Value),(x::l).set 0 y=y::l)/\(∀(x y:Value) (l:List Value) (n:Nat),(x::l).set (n+1) y=x::l.set n y)/\
 (∀Q V k a w,gC Q V [] k a w=Q a w)/\(∀Q V o os k a w,gC Q V (o::os) k a w=match o.dst with|some d=>∀v,V k v w->gC Q V os (k+1) (a.put (some d) v) w|none=>gC Q V os (k+1) a w)/\(∀(α:Type) (l:List α),l.take 0=[])/\(∀(α:Type) (x d:α) (l:List α),(x::l).getD 0 d=x)/\(∀(α:Type) (x d:α) (l:List α) (n:Nat),(x::l).getD (n+1) d=l.getD n d):=
 ⟨λ_ _ _=>rfl,λ_ _=>rfl,λ_ _ _=>by simp,λ_ _ _=>rfl,λ_ _ _ _=>rfl,λ_ _ _ _ _=>rfl,λ_ _ _ _ _ _ _=>rfl,λ_ _=>rfl,λ_ _ _ _=>rfl,λ_ _ _ _ _=>rfl⟩
section
variable {P:Program} {ops:Array Oper} {Q:Exit->Act->World->Prop} {a0:Act} {m:Nat}
def left (listed:Array Bool):Nat:=((List.range listed.size).filter λi=> !listed.getD i false).length
theorem ma (l:Array Bool) (i j:Nat) (h:i<l.size): (l.setIfInBounds i true).getD j false=(decide (j=i)||l.getD j false):=by
 rw[Array.getD_eq_getD_getElem?,Array.getD_eq_getD_getElem?,Array.getElem?_setIfInBounds];by_cases hj:i=j
 ·subst hj;simp[h]
 ·simp[hj,Ne.symm hj]
theorem zV (a:Act) (d t:Nat) (v:Value) (h:d<a.tmps.size): (a.put (some d) v).tmps.getD t undef=if t=d then v else a.tmps.getD t undef:=by
 show(a.tmps.setIfInBounds d v).getD t undef=_;rw[Array.getD_eq_getD_getElem?,Array.getD_eq_getD_getElem?,Array.getElem?_setIfInBounds];by_cases hj:d=t
 ·subst hj;simp[h]
 ·simp[hj,Ne.symm hj]
theorem size_put (a:Act) (d:Option Tmp) (v:Value): (a.put d v).tmps.size=a.tmps.size:=by cases d<;>simp[Act.put]
theorem Di (a:Act) (d:Option Tmp) (v:Value): (a.put d v).defers=a.defers:=by cases d<;>rfl
theorem filter_lt {l:List Nat} {p q:Nat->Bool} {i:Nat} (hi:i∈l) (hp:p i=true) (hq:q i=false) (hqp:∀j,q j=true->p j=true): (l.filter q).length<(l.filter p).length:=by
 induction l with
 |nil=>cases hi
 |cons x l ih=>
  have hle:∀m:List Nat,(m.filter q).length<=(m.filter p).length:=by
   intro m;induction m with
   |nil=>simp
   |cons y m ihm=>
    rw[List.filter_cons,List.filter_cons];by_cases hy:q y=true
    ·rw[if_pos hy,if_pos (hqp y hy)];simpa using ihm
    ·rw[if_neg hy];split
     ·simp only[List.length_cons];omega
     ·exact ihm
  rw[List.filter_cons,List.filter_cons];rcases List.mem_cons.1 hi with rfl|hm
  ·rw[if_neg (by simp[hq]),if_pos hp];have:=hle l;simp only[List.length_cons];omega
  ·have:=ih hm;by_cases hx:q x=true
   ·rw[if_pos hx,if_pos (hqp x hx)];simpa using this
   ·rw[if_neg hx];split
    ·simp only[List.length_cons];omega
    ·exact this
theorem Ap (listed:Array Bool) (i:Nat) (hi:i<listed.size) (hn:listed.getD i false=false):left (listed.setIfInBounds i true)<left listed:=by unfold left;rw[Array.size_setIfInBounds];refine filter_lt (i:=i) (List.mem_range.2 hi) (by simp[hn]) (by rw[ma _ _ _ hi];simp) (λj hj=>?_);rw[ma _ _ _ hi]at hj;simp at hj|-;exact hj.2
theorem AX {n j d:Nat} (h:kW ops n=true) (hd: (ops[j]?).bind (·.dst)=some d):d<n/\∀k,(ops[k]?).bind (·.dst)=some d->k=j:=by
 cases ho:ops[j]? with
 |none=>rw[ho]at hd;cases hd
 |some o=>
  rw[ho]at hd;have hjl:j<ops.size:=(Array.getElem?_eq_some_iff.1 ho).1;have hj:=List.all_eq_true.1 h j (List.mem_range.2 hjl);simp only[ho]at hj;have hd':o.dst=some d:=hd;rw[hd']at hj;simp only[Bool.and_eq_true,decide_eq_true_eq]at hj;refine⟨hj.1.1,λk hk=>?_⟩;have hkl:k<ops.size:=by
   cases hk':ops[k]? with
   |none=>rw[hk']at hk;cases hk
   |some _=>exact(Array.getElem?_eq_some_iff.1 hk').1
  have:=List.all_eq_true.1 hj.1.2 k (List.mem_range.2 hkl);rw[hk]at this;simpa using this
theorem Jp {n j:Nat} {o:Oper} (h:kW ops n=true) (ho:ops[j]? =some o):∀e∈o.after,Region.binds .any e=true->e.on<j:=by have hjl:j<ops.size:=(Array.getElem?_eq_some_iff.1 ho).1;have hj:=List.all_eq_true.1 h j (List.mem_range.2 hjl);simp only[ho]at hj;simp only[Bool.and_eq_true]at hj;intro e he hb;have:=Array.all_eq_true'.1 hj.2 e he;simpa [hb]using this
theorem wV {listed:Array Bool} {i:Nat} (h:i∈Region.ready .any ops listed) (hs:listed.size=ops.size):
 i<ops.size/\listed.getD i false=false/\∀o,ops[i]? =some o->∀e∈o.after,Region.binds .any e=true->listed.getD e.on false=true:=by
 unfold Region.ready at h;obtain⟨hr,hp⟩:=List.mem_filter.1 h;have hi:=List.mem_range.1 hr;simp only[Bool.and_eq_true,Bool.not_eq_true']at hp;refine⟨hi,?_,λo ho e he hb=>?_⟩
 ·have:=hp.1;rw[Array.getD_eq_getD_getElem?,Array.getElem?_eq_getElem (by omega)]at this|-;simpa using this
 ·have h2:=hp.2;rw[ho]at h2;simp only[Option.map_some,Option.getD_some]at h2;have:=Array.all_eq_true'.1 h2 e he;simpa [hb]using this
theorem wR {n:Nat} {listed:Array Bool} (hc:kW ops n=true) (h:Region.ready .any ops listed=[]) (hs:listed.size=ops.size):∀i,i<ops.size->listed.getD i false=true:=by
 intro i;induction i using Nat.strongRecOn with
 |_ i ih=>
  intro hi;by_cases hl:listed.getD i false=true
  ·exact hl
  ·exfalso;have hm:i∈Region.ready .any ops listed:=by
    unfold Region.ready;refine List.mem_filter.2 ⟨List.mem_range.2 hi,?_⟩;have ho:ops[i]? =some ops[i]:=Array.getElem?_eq_getElem hi;rw[ho];simp only[Option.map_some,Option.getD_some,Bool.and_eq_true,Bool.not_eq_true'];refine⟨?_,Array.all_eq_true'.2 λe he=>?_⟩
    ·rw[Array.getD_eq_getD_getElem?,Array.getElem?_eq_getElem (by omega)]at hl|-;simpa using hl
    ·cases hb:Region.binds .any e with
     |false=>rfl
     |true=>have hlt:=Jp hc ho e he hb;simpa using ih e.on hlt (by omega)
   rw[h]at hm;cases hm
theorem MT {j x:Nat} (h:x∈Ib ops j):∃o,ops[j]? =some o/\∃e∈o.after,Region.binds .any e=true/\e.on=x:=by
 unfold Ib at h;cases ho:ops[j]? with
 |none=>rw[ho]at h;cases h
 |some o=>rw[ho]at h;obtain⟨e,he,rfl⟩:=List.mem_map.1 h;obtain⟨h1,h2⟩:=List.mem_filter.1 he;exact⟨o,rfl,e,by simpa using h1,h2,rfl⟩
theorem Be {listed:Array Bool} {i:Nat} (hcl:∀j o,listed.getD j false=true->ops[j]? =some o->∀e∈o.after,Region.binds .any e=true->listed.getD e.on false=true)
 (h3:∀o,ops[i]? =some o->∀e∈o.after,Region.binds .any e=true->listed.getD e.on false=true):∀x∈marked ops i,x=i\/listed.getD x false=true:=by
 have key:∀(l:List Nat) (S:List Nat),(∀x∈S,x=i\/listed.getD x false=true)->∀x∈l.foldl (λS j=>if S.contains j then S++Ib ops j else S) S,x=i\/listed.getD x false=true:=by
  intro l;induction l with
  |nil=>exactλS h=>h
  |cons j l ih=>
   intro S h;rw[List.foldl_cons];refine ih _ (λx hx=>?_);by_cases hj:S.contains j=true
   ·rw[if_pos hj]at hx;rcases List.mem_append.1 hx with hx|hx
    ·exact h x hx
    ·obtain⟨o,ho,e,he,hb,rfl⟩:=MT hx;rcases h j (by simpa using hj)with rfl|hl
     ·exact .inr (h3 o ho e he hb)
     ·exact .inr (hcl j o hl ho e he hb)
   ·rw[if_neg hj]at hx;exact h x hx
 exact key _ [i] (λx hx=>by rw[List.mem_singleton.1 hx];exact .inl rfl)
theorem Mo {Q':Act->World->Prop} {V:Nat->Value->World->Prop} (hc:kW ops a0.tmps.size=true) {w:World} {a:Act} {m:Nat} (hm:m<=ops.size) (hdef:a.defers=a0.defers) (hsz:a.tmps.size=a0.tmps.size)
 (hval:∀j d,j<m->(ops[j]?).bind (·.dst)=some d->V j (a.tmps.getD d undef) w):
 ∀(l:List Oper) (k:Nat) (b:Act),(∀j,l[j]? =if k+j<m then ops[k+j]? else none)->b.defers=a0.defers->b.tmps.size=a0.tmps.size->
  (∀t,(∀j,k<=j->j<m->(ops[j]?).bind (·.dst)≠some t)->b.tmps.getD t undef=a.tmps.getD t undef)->gC Q' V l k b w->Q' a w:=by
 intro l;induction l with
 |nil=>
  intro k b hl hb hbs hsame hend;have hk:m<=k:=by
   have:=hl 0;rw[Nat.add_zero]at this;by_cases h:k<m
   ·rw[if_pos h,Array.getElem?_eq_getElem (by omega)]at this;simp at this
   ·omega
  have:b=a:=(by have ht:b.tmps=a.tmps:=(by apply Array.ext (hbs.trans hsz.symm);intro i h1 h2;have:=hsame i (λj hj hj2=>by omega);rw[Array.getD_eq_getD_getElem?,Array.getD_eq_getD_getElem?,Array.getElem?_eq_getElem h1,Array.getElem?_eq_getElem h2]at this;simpa using this);cases a;cases b;simp only at ht hb hdef|-;rw[ht,hb,hdef]);rw[<-this];exact hend
 |cons o l ih=>
  intro k b hl hb hbs hsame hend;have hkm:k<m:=by
   have:=hl 0;rw[Nat.add_zero]at this;by_cases h:k<m
   ·exact h
   ·rw[if_neg h]at this;simp at this
  have ho:ops[k]? =some o:=(by have:=hl 0;rw[Nat.add_zero,if_pos hkm]at this;simpa using this.symm);have hl':∀j,l[j]? =if k+1+j<m then ops[k+1+j]? else none:=λj=>(by have:=hl (j+1);simp only[List.getElem?_cons_succ]at this;rw[this,show k+(j+1)=k+1+j by omega]);unfold gC at hend;cases hd:o.dst with
  |none=>
   rw[hd]at hend;refine ih (k+1) b hl' hb hbs (λt ht=>hsame t (λj hj hj2=>?_)) hend;by_cases hjk:j=k
   ·subst hjk;rw[ho];simp[hd]
   ·exact ht j (by omega) hj2
  |some d=>
   rw[hd]at hend;have hod: (ops[k]?).bind (·.dst)=some d:=(by rw[ho];exact hd);have hdn:=AX hc hod;refine ih (k+1) (b.put (some d) (a.tmps.getD d undef)) hl' ((Di _ _ _).trans hb) ((size_put _ _ _).trans hbs) (λt ht=>?_) (hend _ (hval k d hkm hod));rw[zV _ _ _ _ (by rw[hbs];exact hdn.1)];split
   ·rename_i h;rw[h]
   ·rename_i h;refine hsame t (λj hj hj2=>?_);by_cases hjk:j=k
    ·subst hjk;rw[hod];intro e;injection e with e;exact h e.symm
    ·exact ht j (by omega) hj2
theorem Mw {m i:Nat} (h:uX ops m=true) (hi:i<ops.size) (hm:m<=i):∀j,j<i->j∈marked ops i:=by intro j hj;have:=List.all_eq_true.1 h i (List.mem_range.2 hi);rw[decide_eq_false (by omega),Bool.false_or]at this;have:=List.all_eq_true.1 this j (List.mem_range.2 hj);simpa using this
theorem Kq {n0 m:Nat} (hc:kW ops n0=true) (htl:uX ops m=true):∀(fuel k:Nat) (listed:Array Bool) (a:Act) (w:World),m<=k->k<=ops.size->listed.size=ops.size->(∀j,listed.getD j false=decide (j<k))->left listed<=fuel->
 wpOps P ops Q (List.range' k (ops.size-k)) a w->wpAny P .any ops Q fuel listed a w:=by
 intro fuel;induction fuel with
 |zero=>
  intro k listed a w hmk hk hs hl hf h;have hn:Region.ready .any ops listed=[]:=by
   cases hr:Region.ready .any ops listed with
   |nil=>rfl
   |cons i rs=>obtain⟨h1,h2,_⟩:=wV (i:=i) (by rw[hr];exact List.mem_cons_self) hs;have:=Ap listed i (by omega) h2;omega
  refine⟨hn,?_⟩;rcases Nat.lt_or_ge k ops.size with hlt|hge
  ·have:=wR hc hn hs k hlt;rw[hl]at this;have:=of_decide_eq_true this;omega
  ·obtain rfl:k=ops.size:=(by omega);rw[Nat.sub_self]at h;exact h
 |succ fuel ih=>
  intro k listed a w hmk hk hs hl hf h;refine⟨λhr=>?_,λi hi=>?_⟩
  ·rcases Nat.lt_or_ge k ops.size with hlt|hge
   ·have:=wR hc hr hs k hlt;rw[hl]at this;have:=of_decide_eq_true this;omega
   ·obtain rfl:k=ops.size:=(by omega);rw[Nat.sub_self]at h;exact h
  ·obtain⟨h1,h2,h3⟩:=wV hi hs;obtain rfl:i=k:=by
    have hki:¬i<k:=(by have:=h2;rw[hl]at this;exact of_decide_eq_false this);rcases Nat.lt_or_ge k i with h|h
    ·exfalso;rcases Be (λj o hj ho e he hb=>by rw[hl]at hj|-;have:=of_decide_eq_true hj;have:=Jp hc ho e he hb;exact decide_eq_true (by omega)) h3 k (Mw htl h1 (by omega) k h)with e|e
     ·omega
     ·rw[hl]at e;have:=of_decide_eq_true e;omega
    ·omega
   rw[show ops.size-i=(ops.size-(i+1))+1 by omega,List.range'_succ,wpOps_cons]at h;refine wpOp_mono (λa w hh=>ih (i+1) _ a w (by omega) (by omega) (by rw[Array.size_setIfInBounds];exact hs) (λj=>?_) (by have:=Ap listed i (by omega) h2;omega) hh) h;rw[ma _ _ _ (by omega),hl];by_cases hj:j=i
   ·subst hj;simp
   ·rw[decide_eq_false hj,Bool.false_or];exact decide_eq_decide.2 (by omega)
def Cl (ops:Array Oper) (f:Nat->Bool):Prop:=∀j k d,isDep ops j k d=true->f j=true->f k=true
theorem Cl.no {f:Nat->Bool} (h:Cl ops f) (j k d:Nat) (hk:f k=false) (hd:isDep ops j k d=true):f j=false:=by
 cases hj:f j with
 |false=>rfl
 |true=>exact absurd (h j k d hd hj) (by rw[hk];decide)
def Gy (P:Program) (ops:Array Oper) (Q:Exit->Act->World->Prop) (V:Nat->(Nat->Bool)->Value->World->Prop) (G: (Nat->Bool)->World->Prop) (E:Nat->Act->World->World->Prop) (a0:Act) (i:Nat):Prop:=
 ∀(f:Nat->Bool) (a:Act) (w:World),f i=false->(∀j d,isDep ops i j d=true->f j=true)->Cl ops f->G f w->(∀j d,isDep ops i j d=true->V j f (a.tmps.getD d undef) w)->(∀t,iZ ops i t=true->a.tmps.getD t undef=a0.tmps.getD t undef)->
  ∀K:Act->World->Prop,(∀v w',V i (λj=>decide (j=i)||f j) v w'->G (λj=>decide (j=i)||f j) w'->E i a w w'->K (a.put ((ops[i]?).bind (·.dst)) v) w')->wpOp P ops Q i K a w
structure On (ops:Array Oper) (V:Nat->(Nat->Bool)->Value->World->Prop) (G: (Nat->Bool)->World->Prop) (a0:Act) (m:Nat) (l:Array Bool) (a:Act) (w:World):Prop where
 g:G (λj=>l.getD j false) w
 Dc:l.size=ops.size
 defers:a.defers=a0.defers
 size:a.tmps.size=a0.tmps.size
 val:∀j d,l.getD j false=true->(ops[j]?).bind (·.dst)=some d->V j (λj=>l.getD j false) (a.tmps.getD d undef) w
 same:∀t,(∀j,l.getD j false=true->(ops[j]?).bind (·.dst)≠some t)->a.tmps.getD t undef=a0.tmps.getD t undef
 closed:∀j o,l.getD j false=true->ops[j]? =some o->∀e∈o.after,Region.binds .any e=true->l.getD e.on false=true
 low:∀j,l.getD j false=true->j<m
theorem MR {i j d:Nat} (h:isDep ops i j d=true): (∃o,ops[i]? =some o/\∃e∈o.after,e.on=j/\Region.binds .any e=true)/\(ops[j]?).bind (·.dst)=some d:=by
 unfold isDep at h;cases ho:ops[i]? with
 |none=>rw[ho]at h;cases h
 |some o=>rw[ho]at h;simp only[Option.map_some,Option.getD_some,Bool.and_eq_true,beq_iff_eq]at h;obtain⟨hany,hd⟩:=h;obtain⟨e,he,hon⟩:=Array.any_eq_true'.1 hany;simp only[Bool.and_eq_true,beq_iff_eq]at hon;exact⟨⟨o,rfl,e,he,hon⟩,hd⟩
theorem M9 {V:Nat->(Nat->Bool)->Value->World->Prop} {G: (Nat->Bool)->World->Prop} {E:Nat->Act->World->World->Prop} (hmn:m<=ops.size) (hc:kW ops a0.tmps.size=true) (htl:uX ops m=true)
 (hst:∀i j d f (a:Act) w w',j≠i->(ops[j]?).bind (·.dst)=some d->V j f (a.tmps.getD d undef) w->E i a w w'->V j (λk=>decide (k=i)||f k) (a.tmps.getD d undef) w') (hstep:∀i,i<m->Gy P ops Q V G E a0 i)
 (hend:∀w,G (λj=>decide (j<m)) w->gC (wpOps P ops Q (List.range' m (ops.size-m))) (λi=>V i λj=>decide (j<m)) (ops.toList.take m) 0 a0 w):
 ∀(fuel:Nat) (l:Array Bool) (a:Act) (w:World),On ops V G a0 m l a w->left l<=fuel->wpAny P .any ops Q fuel l a w:=by
 have fin:∀(fuel:Nat) (l:Array Bool) (a:Act) (w:World),On ops V G a0 m l a w->left l<=fuel->(∀j,j<m->l.getD j false=true)->wpAny P .any ops Q fuel l a w:=by
  intro fuel l a w hI hl hall;have hlf:∀j,l.getD j false=decide (j<m):=λj=>by
   by_cases hj:j<m
   ·rw[hall j hj,decide_eq_true hj]
   ·rw[decide_eq_false hj];cases hjl:l.getD j false with
    |false=>rfl
    |true=>exact absurd (hI.low j hjl) hj
  have hf: (λj=>l.getD j false)=λj=>decide (j<m):=funext hlf;have hg:=hI.g;rw[hf]at hg;refine Kq hc htl fuel m l a w (Nat.le_refl _) hmn hI.Dc hlf hl (Mo (V:=λi=>V i λj=>decide (j<m)) (m:=m) hc hmn hI.defers hI.size (λj d hj hd=>by have:=hI.val j d (hall j hj) hd;rwa [hf]at this) (ops.toList.take m) 0 a0 (λj=>?_) rfl rfl (λt ht=>?_) (hend w hg))
  ·rw[List.getElem?_take,Nat.zero_add];simp
  ·exact(hI.same t (λj hj=>ht j (Nat.zero_le _) (hI.low j hj))).symm
 intro fuel;induction fuel with
 |zero=>
  intro l a w hI hl;refine fin 0 l a w hI hl λj hj=>?_;cases hr:Region.ready .any ops l with
  |nil=>exact wR hc hr hI.Dc j (by omega)
  |cons i rs=>obtain⟨h1,h2,_⟩:=wV (i:=i) (by rw[hr];exact List.mem_cons_self) hI.Dc;have:=Ap l i (by rw[hI.Dc];exact h1) h2;omega
 |succ fuel ih=>
  intro l a w hI hl;by_cases hall:∀j,j<m->l.getD j false=true
  ·exact fin _ l a w hI hl hall
  refine⟨λhr=>absurd (λj hj=>wR hc hr hI.Dc j (by omega)) hall,λi hi=>?_⟩;obtain⟨h1,h2,h3⟩:=wV hi hI.Dc;have hil:i<l.size:=(by rw[hI.Dc];exact h1);have hlow:=Ap l i hil h2;have him:i<m:=by
   rcases Nat.lt_or_ge i m with h|h
   ·exact h
   ·refine absurd (λj hj=>?_) hall;rcases Be hI.closed h3 j (Mw htl h1 h j (by omega))with e|e
    ·omega
    ·exact e
  have hdep:∀j d,isDep ops i j d=true->l.getD j false=true/\(ops[j]?).bind (·.dst)=some d:=λj d h=>(by obtain⟨⟨o,ho,e,he,hon,hb⟩,hd⟩:=MR h;exact⟨by rw[<-hon];exact h3 o ho e he hb,hd⟩);refine hstep i him (λj=>l.getD j false) a w h2 (λj d h=>(hdep j d h).1) (λj k d h hj=>?_) hI.g (λj d h=>hI.val j d (hdep j d h).1 (hdep j d h).2) (λt ht=>?_) _ ?_
  ·obtain⟨⟨o,ho,e,he,hon,hb⟩,_⟩:=MR h;exact hon▸hI.closed j o hj ho e he hb
  ·refine hI.same t (λj hj hd=>?_);unfold iZ at ht;cases hoj:ops[j]? with
   |none=>rw[hoj]at hd;cases hd
   |some o=>have hh:=List.all_eq_true.1 ht j (List.mem_range.2 (Array.getElem?_eq_some_iff.1 hoj).1);rw[hoj]at hh hd;have hd':o.dst=some t:=hd;simp only[hd',bne_self_eq_false,Bool.false_or]at hh;obtain⟨e,he,hon⟩:=Array.any_eq_true'.1 hh;simp only[Bool.and_eq_true,beq_iff_eq]at hon;have:=hI.closed j _ hj hoj e he hon.2;rw[hon.1,h2]at this;cases this
  ·intro v w' hv hg' hE;have hf: (λj=>(l.setIfInBounds i true).getD j false)=λj=>decide (j=i)||l.getD j false:=funext λj=>ma _ _ _ hil;refine ih _ _ _ ⟨by rw[hf];exact hg',by rw[Array.size_setIfInBounds];exact hI.Dc,(Di _ _ _).trans hI.defers,(size_put _ _ _).trans hI.size,λj d hj hd=>?_,λt ht=>?_,λj o hj ho' e he hb'=>?_,λj hj=>?_⟩ (by omega)
   ·rw[ma _ _ _ hil]at hj;rw[hf];by_cases hji:j=i
    ·subst hji;rw[hd,zV _ _ _ _ (by rw[hI.size];exact(AX hc hd).1),if_pos rfl];exact hv
    ·have hold:=hst _ _ _ _ _ _ _ hji hd (hI.val j d (by simpa [hji]using hj) hd) hE;cases hdi: (ops[i]?).bind (·.dst)with
     |none=>exact hold
     |some di=>rw[zV _ _ _ _ (by rw[hI.size];exact(AX hc hdi).1),if_neg (λe=>hji ((AX hc hdi).2 j (by rw[<-e];exact hd)))];exact hold
   ·have hti: (ops[i]?).bind (·.dst)≠some t:=ht i (by rw[ma _ _ _ hil];simp);have hold:=hI.same t (λj hj=>ht j (by rw[ma _ _ _ hil,hj];simp));cases hdi: (ops[i]?).bind (·.dst)with
    |none=>exact hold
    |some di=>rw[zV _ _ _ _ (by rw[hI.size];exact(AX hc hdi).1),if_neg (λe=>hti (by rw[hdi,e]))];exact hold
   ·rw[ma _ _ _ hil]at hj|-;by_cases hji:j=i
    ·subst hji;rw[h3 o ho' e he hb'];simp
    ·rw[hI.closed j o (by simpa [hji]using hj) ho' e he hb'];simp
   ·rw[ma _ _ _ hil]at hj;by_cases hji:j=i
    ·omega
    ·exact hI.low j (by simpa [hji]using hj)
def NQ (p:Value->World->Prop):Prop:=∀v w w',p v w->Below w.heap.size w w'->p v w'
theorem ah (c:Value):NQ λv _=>v=c:=λ_ _ _ h _=>h
def nV:List (Value->World->Prop)->Prop
 |[]=>True
 |p::ps=>NQ p/\nV ps
theorem nV.get:∀(l:List (Value->World->Prop)) (_:nV l) (i:Nat),NQ (l.getD i λ_ _=>True)
 |[],_,i=>by simp[List.getD];exactλ_ _ _ h _=>h
 |p::ps,h,0=>h.1
 |p::ps,h,i+1=>nV.get ps h.2 i
theorem sv {p:Prop} (h:p:=by repeat' first|exact trivial|exact ah _|refine And.intro ?_ ?_):p:=h
def gU (p:Nat->Prop):Nat->Nat->Prop
 |_,0=>True
 |k,n+1=>p k/\gU p (k+1) n
theorem gU.get {p:Nat->Prop}:∀(n k:Nat),gU p k n->∀i,k<=i->i<k+n->p i
 |0,k,_,i,h1,h2=>absurd h2 (by omega)
 |n+1,k,h,i,h1,h2=>by
  by_cases hi:i=k
  ·rw[hi];exact h.1
  ·exact gU.get n (k+1) h.2 i (by omega) (by omega)
def tL (P:Program) (ops:Array Oper) (Q:Exit->Act->World->Prop) (V:Nat->Value->World->Prop) (G:World->Prop) (a0:Act) (i:Nat):Prop:=
 ∀(a:Act) (w:World),G w->(∀j d,isDep ops i j d=true->V j (a.tmps.getD d undef) w)->(∀t,iZ ops i t=true->a.tmps.getD t undef=a0.tmps.getD t undef)->
  ∀K:Act->World->Prop,(∀v w',V i v w'->G w'->Below w.heap.size w w'->K (a.put ((ops[i]?).bind (·.dst)) v) w')->wpOp P ops Q i K a w
def Nn (P:Program) (ops:Array Oper) (Q:Exit->Act->World->Prop) (vals:List Value) (G: (Nat->Bool)->World->Prop) (a0:Act) (i:Nat):Prop:=
 ∀(f:Nat->Bool) (a:Act) (w:World),f i=false->(∀j d,isDep ops i j d=true->f j=true)->Cl ops f->G f w->(∀j d,isDep ops i j d=true->a.tmps.getD d undef=vals.getD j undef)->(∀t,iZ ops i t=true->a.tmps.getD t undef=a0.tmps.getD t undef)->
  ∀K:Act->World->Prop,(∀v w',v=vals.getD i undef->G (λj=>decide (j=i)||f j) w'->K (a.put ((ops[i]?).bind (·.dst)) v) w')->wpOp P ops Q i K a w
theorem rl {V:Nat->(Nat->Bool)->Value->World->Prop} {G: (Nat->Bool)->World->Prop} {E:Nat->Act->World->World->Prop} {w:World} (hmn:m<=ops.size) (hc:kW ops a0.tmps.size=true) (htl:uX ops m=true) (hG:G (λ_=>false) w.drew)
 (hst:∀i j d f (a:Act) w w',j≠i->(ops[j]?).bind (·.dst)=some d->V j f (a.tmps.getD d undef) w->E i a w w'->V j (λk=>decide (k=i)||f k) (a.tmps.getD d undef) w') (hstep:gU (Gy P ops Q V G E a0) 0 m)
 (hend:∀w,G (λj=>decide (j<m)) w->gC (wpOps P ops Q (List.range' m (ops.size-m))) (λi=>V i λj=>decide (j<m)) (ops.toList.take m) 0 a0 w):
 wpAny P .any ops Q ops.size (Array.replicate ops.size false) a0 {w with drawn:=w.drawn+1}:=by
 have hfl:∀j,(Array.replicate ops.size false).getD j false=false:=λj=>by rw[Array.getD_eq_getD_getElem?,Array.getElem?_replicate];split<;>rfl
 have hf: (λj=>(Array.replicate ops.size false).getD j false)=λ_=>false:=funext hfl;refine M9 hmn hc htl hst (λi hi=>gU.get m 0 hstep i (Nat.zero_le _) (by omega)) hend ops.size _ a0 _ ⟨by rw[hf];exact hG,by simp,rfl,rfl,λj d hj=>?_,λ_ _=>rfl,λj o hj=>?_,λj hj=>?_⟩ ?_
 ·rw[hfl]at hj;cases hj
 ·rw[hfl]at hj;cases hj
 ·rw[hfl]at hj;cases hj
 ·unfold left;refine Nat.le_trans (List.length_filter_le _ _) ?_;simp
theorem zC {p q:Nat->Prop} (h:∀i,p i->q i):∀(n k:Nat),gU p k n->gU q k n
 |0,_,_=>trivial
 |n+1,k,hp=>⟨h _ hp.1,zC h n (k+1) hp.2⟩
theorem JQ {w:World} (n m:Nat) (Vs:List (Value->World->Prop)) (G:World->Prop) (hn:ops.size=n) (hmn:m<=n) (hc:kW ops a0.tmps.size=true) (htl:uX ops m=true) (hG:G w.drew) (hst:nV Vs)
 (hstep:gU (tL P ops Q (λi=>Vs.getD i λ_ _=>True) G a0) 0 m)
 (hend:∀w,G w->gC (wpOps P ops Q (List.range' m (n-m))) (λi=>Vs.getD i λ_ _=>True) (ops.toList.take m) 0 a0 w):
 wpAny P .any ops Q ops.size (Array.replicate ops.size false) a0 {w with drawn:=w.drawn+1}:=by
 subst hn;exact rl (V:=λi _=>Vs.getD i λ_ _=>True) (G:=λ_=>G) (E:=λ_ _ w w'=>Below w.heap.size w w') hmn hc htl hG (λ_ j _ _ _ w w' _ _ h hb=>nV.get Vs hst j _ w w' h hb) (zC (λi h _ a w _ _ _ hG hd hs K hK=>h a w hG hd hs K hK) m 0 hstep) hend
theorem aQ {id:Nat} {w:World} (n m:Nat) (Vs:List (Value->World->Prop)) (G:World->Prop) (hm:P.follows .mixedOrders=true) (hn:ops.size=n) (hmn:m<=n) (hc:kW ops a0.tmps.size=true) (htl:uX ops m=true) (hG:G w.drew) (hst:nV Vs)
 (hstep:gU (tL P ops Q (λi=>Vs.getD i λ_ _=>True) G a0) 0 m)
 (hend:∀w,G w->gC (wpOps P ops Q (List.range' m (n-m))) (λi=>Vs.getD i λ_ _=>True) (ops.toList.take m) 0 a0 w): (Code.region id ops true).wp P Q a0 w:=
 wp_region_any hm (JQ n m Vs G hn hmn hc htl hG hst hstep hend)
theorem j4 {n9 l9:Nat} (hQ9:¬LetsOut Q) (hd9:ops.all kQ=true) {id:Nat} {w:World} (n m:Nat) (Vs:List (Value->World->Prop)) (G:World->Prop) (hm:P.follows .mixedOrders=true) (hn:ops.size=n) (hmn:m<=n) (hc:kW ops a0.tmps.size=true) (htl:uX ops m=true) (hG:G w.drew) (hst:nV Vs)
 (hstep:gU (tL P ops Q (λi=>Vs.getD i λ_ _=>True) G a0) 0 m)
 (hend:∀w,G w->gC (wpOps P ops Q (List.range' m (n-m))) (λi=>Vs.getD i λ_ _=>True) (ops.toList.take m) 0 a0 w): (Code.region id ops true).wpIn (Fence.wide.inRound l9) n9 P Q a0 w:=
 mG hQ9 hd9 hm (JQ n m Vs G hn hmn hc htl hG hst hstep hend)
theorem zY {n:Nat} (hn:ops.size=n):uX ops n=true:=List.all_eq_true.2 λi hi=>by rw[decide_eq_true (by have:=List.mem_range.1 hi;omega)];rfl
theorem u_ {n:Nat} (hn:ops.size=n):ops.toList.take n=ops.toList:=by rw[<-hn];exact List.take_of_length_le (by simp)
theorem wp_region_list {id:Nat} {w:World} (n:Nat) (Vs:List (Value->World->Prop)) (G:World->Prop) (hm:P.follows .mixedOrders=true) (hn:ops.size=n) (hc:kW ops a0.tmps.size=true) (hG:G w.drew) (hst:nV Vs)
 (hstep:gU (tL P ops Q (λi=>Vs.getD i λ_ _=>True) G a0) 0 n)
 (hend:∀w,G w->gC (Q .normal) (λi=>Vs.getD i λ_ _=>True) ops.toList 0 a0 w): (Code.region id ops true).wp P Q a0 w:=
 aQ n n Vs G hm hn (Nat.le_refl _) hc (zY hn) hG hst hstep λw h=>by rw[Nat.sub_self,u_ hn];exact hend w h
theorem fP {id:Nat} {w:World} (n:Nat) (Vs:List ((Nat->Bool)->Value->World->Prop)) (G: (Nat->Bool)->World->Prop) (E:Nat->Act->World->World->Prop) (hm:P.follows .mixedOrders=true) (hn:ops.size=n) (hc:kW ops a0.tmps.size=true) (hG:G (λ_=>false) w.drew)
 (hst:∀i j d f (a:Act) w w',j≠i->(ops[j]?).bind (·.dst)=some d->(Vs.getD j λ_ _ _=>True) f (a.tmps.getD d undef) w->E i a w w'->(Vs.getD j λ_ _ _=>True) (λk=>decide (k=i)||f k) (a.tmps.getD d undef) w')
 (hstep:gU (Gy P ops Q (λi=>Vs.getD i λ_ _ _=>True) G E a0) 0 n) (hend:∀w,G (λj=>decide (j<n)) w->gC (Q .normal) (λi=>Vs.getD i (λ_ _ _=>True) λj=>decide (j<n)) ops.toList 0 a0 w): (Code.region id ops true).wp P Q a0 w:=
 wp_region_any hm (rl (m:=n) (by omega) hc (zY hn) hG hst hstep λw h=>by rw[hn,Nat.sub_self,u_ hn];exact hend w h)
theorem cK {id:Nat} {w:World} (n:Nat) (Vs:List (Value->World->Prop)) (G: (Nat->Bool)->World->Prop) (E:Nat->World->World->Prop) (hm:P.follows .mixedOrders=true) (hn:ops.size=n) (hc:kW ops a0.tmps.size=true) (hG:G (λ_=>false) w.drew)
 (hst:∀i j v w w',j≠i->(Vs.getD j λ_ _=>True) v w->E i w w'->(Vs.getD j λ_ _=>True) v w')
 (hstep:gU (Gy P ops Q (λi _=>Vs.getD i λ_ _=>True) G (λi _=>E i) a0) 0 n) (hend:∀w,G (λj=>decide (j<n)) w->gC (Q .normal) (λi=>Vs.getD i λ_ _=>True) ops.toList 0 a0 w): (Code.region id ops true).wp P Q a0 w:=
 wp_region_any hm (rl (m:=n) (V:=λi _=>Vs.getD i λ_ _=>True) (by omega) hc (zY hn) hG (λi j _ _ _ w w' h _ hv hE=>hst i j _ w w' h hv hE) hstep λw h=>by rw[hn,Nat.sub_self,u_ hn];exact hend w h)
theorem dF {id:Nat} {w:World} (n:Nat) (vals:List Value) (G: (Nat->Bool)->World->Prop) (hm:P.follows .mixedOrders=true) (hn:ops.size=n) (hc:kW ops a0.tmps.size=true) (hG:G (λ_=>false) w.drew)
 (hstep:gU (Nn P ops Q vals G a0) 0 n) (hend:∀w,G (λj=>decide (j<n)) w->gC (Q .normal) (λi v _=>v=vals.getD i undef) ops.toList 0 a0 w): (Code.region id ops true).wp P Q a0 w:=
 wp_region_any hm (rl (m:=n) (V:=λi _ v _=>v=vals.getD i undef) (E:=λ_ _ _ _=>True) (by omega) hc (zY hn) hG (λ_ _ _ _ _ _ _ _ _ hv _=>hv) (zC (λi h f a w h1 h2 h3 h4 h5 h6 K hK=>h f a w h1 h2 h3 h4 h5 h6 K λv w' e g=>hK v w' e g trivial) n 0 hstep) λw h=>by rw[hn,Nat.sub_self,u_ hn];exact hend w h)
theorem iX {i:Nat} {o:Oper} {K:Act->World->Prop} {a:Act} {w:World} (ho:ops[i]? =some o) (hg:o.guard=none) (h:o.wp P a w K Q):wpOp P ops Q i K a w:=by unfold wpOp;rw[ho];simp only[Region.wanted,hg,if_true];exact .inl h
theorem Gz {a:Act} {d:Nat} {b:Bool} (hv:a.tmps.getD d undef=.bool b):a.tmps[d]? =some (.bool b):=by
 rw[Array.getD_eq_getD_getElem?]at hv;cases h:a.tmps[d]? with
 |none=>rw[h]at hv;cases hv
 |some x=>rw[h]at hv;exact congrArg some hv
theorem kG {i j d:Nat} {b:Bool} {o:Oper} {K:Act->World->Prop} {a:Act} {w:World} (ho:ops[i]? =some o) (hg:o.guard=some (j,b)) (hd: (ops[j]?).bind (·.dst)=some d) (hv:a.tmps.getD d undef=.bool b) (h:o.wp P a w K Q):wpOp P ops Q i K a w:=by
 have hy:yielded ops a.tmps j=some b:=by simp[yielded,hd,Gz hv]
 unfold wpOp;rw[ho];simp only[Region.wanted,hg,hy,beq_self_eq_true,if_true];exact .inl h
theorem Nv {i j d:Nat} {b:Bool} {o:Oper} {K:Act->World->Prop} {a:Act} {w:World} (ho:ops[i]? =some o) (hg:o.guard=some (j,b)) (hd: (ops[j]?).bind (·.dst)=some d) (hv:a.tmps.getD d undef=.bool (!b)) (h:K (a.put o.dst undef) w):wpOp P ops Q i K a w:=by
 have hy:yielded ops a.tmps j=some (!b):=by simp[yielded,hd,Gz hv]
 unfold wpOp;rw[ho];have: ((some (!b):Option Bool)==some b)=false:=by cases b<;>rfl
 simp only[Region.wanted,hg,hy,this];exact h
theorem c_ {o:Oper} {a:Act} {w w':World} {K:Act->World->Prop} {v u v':Value} (s x:Nat) (t:TypeId) (ho:o.op=.call {callee:=.builtin .append,args:=#[.tmp s,.tmp x],argTypes:=#[t,t]})
 (hs:a.tmps.getD s undef=v) (hx:a.tmps.getD x undef=u) (hrun: (Builtin.append_ #[t,t] o.type #[v,u]).run P w=.ok v' w') (h:K (a.put o.dst v') w'):o.wp P a w K Q:=by
 have hs':a.eval (.tmp s)=v:=hs;have hx':a.eval (.tmp x)=u:=hx;unfold Oper.wp execOp;simp only[ho,resolve,invoke,builtin,Sem.run_bind,Sem.run_pure,Result.andThen_ok,List.map_toArray,List.map_cons,List.map_nil,hs',hx',hrun];exact h
theorem bT {p:Prop} (h:Hid p):p:=h
theorem aN {ops:Array Oper} {rest:List Oper} {o:Oper} {a:Act} {w w':World} {v u v':Value} (hgd:o.guard=none) (s x:Operand) (t:TypeId) (ho:o.op=.call {callee:=.builtin .append,args:=#[s,x],argTypes:=#[t,t]})
 (hs:a.eval s=v) (hx:a.eval x=u) (hrun: (Builtin.append_ #[t,t] o.type #[v,u]).run P w=.ok v' w') (h:wpList P ops Q rest (a.put o.dst v') w'):Hid (wpList P ops Q (o::rest) a w):=by
 show wpList P ops Q (o::rest) a w;refine wpList_plain hgd λK hK=>?_;unfold Oper.wp execOp;simp only[ho,resolve,invoke,builtin,Sem.run_bind,Sem.run_pure,Result.andThen_ok,List.map_toArray,List.map_cons,List.map_nil,hs,hx,hrun];exact hK _ _ h
theorem jv {ops:Array Oper} {rest:List Oper} {o:Oper} {a:Act} {W:World} {c v:Value} {base t e bytes n g:Nat} {z:Value} {xs:List Value} (hgd:o.guard=none) (s x:Operand) (ho:o.op=.call {callee:=.builtin .append,args:=#[s,x],argTypes:=#[t,t]})
 (hs:a.eval s=v) (hx:a.eval x=.slice (some ⟨g,0,none⟩) 1 1) (hg:g=W.heap.size) (ht:P.underlying t=some (.slice e)) (hinfo: (P.info? e).map (λi=>(i.zero,i.size,i.bytes))=some (some z,1,bytes)) (hzs:z.cells.size=1)
 (hown:W.ownsRow base e 1 v n xs) (hc:c.oneCell'=true) (h63:n+1<=maxLen) (hbytes: (n+1)*bytes<=140737488355328) (hbase:base<=W.heap.size)
 (h:∀v' w',w'.ownsRow base e 1 v' (n+1) (xs++[c])->W.grownBy w' v.ownBlock->wpList P ops Q rest (a.put o.dst v') w'):Hid (wpList P ops Q (o::rest) a (W.alloc (.cells #[c] e))):=by
 subst hg;obtain⟨v',w',hrun,hown',hgr,_⟩:=aE (P:=P) (ty:=o.type) ht hinfo hzs (by decide) (hown.alloc (.cells #[c] e)) ((ak.new W e #[c]).fe 0 1 1 1 (by simp) (by omega) (by simp[maxLen])) (by simpa using hc) h63 hbytes (by simp;omega);exact aN hgd s x t ho hs hx hrun (h v' w' hown' ((World.grownBy_alloc W _ _).trans hgr))
theorem aH {ops:Array Oper} {rest:List Oper} {o:Oper} {a:Act} {W:World} {cs:Array Value} {v:Value} {base t e size bytes n g:Nat} {z:Value} {xs:List Value} (hgd:o.guard=none) (s x:Operand) (ho:o.op=.call {callee:=.builtin .append,args:=#[s,x],argTypes:=#[t,t]})
 (hs:a.eval s=v) (hx:a.eval x=.slice (some ⟨g,0,none⟩) 1 1) (hg:g=W.heap.size) (ht:P.underlying t=some (.slice e)) (hinfo: (P.info? e).map (λi=>(i.zero,i.size,i.bytes))=some (some z,size,bytes)) (hzs:z.cells.size=size) (hsz:0<size)
 (hown:W.ownsRow base e size v n xs) (hcs:cs.toList.length=size) (hc:∀u∈cs.toList,u.oneCell'=true) (h63:n+1<=maxLen) (hbytes: (n+1)*bytes<=140737488355328) (hbase:base<=W.heap.size)
 (h:∀v' w',w'.ownsRow base e size v' (n+1) (xs++cs.toList)->W.grownBy w' v.ownBlock->wpList P ops Q rest (a.put o.dst v') w'):Hid (wpList P ops Q (o::rest) a (W.alloc (.cells cs e))):=by
 subst hg;have hr:=(ak.new W e cs).fe 0 1 1 size (by rw[hcs];omega) (by omega) (by simp[maxLen]);rw[List.drop_zero,List.take_of_length_le (by rw[hcs];omega)]at hr;obtain⟨v',w',hrun,hown',hgr,_⟩:=aE (P:=P) (ty:=o.type) ht hinfo hzs hsz (hown.alloc (.cells cs e)) hr hc h63 hbytes (by simp;omega);exact aN hgd s x t ho hs hx hrun (h v' w' hown' ((World.grownBy_alloc W _ _).trans hgr))
theorem aA {a:Act} {t:Nat} {v:Value} (h:a.tmps.getD t undef=v):a.tmps[t]?.getD undef=v:=by rw[<-Array.getD_eq_getD_getElem?];exact h
end
end
end Go.Proofs.YtdhgejiacehpbaaGreatDoor
