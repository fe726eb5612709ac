import Derived.Test.YtdhgejiacehpbaaGreatDoorA21
import Derived.Lib.OthersKept
import Derived.Shelf.Strings.BuilderF
import Derived.Shelf.Strings.BuilderK
import Derived.Lib.FrozenHead2
set_option maxRecDepth 100000
set_option maxHeartbeats 16000000
set_option linter.all false
namespace Go.Proofs.YtdhgejiacehpbaaGreatDoor
open Go.Proofs.Tryz
namespace Et
open Go
theorem Iw {l:List E} (hl:l.Pairwise lt) {y z:E} (hy:y∈l) (hz:z∈l) (h:y.n=z.n):y=z:=by
 obtain⟨i,hi,rfl⟩:=List.mem_iff_getElem.1 hy;obtain⟨j,J,rfl⟩:=List.mem_iff_getElem.1 hz;have key:=List.pairwise_iff_getElem.1 hl;rcases Nat.lt_trichotomy i j with I|rfl|I
 ·have:=key i j hi J I;unfold lt at this;rw[h,jD]at this;omega
 ·rfl
 ·have:=key j i J hi I;unfold lt at this;rw[h,jD]at this;omega
def sX (nm:List UInt8) (y:E):Bool:=Tl.ord y.n nm==-1
def pos (l:List E) (nm:List UInt8):Nat:=(l.filter (sX nm)).length
theorem oE:∀(l:List E) (nm:List UInt8),l.Pairwise lt->l=l.filter (sX nm)++l.filter (λy=> !sX nm y)
 |[],_,_=>rfl
 |y::l,nm,h=>by
  rw[List.pairwise_cons]at h;have J:=oE l nm h.2;cases hy:sX nm y with
  |true=>rw[List.filter_cons_of_pos hy,List.filter_cons_of_neg (by simp[hy]),List.cons_append,<-J]
  |false=>have R:l.filter (sX nm)=[]:=(by rw[List.filter_eq_nil_iff];intro z j I;unfold sX at hy I;have U:=h.1 z j;unfold lt at U;have:=Dn U (beq_iff_eq.1 I);rw[this]at hy;cases hy);rw[List.filter_cons_of_neg (by simp[hy]),List.filter_cons_of_pos (by simp[hy]),R,List.nil_append];rw[R,List.nil_append]at J;rw[<-J]
theorem ud (l:List E) (nm:List UInt8) (h:l.Pairwise lt):l.take (pos l nm)=l.filter (sX nm):=by have hs:=oE l nm h;unfold pos;generalize l.filter (sX nm)=a at*;rw[hs,List.take_left]
theorem wj (l:List E) (nm:List UInt8) (h:l.Pairwise lt):l.drop (pos l nm)=l.filter (λy=> !sX nm y):=by have hs:=oE l nm h;unfold pos;generalize l.filter (sX nm)=a at*;generalize l.filter (λy=> !sX nm y)=b at*;rw[hs,List.drop_left]
theorem tF (l:List E) (nm:List UInt8):pos l nm<=l.length:=List.length_filter_le _ _
theorem xN {l:List E} {nm:List UInt8} (h:l.Pairwise lt) {k:Nat} (hk:k<l.length):Tl.ord (at_ l k).n nm=-1↔k<pos l nm:=by
 rw[ej l k hk];constructor
 ·intro J;rcases Nat.lt_or_ge k (pos l nm)with I|I
  ·exact I
  ·exfalso;have:l[k]∈l.drop (pos l nm):=(by rw[List.mem_iff_getElem];exact⟨k-pos l nm,by rw[List.length_drop];omega,by rw[List.getElem_drop];congr 1;omega⟩);rw[wj l nm h]at this;have:=(List.mem_filter.1 this).2;unfold sX at this;rw[J]at this;simp at this
 ·intro I;have:l[k]∈l.take (pos l nm):=(by rw[List.mem_iff_getElem];exact⟨k,by rw[List.length_take];omega,by rw[List.getElem_take]⟩);rw[ud l nm h]at this;have:=(List.mem_filter.1 this).2;unfold sX at this;exact beq_iff_eq.1 this
def ik (l:List E) (nm:List UInt8):Bool:=l.any λy=>y.n==nm
theorem lH (l:List E) (nm:List UInt8):ik l nm=true↔∃y∈l,y.n=nm:=by unfold ik;rw[List.any_eq_true];simp only[beq_iff_eq]
theorem ke {l:List E} {nm:List UInt8} (h:l.Pairwise lt):ik l nm=true↔pos l nm<l.length/\(at_ l (pos l nm)).n=nm:=by
 rw[lH];constructor
 ·rintro⟨y,o,rfl⟩;obtain⟨k,J,rfl⟩:=List.mem_iff_getElem.1 o;have U:¬k<pos l l[k].n:=λI=>(by have:=(xN h J).2 I;rw[ej l k J,jD]at this;omega);have j:¬pos l l[k].n<k:=λI=>(by have R:=List.pairwise_iff_getElem.1 h (pos l l[k].n) k om J I;unfold lt at R;rw[<-ej l _ om]at R;have:=(xN h (show pos l l[k].n<l.length by omega)).1 R;omega);have R:pos l l[k].n=k:=(by omega);rw[R,ej l k J];exact⟨J,rfl⟩
 ·rintro⟨U,j⟩;rw[ej l _ U]at j;exact⟨_,List.getElem_mem U,j⟩
def bj (l:List E) (nm:List UInt8):Int:=if aV l then(if Tl.dR nm then(if ik l nm then 0 else 6)else 11)else 1
def dN (l:List E) (nm:List UInt8):E:=if bj l nm=0 then at_ l (pos l nm)else E.zero
def fK (l:List E) (x:E):Int:=if aV l then(if Tl.dR x.n then(if BV x then(if ik l x.n then 7 else if 30<=l.length then 8 else 0)else 1)else 11)else 1
def eQ (l:List E) (x:E):List E:=if fK l x=0 then l.take (pos l x.n)++(x::l.drop (pos l x.n))else []
def cT (l:List E) (nm:List UInt8):List E:=if bj l nm=0 then l.take (pos l nm)++l.drop (pos l nm+1)else []
theorem dr {l:List E} {nm:List UInt8} (h:bj l nm=0):aV l=true/\Tl.dR nm=true/\ik l nm=true:=by unfold bj at h;cases h1:aV l<;>cases h2:Tl.dR nm<;>cases h3:ik l nm<;>simp[h1,h2,h3]at h|-
theorem add_zero {l:List E} {x:E} (h:fK l x=0):aV l=true/\Tl.dR x.n=true/\BV x=true/\ik l x.n=false/\l.length<30:=by unfold fK at h;cases h1:aV l<;>cases h2:Tl.dR x.n<;>cases h3:BV x<;>cases h4:ik l x.n<;>simp[h1,h2,h3,h4]at h|-;exact h
theorem gB {l:List E} (h:aV l=true):l.Pairwise lt:=((dd l).1 h).2.2
theorem EU {l:List E} {nm:List UInt8} (h:bj l nm=0):dN l nm∈l/\(dN l nm).n=nm:=by obtain⟨J,j,R⟩:=dr h;obtain⟨I,U⟩:=(ke (gB J)).1 R;unfold dN;rw[if_pos h];exact⟨by rw[ej l _ I];exact List.getElem_mem I,U⟩
theorem find_eq {l:List E} {y:E} (hm:aV l=true) (hy:y∈l):bj l y.n=0/\dN l y.n=y:=by
 have hs:bj l y.n=0:=by unfold bj;have I:=((dd l).1 hm).2.1 y hy;unfold okB at I;rw[Bool.and_eq_true]at I;rw[hm,I.1,(lH l y.n).2 ⟨y,hy,rfl⟩];rfl
 obtain⟨I,J⟩:=EU hs;exact⟨hs,Iw (gB hm) I hy J⟩
theorem pB {l:List E} {x:E} (h:fK l x=0):eQ l x=l.filter (sX x.n)++(x::l.filter (λy=> !sX x.n y)):=by unfold eQ;rw[if_pos h,ud l x.n (gB (add_zero h).1),wj l x.n (gB (add_zero h).1)]
theorem AH {l:List E} {x:E} (h:fK l x=0) (y:E):y∈eQ l x↔y=x\/y∈l:=by rw[pB h,List.mem_append,List.mem_cons,List.mem_filter,List.mem_filter];cases sX x.n y<;>simp[or_comm]
theorem Mf {l:List E} {x:E} (h:fK l x=0): (eQ l x).Pairwise lt:=by
 obtain⟨h1,h2,h3,h4,h5⟩:=add_zero h;have hp:=gB h1;rw[pB h,List.pairwise_append];have o:∀z∈l.filter (λy=> !sX x.n y),lt x z:=by
  intro z J;obtain⟨j,I⟩:=List.mem_filter.1 J;unfold sX at I;unfold lt;have hs:=uz x.n z.n;rcases tu z.n x.n with U|U|U
  ·rw[U]at I;simp at I
  ·exfalso;have e:=(Tl.lU _ _).1 U;have:=(lH l x.n).2 ⟨z,j,e⟩;rw[h4]at this;cases this
  ·omega
 refine⟨hp.filter _,?_,?_⟩
 ·rw[List.pairwise_cons];exact⟨o,hp.filter _⟩
 ·intro y hy z J;have R:lt y x:=(by have:=(List.mem_filter.1 hy).2;unfold sX at this;exact beq_iff_eq.1 this);rcases List.mem_cons.1 J with rfl|J
  ·exact R
  ·exact Jz R (o z J)
theorem zW {l:List E} {x:E} (h:fK l x=0): (eQ l x).length=l.length+1:=by unfold eQ;rw[if_pos h,List.length_append,List.length_cons,List.length_take,List.length_drop];have:=tF l x.n;omega
theorem zJ {l:List E} {x:E} (h:fK l x=0):aV (eQ l x)=true:=by
 obtain⟨J,R,U,j,o⟩:=add_zero h;rw[dd];refine⟨by rw[zW h];omega,λy I=>?_,Mf h⟩;rcases(AH h y).1 I with rfl|I
 ·unfold okB;rw[R,U];rfl
 ·exact((dd l).1 J).2.1 y I
theorem ni {l:List E} {nm:List UInt8} (h:bj l nm=0):cT l nm=l.filter (λy=>y.n != nm):=by
 obtain⟨o,h2,h3⟩:=dr h;have hp:=gB o;obtain⟨U,J⟩:=(ke hp).1 h3;unfold cT;rw[if_pos h];have j:l=l.take (pos l nm)++(l[pos l nm]::l.drop (pos l nm+1)):=by rw[<-List.drop_eq_getElem_cons U,List.take_append_drop]
 rw[ej l _ U]at J;have I:=hp;rw[j,List.pairwise_append,List.pairwise_cons]at I;obtain⟨p1,⟨p2,p3⟩,p4⟩:=I
 conv=>rhs;rw[j]
 rw[List.filter_append,List.filter_cons_of_neg (by rw[J];simp)];rw[List.filter_eq_self.2,List.filter_eq_self.2]
 ·intro y R;have:=p2 y R;unfold lt at this;rw[bne_iff_ne];intro e;rw[J,e,jD]at this;omega
 ·intro y R;have:=p4 y R _ List.mem_cons_self;unfold lt at this;rw[bne_iff_ne];intro e;rw[J,e,jD]at this;omega
theorem vT {l:List E} {nm:List UInt8} (h:bj l nm=0) (y:E):y∈cT l nm↔y∈l/\y.n≠nm:=by rw[ni h,List.mem_filter,bne_iff_ne]
theorem If {l:List E} {nm:List UInt8} (h:bj l nm=0): (cT l nm).Pairwise lt:=by rw[ni h];exact(gB (dr h).1).filter _
theorem take_len {l:List E} {nm:List UInt8} (h:bj l nm=0): (cT l nm).length+1=l.length:=by obtain⟨I,R,J⟩:=dr h;have U:=((ke (gB I)).1 J).1;unfold cT;rw[if_pos h,List.length_append,List.length_take,List.length_drop];omega
theorem wm {l:List E} {nm:List UInt8} (h:bj l nm=0):aV (cT l nm)=true:=by obtain⟨I,R,U⟩:=dr h;have hm:=(dd l).1 I;rw[dd];refine⟨by have:=take_len h;omega,λy J=>hm.2.1 y ((vT h y).1 J).1,If h⟩
end Et
section
open Go.RowKit
open Tl (It)
def jO (w w':World):Prop:=∀(k:Nat) (o:Obj),w.heap[k]? =some o->(∀s p,o≠Obj.stringIter s p)->w'.heap[k]? =some o
def dt (w w':World):Prop:=∀(k:Nat) (s:ByteArray) (p:Nat),w.heap[k]? =some (Obj.stringIter s p)->w'.heap[k]? =some (Obj.stringIter s p)
theorem um (r:Nat) (w:World) (h:r<=1114111) (h2:r<55296\/57343<r):
 Calls prog 134 #[.int .i32 (r:Int)] w λe w'=>e=.returned (i6 (Tl.runeLen r:Nat))/\w=w':=by
 unfold Tl.runeLen;by_cases I:r<=127
 ·rw[if_pos I];go_enter func134,ntmps134;go_wp2;go_ret;exact⟨rfl,rfl⟩
 rw[if_neg I];by_cases J:r<=2047
 ·rw[if_pos J];go_enter func134,ntmps134;go_wp2;go_ret;exact⟨rfl,rfl⟩
 rw[if_neg J];by_cases R:r<=65535
 ·rw[if_pos R];by_cases U:55296<=r
  ·have j:57343<r:=(by omega);go_enter func134,ntmps134;go_wp2;go_ret;exact⟨rfl,rfl⟩
  ·go_enter func134,ntmps134;go_wp2;go_ret;exact⟨rfl,rfl⟩
 ·rw[if_neg R];go_enter func134,ntmps134;go_wp2;go_ret;exact⟨rfl,rfl⟩
theorem zh (s:ByteArray) (i j:Nat):s.extract i j=⟨((s.data.toList.take j).drop i).toArray⟩:=iL s.data.toList i j
theorem cD (l:List UInt8): (⟨l.toArray⟩:ByteArray).toList=l:=ByteArray.toList_eq _
theorem qw (s:ByteArray) (w:World):
 Calls prog 116 #[.string s,.string ⟨#[239,191,189]⟩] w λe w'=>e=.returned (.bool (decide (s.data.toList.take 3=[239,191,189])))/\w=w':=by
 by_cases h:3<=s.size
 ·have H:=ja (show decide (s.data.toList.take 3=[239,191,189])=((s.extract 0 3).toList==[239,191,189]) by rw[zh,cD,List.drop_zero,Bool.eq_iff_iff];simp);go_enter func116,ntmps116;go_wp2;go_ret;exact⟨by rw[H.a];rfl,rfl⟩
 ·have H:=ja (show decide (s.data.toList.take 3=[239,191,189])=false by rw[decide_eq_false_iff_not];intro I;have:=congrArg List.length I;rw[List.length_take]at this;have J:s.data.toList.length=s.size:=rfl;simp only[List.length_cons,List.length_nil]at this;omega);go_enter func116,ntmps116;go_wp2;go_ret;exact⟨by rw[H.a];rfl,rfl⟩
def Gr (x:It):Int:=if x.iI then 65533 else x.v
theorem jO.refl (w:World):jO w w:=λ_ _ h _=>h
theorem jO.alloc {a w:World} (h:jO a w) (o:Obj):jO a (w.alloc o):=by intro k x J hx;have I:=h k x J hx;exact(Lib.alloc_old w o k (Array.getElem?_eq_some_iff.1 I).1).trans I
theorem jO.iterAt {a w:World} (h:jO a w) {k:Nat} {s:ByteArray} {pos:Nat} (hk:a.heap[k]? =some (.stringIter s pos)) (pos':Nat):jO a (w.iterAt k s pos'):=by intro i x hi hx;rw[Lib.iterAt_other w k i s pos' (λe=>by subst e;rw[hk]at hi;exact hx _ _ (Option.some.inj hi).symm)];exact h i x hi hx
theorem wide (s:ByteArray) (pos n:Nat):s.extract pos (pos+n)=⟨((s.data.toList.drop pos).take n).toArray⟩:=by rw[zh,List.take_drop,Nat.add_comm]
theorem rR {σ:Type} (s:ByteArray) (hs:s.size<4611686018427387904) (K:Nat) (c1 c2:Value) (I:σ->World->Prop) (step:σ->It->σ) (go:σ->It->Bool) (st0:σ) (B:Nat) (w:World)
 (hB:B<=w.heap.size)
 (hK:∀args w,(callFunc K args).run prog w=.ok (.enter K args) w)
 (hI:∀st w w',I st w->jO w w'->I st w')
 (hc:∀pre x post w,Tl.bI s.data.toList=pre++x::post->I (pre.foldl step st0) w->Calls prog K #[.agg #[.int .i32 (Gr x),.string ⟨x.s.toArray⟩,.bool x.iI],c1,c2] w λe w'=>e=.returned (.bool (go (pre.foldl step st0) x))/\I (step (pre.foldl step st0) x) w'/\Below B w w'/\dt w w')
 (h0:I st0 w):
 Calls prog 77 #[.string s,.func (.func K) #[] #[c1,c2]] w λe w'=>e=.returned (.tuple #[])/\I (Tl.run step go st0 (Tl.bI s.data.toList)) w'/\Below B w w':=by
 go_enter func77,ntmps77;go_wp2;go_loopw [] (λwr=>∃(pos:Nat) (pre:List It),Tl.bI s.data.toList=pre++Tl.bI (s.data.toList.drop pos)/\I (pre.foldl step st0) wr/\
  Tl.run step go st0 (Tl.bI s.data.toList)=Tl.run step go (pre.foldl step st0) (Tl.bI (s.data.toList.drop pos))/\
  wr.heap[w.heap.size]? =some (.stringIter s pos)/\Below B w wr/\pos<=s.size) (λwr=>s.size-wr.iterPos w.heap.size)
 case atStart=>
  refine⟨0,[],by simp,?_,by simp,?_,?_,Nat.zero_le _⟩
  ·exact hI _ _ _ h0 ((jO.refl w).alloc _)
  ·exact World.iter_heap w s 0
  ·exact(Below.refl B w).alloc hB _
 case round=>
  obtain⟨pos,pre,A5,hi,j,A',Ao,B5⟩:=hrel;have B4:w.heap.size<wr.heap.size:=(Array.getElem?_eq_some_iff.1 A').1;by_cases hp:pos<s.size
  ·have AI:s.data.toList.drop pos≠[]:=(by intro h;have:=congrArg List.length h;rw[List.length_drop]at this;have h4:s.data.toList.length=s.size:=rfl;simp at this;omega);obtain⟨q1,q2,q3,q4,q5,q6⟩:=Tl.jS _ AI;have Aq:=Tl.iO _ AI;have A6:=Tl.eT _ AI;have Ar:=Tl.G_ (s.data.toList.drop pos);have Av:=Tl.Lz (s.data.toList.drop pos);have Aw: (s.data.toList.drop pos).length=s.size-pos:=(by rw[List.length_drop];rfl);have Ab:=wide s pos;have A7:∀ty,(Instr.next (pt w.heap.size 0) true ty).run prog wr=_:=λty=>Lib.run_next_any_at wr w.heap.size s pos ty A' hp;rw[Tl.wy]at A7;have A4:Tl.it (s.data.toList.drop pos)=if Tl.iI (s.data.toList.drop pos)then⟨-1,(s.data.toList.drop pos).take 1,true⟩else⟨(Tl.rn (s.data.toList.drop pos)).1,(s.data.toList.drop pos).take (Tl.rn (s.data.toList.drop pos)).2,false⟩:=rfl
   have hex: (s.extract pos s.size).data.toList=s.data.toList.drop pos:=(by rw[zh];show(s.data.toList.take s.size).drop pos=_;rw[List.take_of_length_le (show s.data.toList.length<=s.size from Nat.le_refl _)]);have AR:∀n,s.data.toList.drop (pos+n)=(s.data.toList.drop pos).drop n:=λn=>(by rw[List.drop_drop]);have Aa:Tl.iI (s.data.toList.drop pos)=true->(Tl.rn (s.data.toList.drop pos)).1=65533/\(Tl.rn (s.data.toList.drop pos)).2=1:=(by unfold Tl.iI;simp);generalize s.data.toList.drop pos=L at*;generalize Ax: (Tl.rn L).1=r at*;generalize B': (Tl.rn L).2=n at*;have Ad:pos+n<=s.size:=(by omega);have As:=hI _ _ _ hi ((jO.refl wr).iterAt A' (pos+n));have A8:=Lib.iterAt_heap wr w.heap.size s pos (pos+n) A';have Ae:=Lib.below_iterAt Ao (k:=w.heap.size) hB s (pos+n);have B6: (wr.iterAt w.heap.size s (pos+n)).heap.size=wr.heap.size:=Lib.iterAt_size ..;have B0:∀ty,(Instr.next (pt w.heap.size 0) true ty).run prog wr=.ok (.tuple #[.bool true,i6 pos,.int .i32 (r:Int)]) (wr.iterAt w.heap.size s (pos+n)):=A7;generalize wr.iterAt w.heap.size s (pos+n)=w1 at*;clear A7;obtain⟨x,hx⟩:=ex (Tl.it L);rw[hx]at A4 Aq A6;have B1:Gr x=r/\x.s.length=n/\(⟨x.s.toArray⟩:ByteArray)=s.extract pos (pos+n)/\x.iI=Tl.iI L:=by
    rw[Ab];cases ho:Tl.iI L with
    |true=>obtain⟨rfl,rfl⟩:=Aa ho;rw[A4,ho];simp[Gr];omega
    |false=>rw[A4,ho];simp[Gr];omega
   obtain⟨x1,x2,x3,x4⟩:=B1;have J:=λw2 (B2:jO w1 w2)=>hc pre x (Tl.bI (s.data.toList.drop (pos+n))) w2 (by rw[A5,A6,AR,x2]) (hI _ _ _ As B2);rw[x1,x3,x4]at J;have R:Hid (Tl.run step go st0 (Tl.bI s.data.toList)=if go (pre.foldl step st0) x then Tl.run step go ((pre++[x]).foldl step st0) (Tl.bI (s.data.toList.drop (pos+n)))else step (pre.foldl step st0) x):=Lib.hid (by rw[j,A6,Tl.run,AR,x2,List.foldl_append];rfl)
   have Au:Tl.bI s.data.toList=(pre++[x])++Tl.bI (s.data.toList.drop (pos+n)):=(by rw[A5,A6,AR,x2];simp);have HP:=ja Au;have HF: (pre++[x]).foldl step st0=step (pre.foldl step st0) x:=(by rw[List.foldl_append];rfl);generalize hg:go (pre.foldl step st0) x=g at J R;generalize ht:step (pre.foldl step st0) x=t at J R HF;have HT:=ja HF;have Ah:w.heap.size<w1.heap.size:=(by omega);clear HF Au j A5 A6 AR hc ht hg A4 Aq As hi;have A3:r=65533->∀W,Calls prog 116 #[.string (s.extract pos s.size),.string ⟨#[239,191,189]⟩] W λe w'=>e=.returned (.bool (!Tl.iI L))/\W=w':=(by intro h W;have:=qw (s.extract pos s.size) W;rw[hex]at this;rw[Ar h,Bool.not_not];exact this);generalize Tl.iI L=o at*;clear Ar Av hex Ab x1 x2 x3 x4 hx Ax B' AI Aw;cases o with
   |true=>
    obtain⟨rfl,rfl⟩:=Aa rfl;have A3:=A3 rfl;clear Aa q6;have B3:∀W,(Instr.slice 9 (.string s) (some (i6 (pos:Int))) (some (i6 ((pos:Int)+1))) none).run prog W=.ok (.string (s.extract pos (pos+1))) W:=by intro W;have:=run_slice_string (P:=prog) W 9 s .i64 .i64 (pos:Int) ((pos:Int)+1) underlying9 om om om;rw[this,Int.toNat_natCast,show((pos:Int)+1).toNat=pos+1 by omega]
    (go_wp2_with(first|(go_at_call 116;refine(A3 _).mono ?_;rintro e w' ⟨rfl,rfl⟩)|fail));refine(J _ ?_).mono ?_
    ·exact(jO.refl w1).alloc _
    rintro e w3 ⟨rfl,A0,A9,A1⟩;have U:=A1 _ _ _ ((Lib.alloc_old w1 _ w.heap.size Ah).trans A8);have A2:Below B w w3:=(Ae.alloc om _).trans A9;cases g with
    |true=>
     go_wp2;go_roundw;case rel=>refine⟨pos+1,pre++[x],HP.a,by rw[HT.a];exact A0,?_,U,A2,Ad⟩;rw[R.out];rfl
     case measure=>simp only[World.iterPos,U,A'];omega
    |false=>go_wp2;refine bodyPost_ret (results_none rfl _ _ _) rfl ⟨rfl,?_,A2⟩;rw[R.out];exact A0
   |false=>
    have q6:=q6 rfl;have hlen:∀W,Calls prog 134 #[.int .i32 (r:Int)] W λe w'=>e=.returned (i6 (n:Int))/\W=w':=(by intro W;have:=um r W q4 q5;rw[q6]at this;exact this);have B3:∀W,(Instr.slice 9 (.string s) (some (i6 (pos:Int))) (some (i6 ((pos:Int)+(n:Int)))) none).run prog W=.ok (.string (s.extract pos (pos+n))) W:=(by intro W;have:=run_slice_string (P:=prog) W 9 s .i64 .i64 (pos:Int) ((pos:Int)+(n:Int)) underlying9 om om om;rw[this,Int.toNat_natCast,show((pos:Int)+(n:Int)).toNat=pos+n by omega]);clear Aa q6;by_cases h3:r=65533
    ·subst h3;have A3:=A3 rfl;(go_wp2_with(first|(go_at_call 116;refine(A3 _).mono ?_;rintro e w' ⟨rfl,rfl⟩)|(go_at_call 134;refine(hlen _).mono ?_;rintro e w' ⟨rfl,rfl⟩)|fail));refine(J _ ?_).mono ?_
     ·exact(jO.refl w1).alloc _
     rintro e w3 ⟨rfl,A0,A9,A1⟩;have U:=A1 _ _ _ ((Lib.alloc_old w1 _ w.heap.size Ah).trans A8);have A2:Below B w w3:=(Ae.alloc om _).trans A9;cases g with
     |true=>
      go_wp2;go_roundw;case rel=>refine⟨pos+n,pre++[x],HP.a,by rw[HT.a];exact A0,?_,U,A2,Ad⟩;rw[R.out];rfl
      case measure=>simp only[World.iterPos,U,A'];omega
     |false=>go_wp2;refine bodyPost_ret (results_none rfl _ _ _) rfl ⟨rfl,?_,A2⟩;rw[R.out];exact A0
    ·clear A3;have B7: ((r:Int)==65533)=false:=(by simp;omega);(go_wp2_with(first|(go_at_call 134;refine(hlen _).mono ?_;rintro e w' ⟨rfl,rfl⟩)|fail));refine(J _ ?_).mono ?_
     ·exact(jO.refl w1).alloc _
     rintro e w3 ⟨rfl,A0,A9,A1⟩;have U:=A1 _ _ _ ((Lib.alloc_old w1 _ w.heap.size Ah).trans A8);have A2:Below B w w3:=(Ae.alloc om _).trans A9;cases g with
     |true=>
      go_wp2;go_roundw;case rel=>refine⟨pos+n,pre++[x],HP.a,by rw[HT.a];exact A0,?_,U,A2,Ad⟩;rw[R.out];rfl
      case measure=>simp only[World.iterPos,U,A'];omega
     |false=>go_wp2;refine bodyPost_ret (results_none rfl _ _ _) rfl ⟨rfl,?_,A2⟩;rw[R.out];exact A0
  ·have B0:∀ty,(Instr.next (pt w.heap.size 0) true ty).run prog wr=_:=λty=>Lib.run_next_end_at wr w.heap.size s pos ty A' hp;have hd:s.data.toList.drop pos=[]:=List.drop_eq_nil_of_le (by have h4:s.data.toList.length=s.size:=rfl;omega);rw[hd]at j;have HR:=ja j;clear j;go_wp2;go_end0;refine⟨rfl,?_,Ao⟩;rw[HR.a];exact hi
def ML (r:Int):Bool:=decide (32<=r)&&r != 127&&r != 47
theorem zU (x:It):Tl.kE x=(!x.iI&&ML (Gr x)):=by unfold Tl.kE ML Gr;cases x.iI<;>simp[Bool.and_assoc]
theorem fo (r:Int) (w:World):
 Calls prog 79 #[.int .i32 r] w λe w'=>e=.returned (.bool (ML r))/\w=w':=by
 unfold ML;by_cases I:32<=r
 ·have J:decide (32<=r)=true:=(by simpa using I);cases h2: (r != 127)
  ·go_enter func79,ntmps79;go_wp2;go_ret;exact⟨by simp,rfl⟩
  ·go_enter func79,ntmps79;go_wp2;go_ret;exact⟨by simp[I],rfl⟩
 ·have J:decide (32<=r)=false:=(by simpa using I);go_enter func79,ntmps79;go_wp2;go_ret;exact⟨by simp,rfl⟩
theorem dt.refl (w:World):dt w w:=λ_ _ _ h=>h
theorem dt.trans {a b c:World} (h:dt a b) (k:dt b c):dt a c:=λi s p hi=>k i s p (h i s p hi)
theorem dt.alloc {a w:World} (h:dt a w) (o:Obj):dt a (w.alloc o):=λi s p hi=>
 have I:=h i s p hi
 (Lib.alloc_old w o i (Array.getElem?_eq_some_iff.1 I).1).trans I
theorem dt.aC {a w:World} (h:dt a w) {g i:Nat} {t:TypeId} {cs:List Value} (hg:ak w g t cs) (u:Value):dt a (w.setCell (ae g i) u):=λk s p J=>by have I:=h k s p J;rw[Below.heap_setCell _ _ _ _ (λe=>by subst e;unfold ak at hg;rw[hg]at I;cases I)];exact I
theorem ak.stay {w w':World} {g:Nat} {t:TypeId} {cs:List Value} (h:ak w g t cs) (hs:jO w w'):ak w' g t cs:=hs g _ h (λs p e=>by cases e)
theorem GR (x:It) (gr gg r:Nat) (b:Bool) (w:World) (hr:ak w gr 3 [i6 (r:Int)]) (hg:ak w gg 4 [.bool b]) (hne:gr≠gg) (br:r<=4611686018427387904):
 Calls prog 83 #[.agg #[.int .i32 (Gr x),.string ⟨x.s.toArray⟩,.bool x.iI],pt gr 0,pt gg 0] w λe w'=>e=.returned (.bool (Tl.kE x))/\
  (ak w' gr 3 [i6 ((r+1:Nat):Int)]/\ak w' gg 4 [.bool (Tl.kE x)])/\(∀B,B<=gr->B<=gg->B<=w.heap.size->Below B w w')/\dt w w':=by
 rw[zU];obtain⟨v,xs,U⟩:=x;generalize Gr ⟨v,xs,U⟩=ir;have j:=hr.lt;have o:=hg.lt;have c1:=hr.cell 0;have c2:=hg.cell 0;have f1:=hr.frozen 0;have f2:=hg.frozen 0;simp only[List.getElem?_cons_zero]at c1 c2;cases U with
 |true=>go_enter func83,ntmps83;go_wp2;go_ret;refine⟨rfl,⟨((hr.aC 0 _).cf hne _).alloc _,((hg.cf (Ne.symm hne) _).aC 0 _).alloc _⟩,λB I J R=>(((Below.refl B w).setCell I _).setCell J _).alloc (by simpa using R) _,(((dt.refl w).aC hr _).aC (hg.cf (Ne.symm hne) _) _).alloc _⟩
 |false=>go_enter func83,ntmps83;(go_wp2_with(go_at_call 79;refine(fo _ _).mono ?_;rintro e w' ⟨rfl,rfl⟩));go_ret;refine⟨rfl,⟨((hr.aC 0 _).cf hne _).alloc _,((hg.cf (Ne.symm hne) _).aC 0 _).alloc _⟩,λB I J R=>(((Below.refl B w).setCell I _).setCell J _).alloc (by simpa using R) _,(((dt.refl w).aC hr _).aC (hg.cf (Ne.symm hne) _) _).alloc _⟩
theorem J7 (xs:List It):∀a:Nat,∃n,Tl.run (λ(st:Nat×Bool) (x:It)=>(st.1+1,Tl.kE x)) (λ_ x=>Tl.kE x) (a,true) xs=(n,xs.all Tl.kE)/\n<=a+xs.length/\(xs.all Tl.kE=true->n=a+xs.length):=by
 induction xs with
 |nil=>intro a;exact⟨a,rfl,by simp,by simp⟩
 |cons x xs ih=>
  intro a;unfold Tl.run;cases h:Tl.kE x
  ·exact⟨a+1,by simp[h],by simp,by simp[h]⟩
  ·obtain⟨n,I,R,J⟩:=ih (a+1);refine⟨n,by simp[h,I],by simp only[List.length_cons];omega,λha=>?_⟩;simp only[List.all_cons,h,Bool.true_and]at ha;have:=J ha;simp only[List.length_cons];omega
theorem Ij (xs:List It):∀(a:Nat) (b:Bool),(xs.foldl (λ(st:Nat×Bool) (x:It)=>(st.1+1,Tl.kE x)) (a,b)).1=a+xs.length:=by
 induction xs with
 |nil=>intro a b;simp
 |cons x xs ih=>intro a b;rw[List.foldl_cons,ih,List.length_cons];omega
theorem Iv (l:List UInt8) (w:World) (hl:l.length<1099511627776) (gr gg:Nat) (hr:ak w gr 3 [i6 0]) (hg:ak w gg 4 [.bool true]) (hne:gr≠gg) (B:Nat) (h1:B<=gr) (h2:B<=gg):
 Calls prog 77 #[.string ⟨l.toArray⟩,.func (.func 83) #[] #[pt gr 0,pt gg 0]] w λe w'=>e=.returned (.tuple #[])/\
  ∃n:Nat,(ak w' gr 3 [i6 (n:Int)]/\ak w' gg 4 [.bool ((Tl.bI l).all Tl.kE)])/\n<=(Tl.bI l).length/\((Tl.bI l).all Tl.kE=true->n=(Tl.bI l).length)/\Below B w w':=by
 refine(rR ⟨l.toArray⟩ (by rw[dX];omega) 83 _ _ (λ(st:Nat×Bool) w'=>ak w' gr 3 [i6 (st.1:Int)]/\ak w' gg 4 [.bool st.2])
  (λ(st:Nat×Bool) (x:It)=>(st.1+1,Tl.kE x)) (λ_ x=>Tl.kE x) (0,true) B w (Nat.le_trans h1 (Nat.le_of_lt hr.lt)) (enters_of func83 kj rfl) (λst w1 w2 h hs=>⟨h.1.stay hs,h.2.stay hs⟩) ?_ ⟨hr,hg⟩).mono ?_
 ·intro pre x post w1 J I;have R:=Ij pre 0 true;have hlen:=Tl.qN l;have A':pre.length<=l.length:=(by have:=congrArg List.length (show Tl.bI l=pre++x::post from J);rw[List.length_append,List.length_cons]at this;omega);generalize pre.foldl (λ(st:Nat×Bool) (x:It)=>(st.1+1,Tl.kE x)) (0,true)=st at*;obtain⟨a,b⟩:=st;refine(GR x gr gg a b w1 I.1 I.2 hne (by simp only at R;omega)).mono ?_;rintro e w2 ⟨rfl,U,j,o⟩;exact⟨rfl,U,j _ h1 h2 (Nat.le_trans h1 (Nat.le_of_lt I.1.lt)),o⟩
 ·rintro e w2 ⟨rfl,I,j⟩;obtain⟨n,e1,e2,e3⟩:=J7 (Tl.bI l) 0;rw[show(⟨l.toArray⟩:ByteArray).data.toList=l from rfl,e1]at I;exact⟨rfl,n,I,by omega,λh=>by have:=e3 h;omega,j⟩
theorem Ec (l m:List UInt8): ((⟨l.toArray⟩:ByteArray).toList==m)=(l==m):=by rw[cD]
theorem sO (l:List UInt8) (w:World) (hl:l.length<1099511627776):
 Calls prog 35 #[.string ⟨l.toArray⟩] w λe w'=>e=.returned (.bool (Tl.dR l))/\Bw w w':=by
 have I:=dX l;have J: (⟨l.toArray⟩:ByteArray).toList=l:=cD l;generalize hs: (⟨l.toArray⟩:ByteArray)=s at*;by_cases h1:l.length<1
 ·have H:=ja (show Tl.dR l=false by unfold Tl.dR;rw[decide_eq_false (show¬1<=l.length by omega)];simp);have A2: (s.size:Int)<1:=(by omega);clear I hs J;go_enter func35,ntmps35;go_wp2;go_ret;exact⟨by rw[H.a];rfl,Below.refl _ _⟩
 ·have g1:¬(s.size:Int)<1:=(by omega);by_cases h2:24<l.length
  ·have H:=ja (show Tl.dR l=false by unfold Tl.dR;rw[decide_eq_false (show¬l.length<=24 by omega)];simp);have g2: (24:Int)<s.size:=(by omega);clear I hs J;go_enter func35,ntmps35;go_wp2;go_ret;exact⟨by rw[H.a];rfl,Below.refl _ _⟩
  ·have g2:¬(24:Int)<s.size:=(by omega);by_cases U:l=[46]
   ·have H:=ja (show Tl.dR l=false by subst U;unfold Tl.dR;simp);have g3: (s.toList==[46])=true:=(by rw[J,U];rfl);clear I hs J U;go_enter func35,ntmps35;go_wp2;go_ret;exact⟨by rw[H.a];rfl,Below.refl _ _⟩
   ·have g3: (s.toList==[46])=false:=(by rw[J];simpa using U);by_cases o:l=[46,46]
    ·have H:=ja (show Tl.dR l=false by subst o;unfold Tl.dR;simp);have g4: (s.toList==[46,46])=true:=(by rw[J,o];rfl);clear I hs J U o;go_enter func35,ntmps35;go_wp2;go_ret;exact⟨by rw[H.a];rfl,Below.refl _ _⟩
    ·have g4: (s.toList==[46,46])=false:=(by rw[J];simpa using o);have H:=ja (show Tl.dR l=((Tl.bI l).all Tl.kE&&decide ((Tl.bI l).length<=16)) by unfold Tl.dR;rw[decide_eq_true (show 1<=l.length by omega),decide_eq_true (show l.length<=24 by omega),show(l != [46])=true from bne_iff_ne.2 U,show(l != [46,46])=true from bne_iff_ne.2 o];simp);have A3:=Tl.qN l;have HS:=ja hs;clear I hs J U o;go_enter func35,ntmps35;(go_wp2_with fail);have A':=(ak.new w 3 #[i6 0]).alloc (.cells #[.bool true] 4);have j:=ak.new (w.alloc (.cells #[i6 0] 3)) 4 #[.bool true];have hb:=((Below.refl w.heap.size w).alloc lh (.cells #[i6 0] 3)).alloc sj (.cells #[.bool true] 4);simp only[World.size_alloc]at j;generalize(w.alloc (.cells #[i6 0] 3)).alloc (.cells #[.bool true] 4)=W at*;rw[<-HS.a];refine(Iv l W hl _ _ A' j om w.heap.size lh (Nat.le_succ _)).mono ?_;rintro e w2 ⟨rfl,n,hI,A4,A0,hB⟩;have HB:=hb.trans hB;have c1:=hI.1.cell 0;have c2:=hI.2.cell 0;simp only[List.getElem?_cons_zero]at c1 c2;generalize(Tl.bI l).length=R at*;have HN:=ja A0;clear hI A0 A' j hb;generalize A1: (Tl.bI l).all Tl.kE=al at*;clear A1;cases al with
     |true=>go_wp2;go_ret;refine⟨?_,HB⟩;rw[H.a,<-HN.a (by trivial)];go_num
     |false=>go_wp2;go_ret;exact⟨by rw[H.a];rfl,HB⟩
theorem Da (s:ByteArray) (w:World):
 Calls prog 270 #[.string s] w λe w'=>e=.returned (.bool false)/\w=w':=by
 have h: (s.toList != s.toList)=false:=by simp
 go_enter func270,ntmps270;go_wp2;go_ret;exact⟨by simp,rfl⟩
theorem rG (a b:List UInt8) (w:World):
 Calls prog 185 #[.string ⟨a.toArray⟩,.string ⟨b.toArray⟩] w λe w'=>e=.returned (i6 (Tl.ord a b))/\w=w':=by
 have R:=Tl.gO a b;have J:=Tl.gO b a;have I:Tl.ord b a=-Tl.ord a b:=Tl.my _ _;have j:-1<=Tl.ord a b/\Tl.ord a b<=1:=Tl.lA _ _;have U:=Tl.lU a b;rw[I]at J;generalize Tl.ord a b=o at*;clear I;have f3: ((⟨a.toArray⟩:ByteArray).toList==(⟨b.toArray⟩:ByteArray).toList)=decide (o=0):=by rw[cD,cD,Bool.eq_iff_iff,decide_eq_true_iff,U,beq_iff_eq]
 have f1:Op.bytesLess (⟨a.toArray⟩:ByteArray).toList (⟨b.toArray⟩:ByteArray).toList=decide (o=-1):=by rw[cD,cD];exact R
 have f2:Op.bytesLess (⟨b.toArray⟩:ByteArray).toList (⟨a.toArray⟩:ByteArray).toList=decide (-o=-1):=by rw[cD,cD];exact J
 generalize(⟨a.toArray⟩:ByteArray)=s at*;generalize(⟨b.toArray⟩:ByteArray)=t at*;clear R J U;have hc:Calls prog 230 #[.string s,.string t] w λe w'=>e=.returned (i6 o)/\w=w':=by
  rcases(by omega:o=-1\/o=0\/o=1)with rfl|rfl|rfl;all_goals
   simp only[Int.reduceNeg,Int.reduceEq,decide_false,decide_true,Int.neg_zero,Int.neg_neg]at f1 f2 f3;go_enter func230,ntmps230;(go_wp2_with(go_at_call 270;refine(Da _ _).mono ?_;rintro e w' ⟨rfl,rfl⟩));go_ret;exact⟨rfl,rfl⟩
 clear f1 f2 f3;go_enter func185,ntmps185;go_wp2_with(go_at_call 230;refine hc.mono ?_;rintro e w' ⟨rfl,rfl⟩)
 go_ret;exact⟨rfl,rfl⟩
end
end Go.Proofs.YtdhgejiacehpbaaGreatDoor
namespace Go.Proofs
open Go.Shelf
def Tryz.Jm:Go.Shelf.Ren:=⟨λ|170=>80|n=>n,λ|70=>166|3=>3|0=>0|72=>168|37=>23|5=>5|n=>n,λ|n=>n⟩
theorem Tryz.Ny:Go.Proofs.Lays.n170 Tryz.prog Tryz.Jm:={
 mixed:=by kernel_rfl
 f170:=Tryz.func80.trans (congrArg some (by kernel_rfl))
 t0:=Tryz.underlying0
 a0:=Tryz.isAgg0
 z0:=Tryz.sizeOf0
 v0:=Tryz.zeroValue0
 t3:=Tryz.underlying3
 a3:=Tryz.isAgg3
 z3:=Tryz.sizeOf3
 v3:=Tryz.zeroValue3
 t37:=Tryz.underlying23
 a37:=Tryz.isAgg23
 z37:=Tryz.sizeOf23
 v37:=Tryz.zeroValue23
 t70:=Tryz.underlying166
 a70:=Tryz.isAgg166
 z70:=Tryz.sizeOf166
 v70:=Tryz.zeroValue166
 t72:=Tryz.underlying168
 a72:=Tryz.isAgg168
 z72:=Tryz.sizeOf168
 v72:=Tryz.zeroValue168}
def Tryz.Dd:Go.Shelf.Ren:=⟨λ|169=>82|n=>n,λ|70=>166|9=>9|0=>0|72=>168|37=>23|127=>235|3=>3|5=>5|n=>n,λ|n=>n⟩
theorem Tryz.Nw:Go.Proofs.Lays.n169 Tryz.prog Tryz.Dd:={
 mixed:=by kernel_rfl
 f169:=Tryz.func82.trans (congrArg some (by kernel_rfl))
 t0:=Tryz.underlying0
 a0:=Tryz.isAgg0
 z0:=Tryz.sizeOf0
 v0:=Tryz.zeroValue0
 t3:=Tryz.underlying3
 a3:=Tryz.isAgg3
 z3:=Tryz.sizeOf3
 v3:=Tryz.zeroValue3
 t9:=Tryz.underlying9
 a9:=Tryz.isAgg9
 z9:=Tryz.sizeOf9
 v9:=Tryz.zeroValue9
 t37:=Tryz.underlying23
 a37:=Tryz.isAgg23
 z37:=Tryz.sizeOf23
 v37:=Tryz.zeroValue23
 t70:=Tryz.underlying166
 a70:=Tryz.isAgg166
 z70:=Tryz.sizeOf166
 v70:=Tryz.zeroValue166
 t72:=Tryz.underlying168
 a72:=Tryz.isAgg168
 z72:=Tryz.sizeOf168
 v72:=Tryz.zeroValue168
 t127:=Tryz.underlying235
 a127:=Tryz.isAgg235
 z127:=Tryz.sizeOf235
 v127:=Tryz.zeroValue235}
theorem Tryz.zS:Builder.Extra Tryz.prog Tryz.Dd:={
 sizeBuilder:=by kernel_rfl
 liesBuilder:=by kernel_rfl
 t5:=Tryz.underlying5
 a5:=Tryz.isAgg5
 z5:=Tryz.sizeOf5
 v5:=Tryz.zeroValue5
 infoByte:=by kernel_rfl
 cellsByte:=by kernel_rfl
 sizeByte:=by kernel_rfl
 neB5:=by decide}
open Go.RowKit in
theorem Tryz.Builder_Len_f (B b:Nat) (bs:List Value) (w:World) (h:Lib.IsBuilderF 168 5 B b bs w):
 Calls Tryz.prog 80 #[.pointer (some ⟨b,0,none⟩)] w λe w'=>e=.returned (.int .i64 bs.length)/\w'=w:=Any.Builder_Len_f Tryz.Ny B b bs w h
open Go.RowKit in
theorem Tryz.Builder_String_any_k (B b:Nat) (l:List UInt8) (w:World) (h:Lib.IsBuilderF 168 5 B b (Lib.byteCells l) w) (hBw:B<=w.heap.size):
 Calls Tryz.prog 82 #[.pointer (some ⟨b,0,none⟩)] w λe w'=>e=.returned (.string ⟨l.toArray⟩)/\(Lib.IsBuilderF 168 5 B b (Lib.byteCells l) w'/\Below B w w'/\Lib.OthersKept 5 (some b) w w'):=Any.Builder_String_any_k Tryz.Nw Tryz.zS B b l w h hBw
end Go.Proofs
namespace Go.Proofs.YtdhgejiacehpbaaGreatDoor
open Go.Proofs.Tryz
section
open Go.RowKit
theorem infoByte: (prog.info? 5).map (λi=>(i.zero,i.size,i.bytes))=some (some (.int .u8 0),1,1):=by kernel_rfl
theorem sizeBuilder: (prog.info? 168).map (·.size)=some 2:=by kernel_rfl
theorem liesBuilder:liesAt prog prog.depth 168 (2/prog.cellsOf 168) 0 168 1=true:=by kernel_rfl
theorem oY (b:Nat) (w:World) (h0:w.cell? (ae b 0)=some (pt b 0)):
 Calls prog 135 #[pt b 0] w λe w'=>e=.returned (.tuple #[])/\w'=w:=by
 obtain⟨j,I,_⟩:=Option.map_eq_some_iff.1 sizeBuilder;go_enter func135,ntmps135;go_wp2;rw[Lib.run_neq_ptr_same w _ underlying166 I];go_wp2;go_end0;exact⟨rfl,rfl⟩
theorem nB (b:Nat) (w:World) (h0:w.cell? (ae b 0)=some (.pointer none)) (hsh:w.shape? b=some (168,2)) (hfz:w.frozen? (ae b 0)=false):
 Calls prog 135 #[pt b 0] w λe w'=>e=.returned (.tuple #[])/\w'=w.setCell (ae b 0) (pt b 0):=by
 obtain⟨j,J,I⟩:=Option.map_eq_some_iff.1 sizeBuilder;go_enter func135,ntmps135;go_wp2;rw[Lib.run_to_unsafe w (ae b 0) underlying166 underlying284 J (by rw[I];decide) hsh (Nat.zero_lt_succ 1)];simp only[Result.andThen];rw[Oper.upon_value];go_wp2;rw[run_callFunc_extern func179 kj kj kj (e:=Extern.AbiNoEscape.same) kj];rw[Lib.run_noEscape];simp only[Result.andThen];rw[Oper.upon_value];go_wp2;rw[Lib.run_from_unsafe w (ae b 0) underlying284 underlying166 J hsh liesBuilder];simp only[Result.andThen];rw[Oper.upon_value];go_wp2;go_end0;exact⟨rfl,rfl⟩
theorem we (B b:Nat) (bs:List Value) (w:World) (h:Lib.IsBuilderF 168 5 B b bs w):
 Calls prog 135 #[pt b 0] w λe w'=>e=.returned (.tuple #[])/\(Lib.BuilderAtF 168 5 B b (pt b 0) bs w'/\Below B w w'/\Lib.OthersKept 5 (some b) w w'):=by
 rcases h with h|h
 ·refine(nB b w h.cell0 h.shape h.frozen0).mono ?_;rintro e w' ⟨rfl,rfl⟩;exact⟨rfl,h.used _,(Below.refl B w).setCell (p:=ae b 0) h.1 _,(Lib.OthersKept.refl _ _ w).setCell (ae b 0) rfl _⟩
 ·refine(oY b w h.cell0).mono ?_;rintro e w' ⟨rfl,rfl⟩;exact⟨rfl,h,Below.refl B _,Lib.OthersKept.refl _ _ _⟩
theorem qk (B b:Nat) (bs:List Value) (s:ByteArray) (w:World) (h:Lib.IsBuilderF 168 5 B b bs w) (hlen:bs.length+s.size<=140737488355328) (hBw:B<=w.heap.size):
 Calls prog 81 #[pt b 0,.string s] w λe w'=>e=.returned (.tuple #[i6 s.size,.nilIface])/\(Lib.BuilderAtF 168 5 B b (pt b 0) (bs++Lib.strCells s) w'/\Below B w w'/\Lib.OthersKept 5 (some b) w w'):=by
 obtain⟨i0,hi,A',A0,A1⟩:=info_parts infoByte;go_enter func81,ntmps81;go_wp2_with(go_at_call 135;refine(we B b bs _ h).mono ?_)
 rintro e w1 ⟨rfl,h1,o,A2⟩;obtain⟨hB,v,U,J,A3⟩:=h1;have c0:w1.cell? (ae b 0)=some (pt b 0):=by rw[Lib.cell_of_heap U];rfl
 have c1:w1.cell? (ae b 1)=some v:=by rw[Lib.cell_of_heap U];rfl
 go_wp2_with(at_builtin;refine Lib.wpList_append_own_stringF _ rfl _ _ 23 9 rfl B 5 i0 underlying23 underlying9 hi A' A0 A1 _ _ _ rfl J s rfl ?c3 ?c4 ?c5 ?_)
 case c3=>unfold maxLen;omega
 case c4=>omega
 case c5=>have:=o.size;omega
 intro v' w2 R I _;have A4:b<w1.heap.size:=by
  rcases Nat.lt_or_ge b w1.heap.size with h'|h'
  ·exact h'
  ·simp[Array.getElem?_eq_none h']at U
 have j:w2.heap[b]? =some (.cells #[pt b 0,v] 168 (0,0)):=by rw[I.block b A4 (λe=>A3 e.symm)];exact U
 have d0:w2.cell? (ae b 0)=some (pt b 0):=by rw[Lib.cell_of_heap j];rfl
 have d1:w2.cell? (ae b 1)=some v:=by rw[Lib.cell_of_heap j];rfl
 have f1:w2.frozen? (ae b 1)=false:=Lib.frozen_of_heap j 1;obtain⟨ao,n',cap,rfl⟩:∃ao n' cap,v'=.slice ao n' cap:=by
  rcases R.2 with⟨hv,_⟩|⟨g,cap,cur,fz,hv,_⟩
  ·exact⟨_,_,_,hv⟩
  ·exact⟨_,_,_,hv⟩
 go_wp2;go_ret2;refine⟨rfl,?_,?_,(A2.grown I (Lib.ownsRowF_kind J)).setCell (ae b 1) rfl _⟩
 ·exact Lib.BuilderAtF.put (T:=168) (e:=5) hB j (bs':=bs++Lib.strCells s) (by simpa [Lib.strCells_length]using R) dc
 ·exact(o.grown I (oa o.size) (λk hk=>(J.lt k hk).1)).setCell (p:=ae b 1) hB _
end
section
open Go.RowKit
open Tl (It)
def dM (st:List UInt8×Nat) (x:It):List UInt8×Nat:=if Tl.kE x then(if st.2=16\/24<st.1.length+x.s.length then st else(st.1++x.s,st.2+1))else st
def kL (st:List UInt8×Nat) (x:It):Bool:= !Tl.kE x|| !decide (st.2=16\/24<st.1.length+x.s.length)
theorem G0 (xs:List It):∀(out:List UInt8) (n:Nat),(Tl.run dM kL (out,n) xs).1=Tl.qd xs out n:=by
 induction xs with
 |nil=>intro out n;rfl
 |cons x xs ih=>
  intro out n;unfold Tl.run Tl.qd;cases hs:Tl.kE x with
  |false=>rw[show kL (out,n) x=true by unfold kL;rw[hs];rfl,if_pos rfl,show dM (out,n) x=(out,n) by unfold dM;rw[hs];rfl,ih];simp
  |true=>
   by_cases h:n=16\/24<out.length+x.s.length
   ·rw[show kL (out,n) x=false by unfold kL;rw[hs];simp only[h,decide_true];rfl,show dM (out,n) x=(out,n) by unfold dM;rw[hs,if_pos rfl,if_pos h]];simp[h]
   ·rw[show kL (out,n) x=true by unfold kL;rw[hs];simp only[h,decide_false];rfl,if_pos rfl,show dM (out,n) x=(out++x.s,n+1) by unfold dM;rw[hs,if_pos rfl,if_neg h],ih];simp[h]
theorem th {T e t:TypeId} {B b:Nat} {bs:List Value} {w w':World} {gr:Nat} {cs:List Value} (h:Lib.IsBuilderF T e B b bs w) (hgr:ak w gr t cs) (h1:t≠T) (h2:t≠e)
 (hk:∀(k:Nat) (o:Obj),w.heap[k]? =some o->k≠gr->(∀s p,o≠Obj.stringIter s p)->w'.heap[k]? =some o):Lib.IsBuilderF T e B b bs w':=by
 have key:∀p,Lib.BuilderAtF T e B b p bs w->Lib.BuilderAtF T e B b p bs w':=by
  rintro p ⟨hB,v,R,J,A'⟩;refine⟨hB,v,hk b _ R (λU=>?_) (λs p U=>by cases U),?_,A'⟩
  ·subst U;unfold ak at hgr;rw[hgr]at R;injection R with R;injection R with _ R;exact h1 R
  ·refine⟨J.1,?_⟩;rcases J.2 with h'|⟨g,cap,cur,fz,hv,A0,I,j⟩
   ·exact .inl h'
   ·refine .inr ⟨g,cap,cur,fz,hv,A0,hk g _ I (λU=>?_) (λs p U=>by cases U),j⟩;subst U;unfold ak at hgr;rw[hgr]at I;injection I with I;injection I with _ I;exact h2 I
 rcases h with h|h
 ·exact .inl (key _ h)
 ·exact .inr (key _ h)
theorem dI {T e:TypeId} {B b:Nat} {bs:List Value} {w w':World} (h:Lib.IsBuilderF T e B b bs w) (hs:jO w w'):Lib.IsBuilderF T e B b bs w':=by
 have key:∀p,Lib.BuilderAtF T e B b p bs w->Lib.BuilderAtF T e B b p bs w':=by
  rintro p ⟨hB,v,hb,I,R⟩;refine⟨hB,v,hs b _ hb (λs p U=>by cases U),⟨I.1,?_⟩,R⟩;rcases I.2 with h'|⟨g,cap,cur,fz,hv,j,o,J⟩
  ·exact .inl h'
  ·exact .inr ⟨g,cap,cur,fz,hv,j,hs g _ o (λs p U=>by cases U),J⟩
 rcases h with h|h
 ·exact .inl (key _ h)
 ·exact .inr (key _ h)
theorem pP {T e:TypeId} {B b:Nat} {bs:List Value} {w:World} (h:Lib.IsBuilderF T e B b bs w):B<=b/\∃p v,w.heap[b]? =some (.cells #[p,v] T (0,0)):=by
 rcases h with⟨I,v,J,_⟩|⟨I,v,J,_⟩
 ·exact⟨I,_,_,J⟩
 ·exact⟨I,_,_,J⟩
theorem xK {e:TypeId} {b:Nat} {w w':World} {p v:Value} {T:TypeId} {fr:Nat×Nat} (h:Lib.OthersKept e (some b) w w') (hb:w.heap[b]? =some (.cells #[p,v] T fr)):dt w w':=by intro k s q J;refine h k _ J (λI=>?_) (λc fz I=>by cases I);injection I with I;subst I;rw[hb]at J;cases J
theorem Tl.GC (l:List UInt8) (x:It) (h:x∈Tl.bI l):x.s.length<=4:=by
 have key:∀(n:Nat) (l:List UInt8),l.length<=n->x∈Tl.bI l->x.s.length<=4:=by
  intro n;induction n with
  |zero=>intro l h hx;have:l=[]:=List.eq_nil_of_length_eq_zero om;subst this;simp[Tl.fU]at hx
  |succ n ih=>
   intro l h hx;by_cases I:l=[]
   ·subst I;simp[Tl.fU]at hx
   ·have:=Tl.iO l I;rw[Tl.eT l I]at hx;rcases List.mem_cons.1 hx with rfl|hx
    ·exact this.2.2.1
    ·exact ih _ (by rw[List.length_drop];omega) hx
 exact key _ l lh h
theorem ql (l m:List UInt8):Lib.byteCells l++Lib.byteCells m=Lib.byteCells (l++m):=by unfold Lib.byteCells;rw[List.map_append]
theorem Gj (x:It) (gr gb B:Nat) (out:List UInt8) (n:Nat) (w:World) (hr:ak w gr 3 [i6 (n:Int)]) (hbd:Lib.IsBuilderF 168 5 B gb (Lib.byteCells out) w) (hn:n<=16) (ho:out.length<=24) (hx:x.s.length<=4) (hB:B<=gr):
 Calls prog 78 #[.agg #[.int .i32 (Gr x),.string ⟨x.s.toArray⟩,.bool x.iI],pt gr 0,pt gb 0] w λen w'=>en=.returned (.bool (kL (out,n) x))/\
  (ak w' gr 3 [i6 ((dM (out,n) x).2:Int)]/\Lib.IsBuilderF 168 5 B gb (Lib.byteCells (dM (out,n) x).1) w')/\Below B w w'/\dt w w':=by
 obtain⟨Ar,pb,vb,As⟩:=pP hbd;have lr:=hr.lt;have U:B<=w.heap.size:=by omega
 have c1:=hr.cell 0;have f1:=hr.frozen 0;simp only[List.getElem?_cons_zero]at c1;unfold dM kL;rw[zU];obtain⟨v,xs,od⟩:=x;have R:=dX xs;generalize Gr ⟨v,xs,od⟩=ir;simp only at hx|-;generalize hs: (⟨xs.toArray⟩:ByteArray)=s at*;have HS:=ja hs;have HZ:=ja R;have Au:s.size<=4:=by omega
 cases od with
 |true=>clear hs R;go_enter func78,ntmps78;go_wp2;go_ret;exact⟨rfl,⟨hr.alloc _,hbd.alloc _⟩,(Below.refl B w).alloc U _,(dt.refl w).alloc _⟩
 |false=>
  simp only[Bool.not_false,Bool.true_and];cases hal:ML ir with
  |false=>have HA:=ja hal;clear hs R hal;go_enter func78,ntmps78;(go_wp2_with(go_at_call 79;refine(fo _ _).mono ?_;rintro e w' ⟨rfl,rfl⟩;rw[HA.a]));go_ret;exact⟨rfl,⟨hr.alloc _,hbd.alloc _⟩,(Below.refl B w).alloc U _,(dt.refl w).alloc _⟩
  |true=>
   have HA:=ja hal;have A5:∀o,ak (w.alloc o) gr 3 [i6 (n:Int)]:=λo=>hr.alloc o;have A':∀o,Lib.IsBuilderF 168 5 B gb (Lib.byteCells out) (w.alloc o):=λo=>hbd.alloc o;have hlen: (Lib.byteCells out).length=out.length:=Lib.byteCells_length out;by_cases A1:n=16
   ·subst A1;clear hs R hal;simp only[true_or,decide_true,Bool.not_true,Bool.or_false,if_true];go_enter func78,ntmps78;(go_wp2_with(go_at_call 79;refine(fo _ _).mono ?_;rintro e w' ⟨rfl,rfl⟩;rw[HA.a]));go_quiet (fail);go_wp2;go_ret;exact⟨rfl,⟨(hr.alloc _).drewN _,dI (hbd.alloc _) (λk o h _=>h)⟩,below_drewN ((Below.refl B w).alloc U _) _,λk s p h=>((dt.refl w).alloc _) k s p h⟩
   ·have Aq: ((n:Int)==16)=false:=(by simp;omega);by_cases A6:24<out.length+xs.length
    ·have hc:n=16\/24<out.length+xs.length:=.inr A6;have A7: (24:Int)<(out.length:Int)+(s.size:Int):=(by omega);simp only[hc,decide_true,Bool.not_true,Bool.or_false,if_true];clear hs R hal hc A6 A1;have J:∀(o:Obj) (k:Nat),Calls prog 80 #[pt gb 0] ((w.alloc o).drewN k) λe w'=>e=.returned (i6 (out.length:Int))/\w'=(w.alloc o).drewN k:=(by intro o k;have:=Tryz.Builder_Len_f B gb _ ((w.alloc o).drewN k) (dI (A' o) (λ_ _ h _=>h));rw[hlen]at this;exact this);clear A5 A' hlen;go_enter func78,ntmps78;(go_wp2_with(go_at_call 79;refine(fo _ _).mono ?_;rintro e w' ⟨rfl,rfl⟩;rw[HA.a]));go_quiet ((go_at_call 80;exact Calls.quiet_of_same (J _ _)));go_wp2;go_ret;exact⟨rfl,⟨(hr.alloc _).drewN _,dI (hbd.alloc _) (λk o h _=>h)⟩,below_drewN ((Below.refl B w).alloc U _) _,λk s p h=>((dt.refl w).alloc _) k s p h⟩
    ·have hc:¬(n=16\/24<out.length+xs.length):=(by omega);have A7:¬(24:Int)<(out.length:Int)+(s.size:Int):=(by omega);simp only[hc,decide_false,Bool.not_false,Bool.or_true,if_true,if_false];clear hs R hal hc A1;have J:∀(o:Obj) (k:Nat),Calls prog 80 #[pt gb 0] ((w.alloc o).drewN k) λe w'=>e=.returned (i6 (out.length:Int))/\w'=(w.alloc o).drewN k:=(by intro o k;have:=Tryz.Builder_Len_f B gb _ ((w.alloc o).drewN k) (dI (A' o) (λ_ _ h _=>h));rw[hlen]at this;exact this);have HL:=ja hlen;clear A5 A' hlen;go_enter func78,ntmps78;(go_wp2_with(go_at_call 79;refine(fo _ _).mono ?_;rintro e w' ⟨rfl,rfl⟩;rw[HA.a]));go_quiet ((go_at_call 80;exact Calls.quiet_of_same (J _ _)));clear J;(go_wp2_with fail);have A0:=((hr.alloc (.cells #[.int .i32 ir,.string s,.bool false] 171)).drewN nq);have j:=A0.aC 0 (i6 ((n:Int)+1));have A8:Lib.IsBuilderF 168 5 B gb (Lib.byteCells out) ((w.alloc (.cells #[.int .i32 ir,.string s,.bool false] 171)).drewN nq):=dI (hbd.alloc _) (λ_ _ h _=>h);have A2:=th (w':=((w.alloc (.cells #[.int .i32 ir,.string s,.bool false] 171)).drewN nq).setCell (ae gr 0) (i6 ((n:Int)+1))) A8 A0 dc dc (λk o hk Aa _=>(Below.heap_setCell _ _ _ _ Aa).trans hk);have A9:=below_drewN ((Below.refl B w).alloc U (.cells #[.int .i32 ir,.string s,.bool false] 171)) nq;have Ab:=A9.setCell (p:=ae gr 0) hB (i6 ((n:Int)+1));have AI:dt w ((w.alloc (.cells #[.int .i32 ir,.string s,.bool false] 171)).drewN nq):=λk s p h=>((dt.refl w).alloc _) k s p h;have AR:=AI.aC (i:=0) A0 (i6 ((n:Int)+1));generalize((w.alloc (.cells #[.int .i32 ir,.string s,.bool false] 171)).drewN nq).setCell (ae gr 0) (i6 ((n:Int)+1))=W at*;clear A0 A8 A9 AI;refine(qk B gb (Lib.byteCells out) s W A2 (by rw[HL.a];omega) (Nat.le_trans hB (Nat.le_of_lt j.lt))).mono ?_;rintro e w3 ⟨rfl,A3,Ad,A4⟩;obtain⟨_,p3,v3,I⟩:=pP A2;have Ae:=AR.trans (xK A4 I);have Ah:ak w3 gr 3 [i6 ((n:Int)+1)]:=A4 gr _ j (λe'=>by injection e' with e';subst e';unfold ak at j;rw[j]at I;injection I with I;injection I with I _;simp at I) (λc fz e'=>by injection e' with _ e';exact absurd e' dc);have Ao:Lib.IsBuilderF 168 5 B gb (Lib.byteCells (out++xs)) w3:=(by right;rw[<-ql];rw[<-HS.a]at A3;exact A3);clear A3 A4 A2 AR j;go_wp2;go_ret;exact⟨rfl,⟨Ah,Ao⟩,Ab.trans Ad,Ae⟩
theorem uF (w:World) (B:Nat) (hB:B<=w.heap.size):Lib.IsBuilderF 168 5 B w.heap.size (Lib.byteCells []) (w.alloc (.cells #[.pointer none,.slice none 0 0] 168)):=by left;exact⟨hB,_,heap_alloc_new w _,⟨rfl,.inl ⟨rfl,rfl⟩⟩,by simp[Value.ownBlock]⟩
theorem iD (l:List UInt8) (w:World) (hl:l.length<1099511627776):
 Calls prog 34 #[.string ⟨l.toArray⟩] w λe w'=>e=.returned (.string ⟨(Tl.cut l).toArray⟩)/\Bw w w':=by
 go_enter func34,ntmps34;go_wp2_with fail
 have hd:=(uF w w.heap.size lh).alloc (.cells #[i6 0] 3);have hk:=ak.new (w.alloc (.cells #[.pointer none,.slice none 0 0] 168)) 3 #[i6 0];have hb:=((Below.refl w.heap.size w).alloc lh (.cells #[.pointer none,.slice none 0 0] 168)).alloc sj (.cells #[i6 0] 3);simp only[World.size_alloc]at hk;generalize(w.alloc (.cells #[.pointer none,.slice none 0 0] 168)).alloc (.cells #[i6 0] 3)=W at*;refine(rR ⟨l.toArray⟩ (by rw[dX];omega) 78 _ _ (λ(st:List UInt8×Nat) w'=>(ak w' (w.heap.size+1) 3 [i6 (st.2:Int)]/\Lib.IsBuilderF 168 5 w.heap.size w.heap.size (Lib.byteCells st.1) w')/\st.2<=16/\st.1.length<=24)
  dM kL ([],0) w.heap.size W hb.size (enters_of func78 kj rfl) (λst w1 w2 h hs=>⟨⟨h.1.1.stay hs,dI h.1.2 hs⟩,h.2⟩) ?_ ⟨⟨hk,hd⟩,by simp⟩).mono ?_
 ·intro pre x post w1 J I;have hx:x.s.length<=4:=Tl.GC l x (by rw[show Tl.bI l=pre++x::post from J];simp);generalize pre.foldl dM ([],0)=st at*;obtain⟨a,b⟩:=st;simp only at I;refine(Gj x (w.heap.size+1) w.heap.size w.heap.size a b w1 I.1.1 I.1.2 I.2.1 I.2.2 hx (Nat.le_succ _)).mono ?_;rintro e w2 ⟨rfl,R,U,j⟩;refine⟨rfl,⟨R,?_⟩,U,j⟩;unfold dM;split
  ·split
   ·exact I.2
   ·rename_i h;simp only at h;simp only[List.length_append];omega
  ·exact I.2
 ·rintro e w2 ⟨rfl,I,U⟩;have hr:=G0 (Tl.bI l) [] 0;rw[show(⟨l.toArray⟩:ByteArray).data.toList=l from rfl]at I;have HB:=hb.trans U;have h2:=I.1.2;rw[hr]at h2;clear I hr;(go_wp2_with fail);refine(Tryz.Builder_String_any_k w.heap.size w.heap.size _ _ h2 HB.size).mono ?_;rintro e w3 ⟨rfl,_,o,_⟩;go_wp2;go_ret;exact⟨rfl,HB.trans o⟩
theorem sJ (l:List UInt8): (Tl.cut l).length<=24:=(Tl.tT l).2.2
theorem zM (l:List UInt8) (w:World) (hl:l.length<1099511627776):
 Calls prog 9 #[.string ⟨l.toArray⟩] w λe w'=>e=.returned (.string ⟨(Tl.fit l).toArray⟩)/\Bw w w':=by
 have hc:=sJ l;go_enter func9,ntmps9;go_wp2_with fail
 refine(iD l w hl).mono ?_;rintro e o ⟨rfl,I⟩;have H:=ja (show Tl.fit l=if Tl.dR (Tl.cut l)then Tl.cut l else Tl.cut (120::Tl.cut l)from rfl)
 generalize Tl.cut l=t at*;go_wp2_with fail
 refine(sO t o om).mono ?_;rintro e w2 ⟨rfl,J⟩;have R:=I.trans (J.mono I.size);cases hn:Tl.dR t with
 |true=>have U:=ja hn;clear hn;go_wp2;go_ret;exact⟨by rw[H.a,U.a];rfl,R⟩
 |false=>have U:=ja hn;clear hn;(go_wp2_with fail);have e1: (⟨#[120]⟩:ByteArray)++⟨t.toArray⟩=⟨(120::t).toArray⟩:=rF [120] t;rw[e1];refine(iD (120::t) w2 (by simp only[List.length_cons];omega)).mono ?_;rintro e w3 ⟨rfl,j⟩;go_wp2;go_ret;exact⟨by rw[H.a,U.a];rfl,R.trans (j.mono R.size)⟩
end
section
open Go.RowKit
def Mi:Value->Nat
 | .string s=>s.size
 |_=>0
end
namespace EtW
open Go.RowKit Go.ChangeShapes Go.WideShapes Go.ChangeAt
open Et (E)
def qJ (y:E):List Value:=[.string ⟨y.n.toArray⟩,i6 y.i,i6 y.t]
def aK (l:List E):List Value:=l.flatMap qJ
def bP (w:World) (B:Nat) (v:Value) (l:List E):Prop:=bw w B 3 v l.length (aK l)
theorem ft (p:E) (l:List E):aK (p::l)=.string ⟨p.n.toArray⟩::i6 p.i::i6 p.t::aK l:=by unfold aK;rw[List.flatMap_cons];rfl
theorem pq (l:List E): (aK l).length=l.length*3:=by
 induction l with
 |nil=>rfl
 |cons x l ih=>rw[ft];simp only[List.length_cons,ih];omega
theorem da (l m:List E):aK (l++m)=aK l++aK m:=by unfold aK;rw[List.flatMap_append]
theorem gZ:∀(l:List E) (k:Nat) (h:k<l.length),(aK l)[k*3]? =some (.string ⟨l[k].n.toArray⟩)/\(aK l)[k*3+1]? =some (i6 l[k].i)/\(aK l)[k*3+2]? =some (i6 l[k].t)
 |x::l,0,_=>⟨rfl,rfl,rfl⟩
 |x::l,k+1,h=>by have:=gZ l k (by simpa using h);rw[ft,show(k+1)*3=k*3+1+1+1 by omega];exact this
def fF (w:World) (B:Nat) (A:Option Addr) (l:List E):Prop:=∀(j:Nat) (_:j<l.length),∃b off,A=some ⟨b,off,none⟩/\b<B/\
 w.cell? (ae b (off+j*3))=some (.string ⟨(Et.at_ l j).n.toArray⟩)/\w.cell? (ae b (off+j*3+1))=some (i6 (Et.at_ l j).i)/\w.cell? (ae b (off+j*3+2))=some (i6 (Et.at_ l j).t)
theorem bP.open_ {w:World} {B:Nat} {v:Value} {l:List E} (h:bP w B v l):∃(A:Option Addr) (c:Nat),v=.slice A l.length c/\l.length<=c/\c<=9223372036854775807/\fF w B A l:=by obtain⟨A,c,R,U,o,h4,h5⟩:=h;refine⟨A,c,R,U,o,λj J=>?_⟩;obtain⟨b,off,e,hb,I⟩:=h5 om;have:=gZ l j J;rw[Et.ej l j J];exact⟨b,off,e,hb,I _ _ this.1,by have:=I _ _ this.2.1;rw[Nat.add_assoc];exact this,by have:=I _ _ this.2.2;rw[Nat.add_assoc];exact this⟩
theorem fF.below {w w':World} {B:Nat} {A:Option Addr} {l:List E} (h:fF w B A l) (hb:Below B w w'):fF w' B A l:=λj J=>by obtain⟨b,off,e,I,R,U,o⟩:=h j J;exact⟨b,off,e,I,(cl hb I R),(cl hb I U),(cl hb I o)⟩
def kP (l:List E):Prop:=∀y∈l,y.n.length<1099511627776
theorem kP.at_ {l:List E} (h:kP l) (k:Nat) (hk:k<l.length): (Et.at_ l k).n.length<1099511627776:=by rw[Et.ej l k hk];exact h _ (List.getElem_mem hk)
theorem nk (n:List UInt8) (i t:Int) (w:World):
 Calls prog 144 #[.agg #[.string ⟨n.toArray⟩,i6 i,i6 t]] w λe w'=>e=.returned (.bool (Et.BV ⟨n,i,t⟩))/\Bw w w':=by
 have I:=ja (show Et.BV ⟨n,i,t⟩=decide (1<=i/\i<=39/\(t=1\/t=2))from rfl);have hb:∀o,Bw w (w.alloc o):=λo=>(Below.refl _ w).alloc lh o;have J:=ja hb;clear hb;by_cases h1:1<=i;rotate_left
 ·skip;rw[decide_eq_false om]at I;go_enter func144,ntmps144;go_wp2;go_ret;exact⟨by rw[I.a];rfl,J.a _⟩
 by_cases h2:i<=39;rotate_left
 ·skip;rw[decide_eq_false om]at I;go_enter func144,ntmps144;go_wp2;go_ret;exact⟨by rw[I.a];rfl,J.a _⟩
 by_cases R:t=1
 ·rw[decide_eq_true om]at I;have j: (t==1)=true:=beq_iff_eq.2 R;clear R;go_enter func144,ntmps144;go_wp2;go_ret;exact⟨by rw[I.a];rfl,J.a _⟩
 have j: (t==1)=false:=beq_eq_false_iff_ne.2 R;by_cases U:t=2
 ·rw[decide_eq_true om]at I;have A': (t==2)=true:=beq_iff_eq.2 U;clear R U;go_enter func144,ntmps144;go_wp2;go_ret;exact⟨by rw[I.a];rfl,J.a _⟩
 ·rw[decide_eq_false om]at I;have A': (t==2)=false:=beq_eq_false_iff_ne.2 U;clear R U;go_enter func144,ntmps144;go_wp2;go_ret;exact⟨by rw[I.a];rfl,J.a _⟩
theorem cP (v:Value) (l:List E) (w:World) (hl:bP w w.heap.size v l) (hs:kP l):
 Calls prog 181 #[v] w λe w'=>e=.returned (.bool (Et.aV l))/\Bw w w':=by
 obtain⟨A,c,rfl,Ah,Ao,hE⟩:=hl.open_;have HE:=Lib.hid hE;have HS:=Lib.hid hs;clear hl hE hs;by_cases Aq:30<l.length
 ·have g1: (30:Int)<(l.length:Int):=(by omega);have HM:=Lib.hid (show Et.aV l=false by unfold Et.aV;rw[decide_eq_false om,Bool.false_and]);go_enter func181,ntmps181;go_wp2;go_ret;exact⟨by rw[HM.out];rfl,Below.refl _ _⟩
 have g1:¬(30:Int)<(l.length:Int):=by omega
 have HM:=Lib.hid (show Et.aV l=Et.pA l l.length by unfold Et.aV;rw[decide_eq_true om,Bool.true_and]);have AR:=Lib.hid (λk (hk:k<l.length) h=>Et.IW (l:=l) hk h);go_enter func181,ntmps181;go_wp2;go_loopw [10] (λt wr=>∃k:Nat,k<=l.length/\t=i6 k/\Hid (Et.pA l k=true)/\Bw w wr) (λt _=>l.length-(intOf t).toNat)
 case atStart=>exact⟨0,Nat.zero_le _,rfl,Lib.hid rfl,Below.refl _ _⟩
 case round=>
  obtain⟨k,hk,rfl,A',R⟩:=hrel;by_cases A0:k<l.length
  ·obtain⟨b,off,rfl,A4,h0,h1,h2⟩:=(HE.out.below R) k A0;have hy:=HS.out.at_ k A0;have I:=Lib.hid (show Et.lM l k=(Et.okB (Et.at_ l k)&&(k==0||Tl.ord (Et.at_ l (k-1)).n (Et.at_ l k).n==-1))from rfl);have U:=Lib.hid (show Et.okB (Et.at_ l k)=(Tl.dR (Et.at_ l k).n&&Et.BV (Et.at_ l k))from rfl);have A5:=Lib.hid (λh:Et.lM l k=true=>show Et.pA l (k+1)=true by rw[Et.C2,A'.out,h];rfl);have A1:=Lib.hid (AR.out k A0);have A2:=Lib.hid (show∀q,k=q+1->wr.cell? (ae b (off+q*3))=some (.string ⟨(Et.at_ l (k-1)).n.toArray⟩)fromλq hq=>by obtain⟨b2,Ae,e2,_,c0,_,_⟩:=(HE.out.below R) q om;injection e2 with e2;injection e2 with e3 e4;subst e3 e4;rw[show k-1=q by omega];exact c0);generalize Et.at_ l k=y at*;generalize Et.at_ l (k-1)=z at*;generalize Et.lM l k=st at*;obtain⟨J,yi,yt⟩:=y;dsimp only at h0 h1 h2 hy I U;have k4:=ak.new wr 70 #[.string ⟨J.toArray⟩,i6 yi,i6 yt];have b4:=R.alloc R.size (.cells #[.string ⟨J.toArray⟩,i6 yi,i6 yt] 70);have x4:=(Below.refl wr.heap.size wr).alloc lh (.cells #[.string ⟨J.toArray⟩,i6 yi,i6 yt] 70);(go_wp2_with fail);obtain⟨w4,A6⟩:=ex (wr.alloc (.cells #[.string ⟨J.toArray⟩,i6 yi,i6 yt] 70));rw[A6]at k4 b4 x4|-;clear A6 h0 h1 h2;obtain⟨g4,A7⟩:=ex wr.heap.size;rw[A7]at k4|-;clear A7;refine(sO J w4 hy).mono ?_;rintro e w5 ⟨rfl,b5⟩;replace k4:=k4.ext b5;replace b4:=b4.trans (b5.mono b4.size);replace x4:=x4.trans (b5.mono x4.size);clear b5;cases hn:Tl.dR J with
   |false=>rw[U.out,hn,Bool.false_and,Bool.false_and]at I;have H:=Lib.hid (A1.out I.out);clear hn;go_wp2;go_ret;exact⟨by rw[H.out];rfl,b4⟩
   |true=>
    rw[hn,Bool.true_and]at U;clear hn;have p0:w5.cell? (ae g4 0)=some (.string ⟨J.toArray⟩):=k4.cell 0;have p1:w5.cell? (ae g4 1)=some (i6 yi):=k4.cell 1;have p2:w5.cell? (ae g4 2)=some (i6 yt):=k4.cell 2;(go_wp2_with fail);refine(nk J yi yt w5).mono ?_;rintro e w6 ⟨rfl,b6⟩;replace k4:=k4.ext b6;replace b4:=b4.trans (b6.mono b4.size);replace x4:=x4.trans (b6.mono x4.size);clear b6 p0 p1 p2;cases hi:Et.BV ⟨J,yi,yt⟩with
    |false=>rw[U.out,hi,Bool.false_and]at I;have H:=Lib.hid (A1.out I.out);clear hi;go_wp2;go_ret;exact⟨by rw[H.out];rfl,b4⟩
    |true=>
     rw[U.out,hi,Bool.true_and]at I;clear hi U;(go_upto_region 8 with fail);have A8:Bw w6 w6.drew:=bh.drew;rcases(show k=0\/∃q,k=q+1 from by cases k with|zero=>exact .inl rfl|succ q=>exact .inr ⟨q,rfl⟩)with rfl|⟨q,rfl⟩
     ·have H:=Lib.hid (A5.out (by rw[I.out];rfl));clear A2;refine wp_region_list 14 [(ez (i6 ((0:Nat):Int))),(ez (.bool false)),(ez (.bool false)),(ez undef),(ez undef),(ez undef),(ez undef),(ez undef),(ez undef),(ez undef),(ez undef),(ez undef),(ez undef),(ez (.bool false))]
       (λq=>Bw w6 q) kj rfl kj ?_ ?_ ?_ ?_
      ·exact A8
      ·exact sv
      ·refine⟨rz [] [3],rz [0,24] [],rz [1,25] [],wT [2,26] [],wT [2,26] [],wT [2,26] [],wT [2,26] [],wT [2,26] [],wT [2,26] [],wT [2,26] [],wT [2,26] [],wT [2,26] [],wT [2,26] [],rz [2,26,12,36] [],trivial⟩
      ·intro x hG;(iterate 14 rintro _ rfl);simp only[ap];(try simp only[Exit.then]);have b9:=b4.trans (hG.mono b4.size);go_wp2;go_roundw;case rel=>exact⟨0+1,by omega,by go_num,H,b9⟩
       case measure=>exact ms
     ·have Aa:w6.cell? (ae b (off+q*3))=some (.string ⟨z.n.toArray⟩):=cl x4 (Nat.lt_of_lt_of_le A4 R.size) (A2.out q rfl);have A9:b<w6.heap.size:=Nat.lt_of_lt_of_le A4 b4.size;clear A2;rw[show((q+1:Nat)==0)=false from rfl,Bool.false_or]at I;obtain⟨o,ho⟩:=ex (Tl.ord z.n J);have HO:=Lib.hid ho;have Ab:=Et.tu z.n J;rw[ho]at Ab I;clear ho;obtain⟨bb,AI⟩:=ex (decide (0<=o));have j:=Lib.hid AI;clear AI;refine wp_region_list 14 [(ez (i6 ((q+1:Nat):Int))),(ez (.bool true)),(ez (.bool true)),(ez (.slice (some ⟨b,off,none⟩) l.length c)),(ez (i6 ((q+1:Nat):Int))),(ez (i6 (q:Int))),(ez (pt b (off+q*3))),(ez (pt b (off+q*3))),(ez (.string ⟨z.n.toArray⟩)),(ez (pt g4 0)),(ez (.string ⟨J.toArray⟩)),(ez (i6 o)),(ez (.bool bb)),(ez (.bool bb))]
       (λq=>Bw w6 q) kj rfl kj ?_ ?_ ?_ ?_
      ·exact A8
      ·exact sv
      ·refine⟨rz [] [3],rx [0,24] [] λx hG=>(by omega: (0:Int)<((q+1:Nat):Int)),rz [1,25] [],Dh [2,26] [0],Dh [2,26] [3],Gq [2,26,4,28] [] λx hG=>(IntWalk.i64_in _ om:IntKind.i64.wrap (q:Int)=(q:Int)),Gq [2,26,3,27,5,29] [] λx hG=>(by omega:q<l.length),Dh [2,26,6,30] [],Gq [2,26,7,31] [] λx hG=>cl hG A9 Aa,Dh [2,26] [4],Gq [2,26,9,33] [] λx hG=>((k4.ext hG).cell 0:x.cell? (ae g4 0)=some (.string ⟨J.toArray⟩)),?_,Gq [2,26,11,35] [] λx hG=>j.out,rz [2,26,12,36] [],trivial⟩
       ·intro a x hG hd hs K hK;have Ar:_=_:=hd 8 32 kj;have As:_=_:=hd 10 34 kj;have Ad:_=_:=hd 2 26 kj;clear hd hs;refine kG rfl rfl rfl Ad ?_;go_simp;refine(rG z.n J _).mono ?_;rintro e w' ⟨rfl,rfl⟩;rw[HO.out];exact hK _ _ rfl hG bh
      ·intro x hG;(iterate 14 rintro _ rfl);simp only[ap];(try simp only[Exit.then]);have b9:=b4.trans (hG.mono b4.size);cases bb with
       |true=>have A3:=of_decide_eq_true j.out;have H:=Lib.hid (A1.out (by rw[I.out,beq_eq_false_iff_ne];omega));clear A3 j;go_wp2;go_ret;exact⟨by rw[H.out];rfl,b9⟩
       |false=>
        have A3:=of_decide_eq_false j.out;have H:=Lib.hid (A5.out (by rw[I.out,beq_iff_eq];omega));clear A3 j;go_wp2;go_roundw;case rel=>exact⟨q+1+1,by omega,by go_num,H,b9⟩
        case measure=>exact ms
  ·obtain rfl:k=l.length:=(by omega);go_wp2;go_ret;exact⟨by rw[HM.out,A'.out];rfl,R⟩
end EtW
end Go.Proofs.YtdhgejiacehpbaaGreatDoor
