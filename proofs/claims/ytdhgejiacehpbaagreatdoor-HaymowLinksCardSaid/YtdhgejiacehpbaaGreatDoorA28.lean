/-
  HaymowLinks: whatever names a file is given, and loses, in whatever order, its octets are the same by each of its names, and it is gone with the last one. For every input; no condition beyond the given statement's own.
  The texts A01, A02 and so on are one proof in a chain, joined and shortened by a program: each imports the one ahead; the last one holds haymowLinks_holds. A hypothesis that is written with ':= by' is proved by that script where the theorem is used.
-/
import Derived.Test.YtdhgejiacehpbaaGreatDoorA27
import Derived.Deep.Slices
import Derived.Test.YtdhgejiacehpbaaGreatDoorCards
import Derived.Test.YtdhgejiacehpbaaGreatDoorTie
import Derived.Deep.DeepHandedRow
import Derived.Lib.LaidTab
set_option maxRecDepth 100000
set_option maxHeartbeats 16000000
set_option linter.all false
namespace Go.Proofs.YtdhgejiacehpbaaGreatDoor
open Go.Proofs.Tryz
namespace Co
open Go.RowKit
open Et (E)
open Lk (fH N)
open PaW (strs fy)
section
variable {w0 w w':World} {c c':C} {f fd fl:Fi} {L L':List E} {g t:Nat} {o o':Option (Int×Int)} {l:List N} {D:List UInt8} {n:Int}
def FN:N:=[102,105,114,115,116]
theorem uf:Tl.dR FN=true:=by decide+kernel
theorem sE: (⟨(eG FN).toArray⟩:ByteArray)={data:=#[47,102,105,114,115,116]}:=rfl
def m2 (sm:Nat):List Im.Sl:=m1.set 1 ⟨2,sm,(Im.at_ m1 1).v⟩
theorem tm {sm:Nat} (hs:sm<4294967296): (m2 sm).length=40/\Im.eD (m2 sm) (2:Nat)=0/\(Im.dV (m2 sm) (2:Nat)).length=40/\Im.dY (Im.dV (m2 sm) (2:Nat)) 2≠0:=by
 have hm:=(yd sm hs).2.2.1;have I:=(yd sm hs).2.2.2.1;have hw:Im.bZ (m2 sm) (2:Nat)=0:=by unfold Im.bZ;rw[show Im.aV (m2 sm)=true from hm];rfl
 have ha:Im.at_ (m2 sm) (2:Nat)=⟨0,0,0⟩:=rfl;have J:Im.eD (m2 sm) (2:Nat)=0:=by unfold Im.eD;rw[hw,ha];rfl
 have R:Im.dV (m2 sm) (2:Nat)=(m2 sm).set 2 ⟨0,0,1⟩:=by unfold Im.dV;rw[J,ha];rfl
 refine⟨I,J,by rw[R,List.length_set];exact I,?_⟩;rw[R];unfold Im.dY;split
 ·rw[show Im.at_ ((m2 sm).set 2 ⟨0,0,1⟩) 2=⟨0,0,1⟩from rfl];decide
 ·assumption
theorem MS.created {sm:Nat} (hsm:sm<4294967296) (h:MS w0 w c f g t) (hb:Bw w0 w) (hC:wA w c g t none (Mu (m2 sm) FN) w'):∃c' fd fl,St w0 w' c' fd fl (Et.eQ [] (fH FN)) g t none [FN] [] 11/\fl.vs=[]:=by
 obtain⟨c1,c2,o,L2,hk,F,O,hF,ha,fd,f2,rfl,A',hl,hd,U,I,A0,rfl⟩:=hC;obtain⟨J,R⟩:=eX hb h.own h.new O;have j:=tm hsm;have h1:=h.age;refine⟨c2,fd,f2,⟨(Lk.nJ.add uf sj dc).2,F,hF,by rw[hl];rfl,hd,by rw[U];rfl,by decide,⟨_,j.2.2.1,I,j.2.2.2⟩,?_,by rw[ha];omega,J,R,h.new⟩,U⟩;have e:c1.b_.length=0:=by rw[hk.b_,h.b_];rfl
 omega
theorem St.written {d:List UInt8} (h:St w0 w c fd fl L g t (some (2,0)) l [] n) (hdl:d.length<=300) (hC:∃c1 c2 f2 p,kH c c1/\dw w' c2 [fd,f2] L g t (some (2,p))/\gI t w c w' c2/\Fit c2 [fd,f2]/\c2.age=c.age+1/\MY fd fl L d c1 c2 [fd,f2] L):∃c' fl' p,St w0 w' c' fd fl' L g t (some (2,p)) l d (n+1):=by
 obtain⟨c1,c2,f2,p,R,F,O,U,ha,f3,he,j,o,hd,hv,⟨I,J⟩,_⟩:=hC;obtain rfl:f2=f3:=by injection he with _ h1;injection h1
 obtain⟨hb,ho⟩:=eX h.wZ h.own h.new O;obtain⟨m,q1,q2,q3⟩:=h.sl;have A':=h.age;exact⟨c2,f2,p,h.has,F,U,by rw[o];exact h.ar,hd,hv,hdl,⟨m,q1,(I.trans R.aF).trans q2,q3⟩,by rw[J,R.b_];exact h.b_,by rw[ha];omega,hb,ho,h.new⟩
def gP (w:World) (B:Nat) (v:Value) (n:Nat) (xs:List Value):Prop:=xs.length=n/\∃g cap cur,v=.slice (some ⟨g,0,none⟩) n cap/\B<=g/\w.heap[g]? =some (.cells cur 9 (0,0))/\n<=cap/\cap<=maxLen/\cur.size=cap/\cur.toList.take n=xs/\∀u∈cur.toList,∃s,u=.string s
theorem gP.own {B n:Nat} {v:Value} {xs:List Value} (h:gP w B v n xs):w.ownsRow B 9 1 v n xs:=by obtain⟨I,g,cap,cur,J,R,U,j,o,h7,h8,_⟩:=h;exact⟨by rw[I,Nat.mul_one],.inr ⟨g,cap,cur,J,R,U,j,o,by rw[h7,Nat.mul_one],by rw[Nat.mul_one];exact h8⟩⟩
theorem gP.blk {B n:Nat} {v:Value} {xs:List Value} (h:gP w B v n xs):∃g cs,v.ownBlock=some g/\B<=g/\ak w g 9 cs/\∀u∈cs,∃s,u=.string s:=by obtain⟨U,g,cap,cur,rfl,I,J,j,o,h7,h8,R⟩:=h;exact⟨g,cur.toList,rfl,I,by unfold ak;rw[J],R⟩
theorem gP.bU {B n:Nat} {v:Value} {xs:List Value} (h:gP w B v n xs) (hk:∀b,b<w.heap.size->v.ownBlock=some b->w'.heap[b]? =w.heap[b]?):gP w' B v n xs:=by obtain⟨J,g,cap,cur,rfl,R,I,U,j,o,h8,h9⟩:=h;refine⟨J,g,cap,cur,rfl,R,?_,U,j,o,h8,h9⟩;rw[hk g ?_ rfl,I];exact(Array.getElem?_eq_some_iff.1 I).1
theorem nD {B n q:Nat} {v:Value} {s:ByteArray} {xs:List Value} (h:gP w B v n xs) (hs:w.cell? (ae q 0)=some (.string s)) (hn:n<=1000) (hB:B<=w.heap.size):
 ∃v' w',(Builtin.append_ #[22,22] 22 #[v,.slice (some ⟨q,0,none⟩) 1 1]).run prog w=.ok v' w'/\gP w' B v' (n+1) (xs++[.string s])/\w.grownBy w' v.ownBlock/\(v'.ownBlock=v.ownBlock\/v'.ownBlock=some w.heap.size):=by
 obtain⟨i,hi,hz,J,A'⟩:=info_parts PaW.AJ;have o:=h.own;obtain⟨U,g,cap,cur,rfl,h3,h4,h5,h6,h7,h8,h9⟩:=h;have R:∀j u,[Value.string s][j]? =some u->w.cell? ((ae q 0:Addr).add j)=some u:=λj u hu=>by
  cases j with
  |zero=>rw[show(ae q 0:Addr).add 0=ae q 0 from rfl,hs];exact hu
  |succ j=>cases hu
 by_cases I:n+1<=cap
 ·have hr:=run_append_room (P:=prog) w 22 22 9 i underlying22 hi g n cap cur h4 (ae q 0) 1 1 [.string s] (by rw[J];rfl) R (by intro u hu;rw[List.mem_singleton.1 hu];rfl) I (by rw[J,h7];simpa using I);rw[J,Nat.mul_one]at hr;refine⟨_,_,hr,⟨by rw[List.length_append,U];rfl,g,cap,_,rfl,h3,setRow_heap w g cur _ 9 _ h4,I,h6,?_,?_,?_⟩,⟨rfl,rfl,rfl,by simp,λk _ hk=>setRow_other w g k _ (λe=>hk (by simp[Value.ownBlock,e]))⟩,.inl rfl⟩
  ·simp only[List.size_toArray,List.length_append,List.length_take,List.length_drop,Array.length_toList,List.length_singleton];omega
  ·show List.take (n+1) (cur.toList.take n++[Value.string s]++cur.toList.drop (n+1))=_;rw[h8,show n+1=(xs++[Value.string s]).length by rw[List.length_append,U];rfl];exact List.take_left
  ·intro u hu;rcases List.mem_append.1 hu with hu|hu
   ·rcases List.mem_append.1 hu with hu|hu
    ·exact h9 u (List.mem_of_mem_take hu)
    ·exact⟨s,List.mem_singleton.1 hu⟩
   ·exact h9 u (List.mem_of_mem_drop hu)
 ·have holds:∀j u,xs[j]? =some u->w.cell? ((ae g 0:Addr).add j)=some u:=o.cells (g:=g) rfl;have hr:=run_append_grow (P:=prog) w 22 22 9 i (.string .empty) underlying22 hi hz (ae g 0) n cap xs (by rw[J,Nat.mul_one];exact U) holds (ae q 0) 1 1 [.string s] (by rw[J];rfl) R om om (growslice_fits om (by rw[A'];omega));have A0:=grownCap_ge w (n+1) cap 9;have A1:grownCap w (n+1) cap 9<=maxLen:=grownCap_le_maxLen w (n+1) cap 9 (by rw[aq];omega);refine⟨_,_,hr,⟨by rw[List.length_append,U];rfl,w.heap.size,_,_,rfl,hB,heap_alloc_new w.drew _,A0,A1,?_,?_,?_⟩,⟨rfl,rfl,rfl,by simp,λk hk _=>heap_alloc_old w.drew _ hk⟩,.inr rfl⟩
  ·simp only[Array.size_append,List.size_toArray,size_zeroCells,U,List.length_singleton];show n+1+(grownCap w (n+1) cap 9-(n+1))*1=_;omega
  ·simp only[Array.toList_append];rw[show n+1=(xs++[Value.string s]).length by rw[List.length_append,U];rfl];exact List.take_left
  ·intro u hu;simp only[Array.toList_append]at hu;rcases List.mem_append.1 hu with hu|hu
   ·rcases List.mem_append.1 hu with hu|hu
    ·exact h9 u (List.mem_of_mem_take (i:=n) (by rw[h8];exact hu))
    ·exact⟨s,List.mem_singleton.1 hu⟩
   ·unfold Builtin.zeroCells at hu;rw[Array.toList_map]at hu;obtain⟨k,_,rfl⟩:=List.mem_map.1 hu;refine⟨.empty,?_⟩;show(#[Value.string .empty])[k%1]! =_;rw[Nat.mod_one];rfl
theorem tO {B sz n q j:Nat} {k:IntKind} {z:Int} {v:Value} {xs cs:List Value} {ty:TypeId} (h:bw w B sz v n xs) (hn:0<n) (hx:xs[j]? =some (.int k z)) (hb:ak w q ty cs) (hs:∀u∈cs,∃s,u=.string s):v.ownBlock≠some q:=by
 obtain⟨A,c,rfl,o,h3,h4,J⟩:=h;obtain⟨b,off,rfl,R,U⟩:=J hn;intro e;obtain rfl:b=q:=by injection e
 have I:=U j _ hx;rw[hb.cell (off+j)]at I;obtain⟨s,e⟩:=hs _ (List.mem_of_getElem? I);cases e
theorem Hx {fs:List Fi} {q:Nat} {cs:List Value} (h:bD w c fs) (hL:Lays c) (hk:ak w q 9 cs) (hs:∀u∈cs,∃s,u=.string s) (h0:c.own q=0) (hq:1<q):nC w c fs (· =q) where
 own b e _:=e▸h0
 gl b hb e:=by omega
 bad:=λe=>aP h.bad hk e
 aU b hb e:=by subst e;exact tO h.aU.1 (by rw[hL.tB];decide) (hL.aU 1 dc dc) hk hs hb
 cU i f p hf hp:=by have I:=(h.fi i f hf).cU p hp;exact⟨aR I.blk hk dc,aP I.data hk,aP I.nodes hk⟩
 jW i f n v b hf hv hb e:=by subst e;have J:=(h.fi i f hf).jW n v hv;have hlen:0<(Sp.blk f.d n).length:=(by rw[Sp.aM];omega);exact tO (j:=0) J.1 hlen (by rw[List.getElem?_map,List.getElem?_eq_getElem hlen];rfl) hk hs hb
structure Row (w:World) (c:C) (t B:Nat) (v:Value) (l:List N):Prop where
 row:gP w B v l.length (strs (l.map eG))
 cf:∀b,v.ownBlock=some b->c.own b=0/\b≠t
theorem Row.ops {B:Nat} {v:Value} (h:Row w c t B v l) (O:gI t w c w' c'):Row w' c' t B v l:=⟨h.row.bU λb I e=>O.turn.block b I λe2=>e2.elim (λe3=>e3 (h.cf b e).1) (h.cf b e).2,λb I=>⟨(O.own b (h.row.own.lt b I).2).trans (h.cf b I).1,(h.cf b I).2⟩⟩
theorem Row.at_ {B:Nat} {v:Value} (h:Row w c t B v l):∃A k,v=.slice A l.length k/\∀(j:Nat),j<l.length->∃b off,A=some ⟨b,off,none⟩/\b<w.heap.size/\w.cell? (ae b (off+j))=some (.string ⟨(eG (l.getD j [])).toArray⟩):=by obtain⟨A,k,e,_,_,J⟩:=(fy.aG h.row.own).open_;rw[List.length_map]at e;refine⟨A,k,e,λj I=>?_⟩;obtain⟨b,off,R,U,o⟩:=J j (by rw[List.length_map];exact I);refine⟨b,off,R,U,?_⟩;rw[o];simp[List.getD,I]
theorem Row.first {x:World} {B q:Nat} (hx:ak x q 9 [.string ⟨(eG FN).toArray⟩]) (h0:c.own q=0) (hqt:q≠t) (hBq:B<=q):Row x c t B (.slice (some ⟨q,0,none⟩) 1 1) [FN]:=⟨⟨rfl,q,1,#[.string ⟨(eG FN).toArray⟩],rfl,hBq,hx,Nat.le_refl _,by rw[aq];decide,rfl,rfl,λu hu=>⟨_,List.mem_singleton.1 hu⟩⟩,λb hb=>by obtain rfl:q=b:=(by injection hb);exact⟨h0,hqt⟩⟩
theorem St.append {x:World} {v:Value} {s:N} {lr:List N} (h:St w0 w c fd fl L g t o l D n) (hr:Row w c t w0.heap.size v lr) (hw:1<w0.heap.size) (hl:lr.length<=1000) {q:Nat} (hx:x=w.alloc (.cells #[.string ⟨(eG s).toArray⟩] 9)) (hq:q=w.heap.size):
 ∃v' w',(Builtin.append_ #[22,22] 22 #[v,.slice (some ⟨q,0,none⟩) 1 1]).run prog x=.ok v' w'/\St w0 w' c fd fl L g t o l D n/\Row w' c t w0.heap.size v' (lr++[s]):=by
 subst hx hq;have U:=(Below.refl w.heap.size w).alloc lh (.cells #[.string ⟨(eG s).toArray⟩] 9);have hS:=h.below U;have hR:=hr.ops (gI.below U c);have hk:ak (w.alloc (.cells #[.string ⟨(eG s).toArray⟩] 9)) w.heap.size 9 [.string ⟨(eG s).toArray⟩]:=ak.new w 9 _;obtain⟨v',w',e1,e2,e3,I⟩:=nD hR.row (hk.cell 0) hl hS.wZ.size;obtain⟨R,cs,f1,f2,f3,f4⟩:=hR.row.blk;have j:=hR.cf R f1;have T:af (· =R) (w.alloc (.cells #[.string ⟨(eG s).toArray⟩] 9)) w':=af.bt e3 λg J=>by rw[f1]at J;injection J with J;exact J.symm
 have F:=hS.mT;have O:nC _ c [fd,fl] (· =R):=Hx F.du F.iN f3 f4 j.1 om;have F2:dw w' c [fd,fl] L g t o:=⟨F.du.rD T O,T.blk F.yU (aR F.yU f3 dc),T.blk F.mN λe=>j.2 e.symm,F.og,F.ot,F.iN,F.dir⟩;refine⟨v',w',e1,⟨hS.has,F2,hS.fit,hS.ar,hS.d,hS.vs,hS.dl,hS.sl,hS.b_,hS.age,?_,hS.own,hS.new⟩,?_,λb e=>?_⟩
 ·exact((af.aj (X:=λb=>w0.heap.size<=b) hS.wZ).trans T λb e=>.inl om).bm lh λ_ e=>e
 ·rw[List.length_append,List.map_append,PaW.uJ];exact e2
 ·rcases I with I|I
  ·exact hR.cf b (I.symm.trans e)
  ·rw[I]at e;injection e with e;subst e;exact⟨F.du.hi _ lh,λe=>by have:=F.mN.lt;omega⟩
theorem St.mono {n':Int} (h:St w0 w c fd fl L g t o l D n) (hn:n<=n'):St w0 w c fd fl L g t o l D n':=⟨h.has,h.mT,h.fit,h.ar,h.d,h.vs,h.dl,h.sl,h.b_,⟨h.age.1,Int.le_trans h.age.2 hn⟩,h.wZ,h.own,h.new⟩
theorem St.Lo (h:St w0 w c fd fl L g t o l D n) (tn:Nat):St w0 w c fd fl L g t o (Lk.rest l tn 0) D n:=⟨h.has.round tn,h.mT,h.fit,by rw[h.ar,Lk.jE];rfl,h.d,h.vs,h.dl,h.sl,h.b_,h.age,h.wZ,h.own,h.new⟩
theorem St.gY (h:St w0 w c fd fl L g t none l D n) (hn:n<=900000) (hF:FN∈l) (hl:l.length<=10) {s:N} (hs:Tl.dR s=true):
 Calls prog 10 #[pt g 0,.string {data:=#[47,102,105,114,115,116]},.string ⟨(eG s).toArray⟩] w λe w'=>∃z c' fd' fl' L' l',e=.returned (i6 z)/\St w0 w' c' fd' fl' L' g t none l' D (n+2)/\gI t w c w' c'/\((z=7/\l'=l)\/(z=0/\l'=l++[s])):=by
 have I:=h.has.find hF;rw[<-sE];by_cases J:s∈l
 ·have U:=h.has.find J;refine(rb h.mT h.fit h.age.1 (oa h.age.2) FN s 7 (λ_ _ _ _=>True) λx c1 j o b2 F1 _ k0 k1 k2 o0 o2=>wK F1 FN s uf I.1 I.2 hs U.1 j o b2 k0 k1 k2 o0 o2 _).mono ?_;rintro e w' ⟨rfl,hC⟩;obtain⟨c',hS,hO⟩:=h.there (hC.no dc);exact⟨7,c',fd,fl,L,l,rfl,hS,hO,.inl ⟨rfl,rfl⟩⟩
 ·have R:=h.has.add hs J om;refine(rb h.mT h.fit h.age.1 (oa h.age.2) FN s 0 (NF fl (Et.eQ L (fH s))) λx c1 j o b2 F1 hk k0 k1 k2 o0 o2=>Cn F1 (h.fit.l_ hk) (by rw[h.ar];omega) (by rw[h.ar];omega) FN s uf I.1 I.2 hs (h.has.none hs J) R.1 (Bc R.2 (by rw[List.length_append];show l.length+1<=11;omega)) j o b2 k0 k1 k2 o0 o2 (Jw h)).mono ?_;rintro e w' ⟨rfl,hC⟩;obtain⟨c',fd',fl',hS,hO⟩:=h.linked hl hs J hC.ok;exact⟨0,c',fd',fl',_,_,rfl,hS.mono om,hO,.inr ⟨rfl,rfl⟩⟩
def L1 (w0:World) (D:List UInt8) (g k:Nat) (v:Value) (x:World):Prop:=∃c fd fl L t l,St w0 x c fd fl L g t none l D (12+2*k)/\Row x c t w0.heap.size v l/\FN∈l/\l.length<=k+1
def L2 (w0:World) (D:List UInt8) (g tn:Nat) (v:Value) (lr:List N) (i:Nat) (x:World):Prop:=(i<lr.length/\∃c fd fl L t,St w0 x c fd fl L g t none (Lk.rest lr tn i) D (100+10*i)/\Row x c t w0.heap.size v lr)\/(i=lr.length/\∃c fd L t,dw x c [fd] L g t none/\Bw w0 x)
theorem L1.two {k tn:Nat} {v:Value} {x:World} (h:L1 w0 D g k v x) (hk:k<=9):∃A cc lr,v=.slice A lr.length cc/\0<lr.length/\lr.length<=10/\L2 w0 D g tn v lr 0 x:=by obtain⟨c,fd,J,L,t,l,hS,hR,R,U⟩:=h;obtain⟨A,cc,e,_⟩:=hR.at_;have I:=List.length_pos_of_mem R;exact⟨A,cc,l,e,I,by omega,.inl ⟨I,c,fd,J,L,t,(hS.Lo tn).mono om,hR⟩⟩
theorem Row.cell {B b off cc j:Nat} {s:N} {ps:ByteArray} (h:Row w c t B (.slice (some ⟨b,off,none⟩) l.length cc) l) (hj:j<l.length) (hs:l.getD j []=s) (hp: ({data:=(eG s).toArray}:ByteArray)=ps):w.cell? (ae b (off+j))=some (.string ps):=by obtain⟨A,k,e,R⟩:=h.at_;injection e with U _ e3;obtain⟨b',J,I,_,o⟩:=R j hj;rw[<-U]at I;injection I with I;injection I with I e6;subst I e6;rw[o,hs,hp]
structure Kp (w:World) (c:C) (t q ty:Nat) (cs:List Value):Prop where
 blk:ak w q ty cs
 own:c.own q=0
 cf:q≠t
theorem Kp.ops {q ty:Nat} {cs:List Value} (h:Kp w c t q ty cs) (O:gI t w c w' c'):Kp w' c' t q ty cs:=by have hs:=O.bM h.blk.lt h.own h.cf;exact⟨hs.1.trans h.blk,hs.2,h.cf⟩
theorem Dm (x:World) (T:TypeId) (arr:Array Value) (xs:List Value) (q:Nat) (hq:x.heap.size=q) (ha:arr.size=xs.length):∃x2,(x.alloc (.cells arr T)).setCells q 0 xs=x2/\ak x2 q T xs/\Bw x x2:=by subst hq;have I:=(ak.new x T arr).setCells xs 0 (by simp[ha]);rw[show mS arr.toList 0 xs=xs by unfold mS;rw[List.take_zero,List.drop_eq_nil_of_le (by simp[ha])];simp]at I;exact⟨_,rfl,I,fq ((Below.refl _ x).alloc lh _) lh 0 _⟩
theorem St.ld {s:N} (h:St w0 w c fd fl L g t none (s::l) D n) (hn:n<=900000) (hl:l.length<=9):
 Calls prog 13 #[pt g 0,.string ⟨(eG s).toArray⟩] w λe w'=>e=.returned (i6 0)/\wA w c g t none (Js fl (Et.cT L s)) w':=by
 obtain⟨m,R,U,j⟩:=h.sl;have J:=h.ar;rw[List.length_cons]at J;have I:=h.has.find List.mem_cons_self;exact wi h.mT h.fit h.age.1 (oa h.age.2) om om m R U j h.b_ s (h.has.name List.mem_cons_self) I.1 I.2 (Bc h.has.take.2 om) (Jw h)
theorem L2.next {tn i:Nat} {s:N} {v:Value} {lr:List N} (h:St w0 w c fd fl L g t none (s::Lk.rest lr tn (i+1)) D n) (hn:n+1<=100+10*((i+1:Nat):Int)) (hR:Row w c t w0.heap.size v lr) (hi:i<lr.length) (hC:wA w c g t none (Js fl (Et.cT L s)) w'):L2 w0 D g tn v lr (i+1) w':=by
 have j:=Lk.jE lr tn (i+1);by_cases R:i+1<lr.length
 ·obtain⟨c',I,J,hS,O⟩:=h.DK om hC;exact .inl ⟨R,c',I,J,_,t,hS.mono hn,hR.ops O⟩
 ·have e:Lk.rest lr tn (i+1)=[]:=List.length_eq_zero_iff.1 om;rw[e]at h;obtain⟨c',I,F,_,U,_⟩:=h.last hC;exact .inr ⟨by omega,c',I,_,t,F,U⟩
theorem DL {v:Value} (h:w.cell? (ae g 0)=some v):Calls prog 14 #[pt g 0] w λe w'=>e=.returned v/\w'=w:=by go_enter func14,ntmps14;go_wp2;go_ret;exact⟨rfl,rfl⟩
end
end Co
namespace Co
open Go.RowKit
open Lk (N)
open PaW (fy)
section
variable {w w':World}
theorem Ce (v vd:Value) (l0:List N) (D0:List UInt8) (tn:Nat) (htn:tn<256) (hl:fy w w.heap.size v l0) (hd:Bs w w.heap.size vd D0) (hw1:1<w.heap.size) (hH:a7 w) (hR:nW w):
 Calls prog 3 #[v,vd,.int .u8 (tn:Int)] w λe w'=>e=.returned (.bool true)/\Bw w w':=by
 have HM:=ja (F9 hw1 hH hR);have HW:=jc hw1 hH hR;obtain⟨A,ca,rfl,HR,HS,hE⟩:=hl.open_;have HE:=ja hE;have Bt:=hl.len;obtain⟨Ad,cd,rfl,HT,HU,_⟩:=hd.open_;obtain⟨k,hk⟩:=ex ((D0.take 300).length);have AR:=ja (show Bs w w.heap.size (.slice Ad k cd) (D0.take 300) by have hb:=Bs.head hd (k:=k) (by rw[<-hk,List.length_take];exact Nat.min_le_right _ _);rw[show D0.take k=D0.take 300 by rw[<-hk,List.length_take,<-List.take_eq_take_min]]at hb;exact hb);have E4:k<=300:=by rw[<-hk];exact List.length_take_le _ _
 have HV:k<=cd:=by rw[List.length_take]at hk;omega
 have Bu: (300<D0.length/\k=300)\/(¬300<D0.length/\D0.length=k):=by rw[List.length_take]at hk;omega
 generalize hD:D0.take 300=D at*;have HK:=Lib.hid (⟨hk,E4⟩:_/\_);clear hw1 hH hR hl hE hd hk E4 hD;rcases Bu with⟨h3,rfl⟩|⟨h3,h4⟩
 case' inl=>have By: (300:Int)<(D0.length:Int):=(by omega);go_enter func3,ntmps3;(go_upto_region 3 with fail);obtain⟨vd,Aa⟩:=ex (Value.slice Ad 300 cd);rw[Aa]at AR|-;generalize(Value.slice Ad (D0.length:Nat) cd)=dm1;generalize(i6 (D0.length:Int))=dm2;generalize(Value.bool true)=dm3;clear Aa By
 case' inr=>rw[h4]at h3|-;have By:¬(300:Int)<(k:Int):=(by omega);go_enter func3,ntmps3;(go_upto_region 3 with fail);obtain⟨vd,Aa⟩:=ex (Value.slice Ad k cd);rw[Aa]at AR|-;clear Aa h4 By
 all_goals
  clear h3 HV HT HU;(go_wp2_with fail);refine HM.a.mono ?_;rintro e w1 ⟨c,f,g,t,v1,v2,rfl,o,E5⟩;have Z1:=jb o E5;obtain⟨sm,Aw,E6⟩:=o.sl;have C4:=xE o.mT o.fit o.age.1 (oa o.age.2) (m2 sm) (tm Aw).1 E6 (tm Aw).2.1 FN uf;rw[sE]at C4;have E7:=ja C4;have E8:=ja Aw;clear o E5 E6 C4 Aw;(go_wp2_with fail);refine E7.a.mono ?_;rintro e w2 ⟨rfl,hC⟩;obtain⟨c2,fd,fl,hS,E9⟩:=Z1.a.created E8.a Z1.b hC.ok;have Z2:=jb hS E9;have CC:=lY hS.mT FN uf (hS.has.find sj).1 (hS.has.find sj).2 2 (.inr rfl);rw[sE]at CC;have A6:=ja CC;clear hS E9 hC CC E7;(go_wp2_with fail);refine A6.a.mono ?_;rintro e w3 ⟨rfl,hC⟩;obtain⟨c3,hS,-⟩:=Z2.a.calm hC;have Ae:=hS.wZ;have B6:Bs w3 w3.heap.size vd D:=(AR.a.ext lh Ae).more Ae.size;have EC:=xx hS.mT hS.fit hS.age.1 (oa hS.age.2) hS.d (List.length_eq_zero_iff.1 hS.vs) vd D B6 (λh0 b hb=>by obtain⟨A1,k1,rfl,_,_,h4⟩:=AR.a.open_;obtain⟨b',off,rfl,EK,_⟩:=h4 0 h0;obtain rfl:b'=b:=(by injection hb);exact hS.own _ EK) (oa HK.out);have EX:=ja EC;have Z3:=ja hS;clear hS hC Ae B6 EC A6;(go_wp2_with fail);refine EX.a.mono ?_;rintro e w4 ⟨rfl,hC⟩;obtain⟨c4,HY,p4,hS⟩:=Z3.a.written (oa HK.out) hC;have F':=j0 hS.mT (by rw[hS.ar];decide);have Ah:=ja F';have Z4:=ja hS;clear hS hC F' EX;(go_wp2_with fail);refine Ah.a.mono ?_;rintro e w5 ⟨rfl,hC⟩;obtain⟨c5,hS,-⟩:=Z4.a.calm hC;have Z5:=ja hS;clear hS hC Ah;(go_upto_region 10 with fail);have HL:=ja (show L1 w D g 0 (.slice (some ⟨w5.heap.size,0,none⟩) 1 1) (w5.alloc (.cells #[.string {data:=#[47,102,105,114,115,116]}] 9))from by have hS:=Z5.a;have Ao:=hS.mT.mN.lt;have HZ:=hS.wZ.size;have hb:=(Below.refl w5.heap.size w5).alloc lh (.cells #[.string {data:=#[47,102,105,114,115,116]}] 9);refine⟨c5,fd,HY,_,t,[FN],(hS.below hb).mono om,Row.first (q:=w5.heap.size) (ak.new w5 9 _) (hS.mT.du.hi _ lh) om HZ,by simp,by decide⟩);generalize(Value.slice (some ⟨w5.heap.size,0,none⟩) 1 1)=row0 at*;generalize(w5.alloc (.cells #[.string {data:=#[47,102,105,114,115,116]}] 9))=w6 at*;clear HM Z1 Z2 Z3 Z4 Z5 E8;(go_upto_region 11 with fail);(go_loopw [12,13,14,15] (λs i _ _ wr=>∃k:Nat,k<=9/\i=i6 (k:Int)/\L1 w D g k s wr) (λ_ i _ _ _=>9-(intOf i).toNat));case atStart=>exact⟨0,by decide,rfl,HL.a⟩
  case round=>
   clear HL;obtain⟨k1,F0,rfl,hL⟩:=hrel;have HL:=ja hL;clear hL;by_cases hA:k1<l0.length/\k1<9
   ·obtain⟨Hw,K6⟩:=hA;obtain⟨cr,F1,Ax,Lr,tr,R,hS,B7,F2,F3⟩:=HL.a;obtain⟨b,off,rfl,K7,h0⟩:=(HE.a.below hS.wZ) k1 Hw;have A7: (k1:Int)<(l0.length:Int):=(by omega);have F4: (k1:Int)<9:=(by omega);have ZL:=jd hS B7 F2 F3;clear hS B7 F2 F3 HL;generalize l0.getD k1 []=y at*;have Ao:=dX y;have hx:=nL y 60;by_cases F5:60<y.length
    case' pos=>have h1: (60:Int)<(y.length:Int):=(by omega);obtain⟨S,A8⟩:=ex (⟨y.toArray⟩:ByteArray);rw[A8]at h0 Ao hx;have h2: (60:Int)<=(y.length:Int):=(by omega);obtain⟨z,hz⟩:=ex (y.take 60);rw[hz]at hx;have F6:z.length<1099511627776:=(by rw[<-hz,List.length_take];omega);have B':=ja (λW=>zM z W F6);clear A8 F5 hz F6;go_upto_region 16 with fail
    case' neg=>have h1:¬(60:Int)<(y.length:Int):=(by omega);obtain⟨S,A8⟩:=ex (⟨y.toArray⟩:ByteArray);rw[A8]at h0 Ao;have F7:y.length<1099511627776:=(by omega);have B':=ja (λW=>zM y W F7);rw[A8]at B';clear A8 F5 F7 hx;(go_upto_region 16 with fail);obtain⟨z,hz⟩:=ex y;rw[hz]at B'
    all_goals
     (go_wp2_with fail);refine(B'.a _).mono ?_;rintro e x1 ⟨rfl,F8⟩;have A':=Tl.IQ z;obtain⟨s,hs⟩:=ex (Tl.fit z);rw[hs]at A'|-;have FZ:=ja A';clear A' hs;have G1:s.length<=60:=(by have:=((Tl.e_ s).1 FZ.a).2.2.1;omega);have G2:¬9223372036854775807<1+s.length:=(by omega);(go_upto_region 17 with fail);rw[show({data:=#[47]}:ByteArray)++{data:=s.toArray}={data:=(eG s).toArray}from rF [47] s];have B0:=ja ((ZL.a.below F8).gY om ZL.c (oa ZL.d) FZ.a);obtain⟨ps,A0⟩:=ex ({data:=(eG s).toArray}:ByteArray);rw[A0]at B0|-;have AI:=ja A0;clear A0 G1 G2;(try clear hz);(go_wp2_with fail);refine B0.a.mono ?_;rintro e x2 ⟨z7,G5,B8,B9,G7,Im,rfl,U,Cd,J1⟩;have I:=(ZL.b.ops (gI.below F8 cr)).ops Cd;rcases J1 with⟨rfl,J⟩|⟨rfl,J⟩
     ·have hN:=ja (show L1 w D g (k1+1) u12 x2 from⟨G5,B8,B9,G7,tr,Im,U.mono om,by rw[J];exact I,by rw[J];exact ZL.c,by have:=ZL.d;rw[J];omega⟩);clear U Cd I B0 ZL h0 Ao J;(go_wp2_with fail);go_roundw;case rel=>exact⟨k1+1,by omega,by go_num,hN.a⟩
      case measure=>exact ms
     ·obtain⟨v2,wb,Aq,G8,H0⟩:=U.append I HW.a (oa ZL.d) (s:=s) rfl rfl;have hN:=ja (show L1 w D g (k1+1) v2 wb from⟨G5,B8,B9,G7,tr,R++[s],by rw[<-J];exact G8.mono om,H0,List.mem_append_left _ ZL.c,by have:=ZL.d;rw[List.length_append];show R.length+1<=_;omega⟩);rw[AI.a]at Aq;have BB:=ja Aq;clear U Cd I B0 ZL h0 Ao J G8 H0 Aq;(go_wp2_with(at_builtin;refine bT ?_));refine aN rfl _ _ 22 rfl rfl rfl BB.a ?_;clear BB;(go_wp2_with fail);go_roundw;case rel=>exact⟨k1+1,by omega,by go_num,hN.a⟩
      case measure=>exact ms
   ·obtain⟨A2,cc,R,rfl,J2,K4,H2⟩:=HL.a.two (tn:=tn) F0;have H3:=ja H2;clear HL H2;by_cases B1:k1<l0.length
    case' pos=>have A7: (k1:Int)<(l0.length:Int):=(by omega);have F4:¬(k1:Int)<9:=by omega
    case' neg=>have A7:¬(k1:Int)<(l0.length:Int):=by omega
    all_goals
     (go_upto_region 23 with fail);clear A7;(try clear F4);clear B1 hA HR HS Bt HE F0;(go_loopw [16] (λi wr=>∃k2:Nat,k2<=R.length/\i=i6 (k2:Int)/\L2 w D g tn (.slice A2 R.length cc) R k2 wr) (λi _=>R.length-(intOf i).toNat));case atStart=>exact⟨0,Nat.zero_le _,rfl,H3.a⟩
     case round=>
      clear H3;obtain⟨k2,K5,rfl,hL⟩:=hrel;rcases hL with⟨H4,cr,F1,Ax,Lr,tr,hS,hR⟩|⟨J3,cr,F1,Lr,tr,hF,H5⟩
      ·obtain⟨A3,K8,eA,H6⟩:=hR.at_;injection eA with Jx _ K0;subst Jx K0;have B2: (k2+tn)%R.length<R.length:=Nat.mod_lt _ J2;obtain⟨b,off,rfl,EK,h0⟩:=H6 _ B2;have B3:=Lk.C8 R tn k2 H4;obtain⟨s,hs⟩:=ex (R.getD ((k2+tn)%R.length) []);rw[hs]at h0 B3;have HH:=ja hs;rw[B3]at hS;have Z:=jc hS hR B3;have A7: (k2:Int)<(R.length:Int):=(by omega);have K9: (R.length:Int)≠0:=(by omega);clear hs B3 hS hR H6;(go_upto_region 26 with fail);obtain⟨j,hj⟩:=ex ((k2+tn)%R.length);rw[show((k2:Int)+(tn:Int))%(R.length:Int)=(j:Int) by rw[<-hj];simp];rw[hj]at h0 B2 HH;have KA: (j:Int)<(R.length:Int):=(by omega);have A':=Z.a.has.name List.mem_cons_self;have Ar:=Z.a.has.find List.mem_cons_self;have HN:=jc A' Ar.1 Ar.2;have Co:=ja (BK Z.a.mT s A' Ar.1 Ar.2);clear hj A' Ar A7;obtain⟨ps,A0⟩:=ex ({data:=(eG s).toArray}:ByteArray);rw[A0]at Co h0;have AI:=ja A0;clear A0;(go_wp2_with fail);refine Co.a.mono ?_;rintro e x1 ⟨rfl,hC⟩;obtain⟨B4,H7,H9⟩:=Z.a.calm hC;have HA:=Z.b.ops H9;obtain⟨xs,As⟩:=ex ((i6 2:Value)::Ax.x.cells);rw[As];have HB:xs.length=24:=(by rw[<-As];rfl);have B1:∀v∈xs,v.oneCell'=true:=by
        rw[<-As];intro v hv;rcases List.mem_cons.1 hv with rfl|hv
        ·rfl
        ·exact dv _ v hv
       have B5:xs[2]? =some (i6 Ax.ar):=(by rw[<-As];rfl);have HX:=jc HB B1 B5;have Z1:=jb H7 HA;clear As hC H7 HA H9 Co h0 HB B1 B5;(go_upto_region 27 with(refine bE rfl 43 (.tmp 18) (.tmp 120) rfl xs rfl rfl (by rw[HX.a];exact Nat.le_of_eq kj) rfl (by rw[HX.a];kernel_rfl) HX.b ?_));obtain⟨arr,BO,BQ⟩:∃arr:Array Value,#[i6 0,i6 0,i6 0,i6 0,i6 0,i6 0,i6 0,.int .u32 0,i6 0,.int .u32 0,i6 0,.int .u32 0,i6 0,.int .u32 0,i6 0,.int .u32 0,i6 0,.int .u32 0,i6 0,.int .u32 0,i6 0,.int .u32 0,i6 0,.int .u32 0]=arr/\arr.size=24:=⟨_,rfl,rfl⟩;rw[BO];obtain⟨q,hq⟩:=ex x1.heap.size;obtain⟨x2,e2,kq,b2⟩:=Dm x1 43 arr xs q hq (by rw[BQ,HX.a]);rw[hq,e2];have U:=Z1.a.below b2;have O2:gI tr x1 B4 x2 B4:=gI.below b2 B4;have I:=Z1.b.ops O2;have HC:Kp x2 B4 tr q 43 xs:=⟨kq,Z1.a.mT.du.hi _ (Nat.le_of_eq hq),λe=>by have:=Z1.a.mT.mN.lt;omega⟩;have A6:=ja (lY U.mT s HN.a HN.b HN.c 1 (.inl rfl));rw[AI.a]at A6;have h0:=I.cell B2 HH.a AI.a;have Z2:=jc U I HC;clear BO BQ hq e2 kq b2 U O2 I HC Z1;(go_wp2_with fail);refine A6.a.mono ?_;rintro e x3 ⟨rfl,hC⟩;obtain⟨KC,A4,O3⟩:=Z2.a.calm hC;have Z3:=jc A4 (Z2.b.ops O3) (Z2.c.ops O3);have HD:=ja (BF A4.mT (by rw[A4.vs,A4.d]) (by rw[A4.d];exact A4.dl));clear hC A4 O3 Z2 A6 h0;(go_wp2_with fail);refine HD.a.mono ?_;rintro e x4 ⟨Ab,kb,p4,rfl,Au,hC⟩;obtain⟨KD,A5,O4⟩:=Z3.a.calm hC;have hD:=A5.d;rw[hD]at Au|-;have HF:Bs x4 x4.heap.size (.slice Ab D.length kb) D:=Bs.aG Au;have Bg:Bs x4 w.heap.size vd D:=AR.a.ext lh A5.wZ;have Z4:=jc A5 (Z3.b.ops O4) (Z3.c.ops O4);obtain⟨S,D3⟩:=ex ({data:=D.toArray}:ByteArray);have K1: (convert 23 9 (.slice Ab D.length kb)).run prog x4=.ok (.string S) x4:=(by rw[<-D3];exact gR HF 23 9 5 underlying23 underlying5 underlying9);have K2: (convert 23 9 vd).run prog x4=.ok (.string S) x4:=(by rw[<-D3];exact gR Bg 23 9 5 underlying23 underlying5 underlying9);have HG:Ax.ar=(R.length:Int)-(k2:Int):=(by rw[A5.ar,List.length_cons,Lk.jE];omega);have Ah:=ja (j0 A5.mT (by rw[A5.ar,List.length_cons];omega));have B5:x4.cell? (ae q 2)=some (i6 ((R.length:Int)-(k2:Int))):=(by rw[<-HG];exact(Z4.c.blk.cell 2).trans HX.c);generalize Value.slice Ab D.length kb=bb at*;clear hD Au hC A5 O4 HF Bg D3 HG Z3 HD;(go_wp2_with fail);refine Ah.a.mono ?_;rintro e x5 ⟨rfl,hC⟩;obtain⟨KE,D5,O5⟩:=Z4.a.calm hC;have Dv:=Z4.b.ops O5;have h0:=Dv.cell B2 HH.a AI.a;have E1:=ja (D5.ld om (by rw[Lk.jE];omega));rw[AI.a]at E1;have Z5:=jb D5 Dv;clear hC D5 O5 Dv Z4 Ah B5 K1 K2;(go_wp2_with fail);refine E1.a.mono ?_;rintro e x6 ⟨rfl,hC⟩;have K3:=ja (L2.next Z5.a om Z5.b H4 hC);clear hC Z5 E1 h0;(go_wp2_with fail);go_roundw;case rel=>exact⟨k2+1,by omega,by go_num,K3.a⟩
       case measure=>exact ms
      ·subst J3;have A7:¬(R.length:Int)<(R.length:Int):=(by omega);have Z:=jb hF H5;have HI:=ja (yA hF.du);have HO:=ja (DL hF.x0);clear hF H5;(go_wp2_with fail);refine HO.a.mono ?_;rintro e x1 ⟨rfl,rfl⟩;clear HO;(go_wp2_with fail);refine HI.a.mono ?_;rintro e x2 ⟨A9,k9,rfl,b2⟩;have Av:=Z.b.trans (b2.mono Z.b.size);have HP:a7 x2:=λk hk=>cl Av (by show 1<w.heap.size;exact HW.a) (HW.b k hk);have I:nW x2:=λk n hn=>cl Av (by show 0<w.heap.size;exact Nat.lt_trans Nat.zero_lt_one HW.a) (HW.c k n hn);have HQ:=ja (B_ (Nat.lt_of_lt_of_le HW.a Av.size) HP I);have Z2:=ja Av;clear b2 Av HP I HI;(go_wp2_with fail);refine HQ.a.mono ?_;rintro e x3 ⟨rfl,b3⟩;have Z3:=ja (Z2.a.trans (b3.mono Z2.a.size));clear b3 HQ;(go_wp2_with fail);go_ret;exact⟨rfl,Z3.a⟩
end
end Co
section
open Go.RowKit Go.ChangeShapes Go.WideShapes Go.ChangeAt
theorem AA {T:Type} (dec:T->List Value) {k:Nat} (hd:∀z,(dec z).length=k):∀(l:List T) (j:Nat) (u:Value),(l.flatMap dec)[j]? =some u->∃(i r:Nat) (z:T),j=i*k+r/\r<k/\l[i]? =some z/\(dec z)[r]? =some u
 |[],j,u,h=>by simp at h
 |z::l,j,u,h=>by
  rw[List.flatMap_cons]at h;by_cases I:j<k
  ·rw[List.getElem?_append_left (by rw[hd];exact I)]at h;exact⟨0,j,z,by omega,I,rfl,h⟩
  ·rw[List.getElem?_append_right (by rw[hd];omega),hd]at h;obtain⟨i,r,y,o,J,R,U⟩:=AA dec hd l (j-k) u h;refine⟨i+1,r,y,?_,J,R,U⟩;rw[Nat.add_mul,Nat.one_mul];omega
theorem vZ {T:Type} (dec:T->List Value) {k:Nat} (hd:∀z,(dec z).length=k):∀l:List T,(l.flatMap dec).length=l.length*k
 |[]=>by simp
 |z::l=>by rw[List.flatMap_cons,List.length_append,hd,vZ dec hd l,List.length_cons,Nat.add_mul,Nat.one_mul];omega
theorem xV {T:Type} (n:Nat) (p:Nat->T->Prop) (h:∀i,i<n->∃z,p i z):∃l:List T,l.length=n/\∀i z,l[i]? =some z->p i z:=by
 induction n with
 |zero=>exact⟨[],rfl,λi z J=>by simp at J⟩
 |succ n ih=>
  obtain⟨l,R,U⟩:=ih λi hi=>h i om;obtain⟨z,J⟩:=h n om;refine⟨l++[z],by simp[R],λi y I=>?_⟩;by_cases hi:i<l.length
  ·rw[List.getElem?_append_left hi]at I;exact U i y I
  ·rw[List.getElem?_append_right om]at I;by_cases j:i-l.length=0
   ·rw[j]at I;simp at I;subst I;rw[show i=n by omega];exact J
   ·rw[List.getElem?_eq_none (by simp;omega)]at I;cases I
section
variable {H:Type} {enc:TypeId×Value->H} {P:Program} {W:World} {base b0:Nat} {r:Reach}
theorem Cj {T:Type} (dec:T->List Value) (Good:T->Prop) {t e k fuel:Nat} {v:Value} {x:DataW H×List MemPlace} (ht:P.underlying t=some (.slice e)) (ce:P.cellsOf e=k) (hk:0<k) (hd:∀z,(dec z).length=k)
 (el:∀(n:Nat) (cs:List Value) (y:DataW H×List MemPlace),DataW.trod enc P W base (λ_=>true) true n e cs=some y->cs.length=k->∃z,cs=dec z/\Good z)
 (h:DataW.trod enc P W base (λ_=>true) true fuel t [v]=some x):∃l:List T,bw W W.heap.size k v l.length (l.flatMap dec)/\∀z∈l,Good z:=by
 rcases Go.Deep.open_slice ht h with⟨I,_⟩|⟨a,len,cap,m,n,D,Pl,I,hb,hl,hm,R,hx,hi⟩
 ·simp only[List.cons.injEq,and_true]at I;subst I;exact⟨[],bw.fp _ _ _,by simp⟩
 ·simp only[List.cons.injEq,and_true]at I;subst I;simp only[if_true]at R;subst R;obtain⟨l,U,J⟩:=xV len (λi z=>Good z/\∀j u,(dec z)[j]? =some u->W.cell? ((a.add (i*k)).add j)=some u) (λi hil=>by obtain⟨A4,hc,A'⟩:=hi i om;rw[ce]at hc;obtain⟨_,A0,A1⟩:=World.cells?_some hc;obtain⟨z,o,hg⟩:=el _ _ _ A' A0;refine⟨z,hg,λj u hu=>?_⟩;have hj:j<k:=(by have:=(List.getElem?_eq_some_iff.1 hu).1;rw[hd]at this;exact this);rw[A1 j hj,o,hu]);refine⟨l,⟨some a,m,by rw[U],by rw[U];exact hl,hm,vZ dec hd l,λhn=>?_⟩,λz o=>?_⟩
  ·obtain⟨b,off,spot⟩:=a;have A2:∃z,l[0]? =some z:=⟨l[0],List.getElem?_eq_getElem hn⟩;obtain⟨z,o⟩:=A2;have h0:=(J 0 z o).2 0 ((dec z)[0]'(by rw[hd];exact hk)) (List.getElem?_eq_getElem _);obtain rfl:spot=none:=(by simpa [Addr.add]using qQ h0);refine⟨b,off,rfl,World.block_lt_of_cell? W _ (by simpa [Addr.add]using h0),λj u hu=>?_⟩;obtain⟨i,q,y,rfl,_,hy,hq⟩:=AA dec hd l j u hu;have:=(J i y hy).2 q u hq;rw[add_plain,add_plain]at this;rw[<-Nat.add_assoc];exact this
  ·obtain⟨i,A3⟩:=List.mem_iff_getElem?.1 o;exact(J i z A3).1
theorem vm {d:Nat} {t:TypeId} {fuel:Nat} {cs:List Value} {x:DataW H×List MemPlace} {spare:Nat->Bool} {held:Bool} (h:DataW.trod enc P W base spare held fuel t cs=some x) {j:Nat} {ty:TypeId} (hp: (j,ty)∈iu P d 0 t) (hu:P.underlying ty=some .string):
 ∃s,cs[j]? =some (.string s):=by
 obtain⟨_,n,y,I,J,R⟩:=Ig d t fuel cs x 0 h _ hp;obtain⟨s,U,_⟩:=DataW.trod_string hu J;refine⟨s,?_⟩;have:=R 0 (.string s) (by rw[U];rfl);simpa using this
end
end
section
open Go.ChangeShapes Go.WideShapes Go.ChangeAt Go.RowKit
theorem Ng:prog.globalNamed "haymow/crc.halves" =some 1:=by kernel_rfl
theorem EW: (prog.globals[1]?).map (·.type)=some 251:=by kernel_rfl
theorem Dp:prog.cellsOf 251=16:=by kernel_rfl
theorem Gm:prog.cellsOf 36=1:=by kernel_rfl
theorem JI:prog.globalNamed "haymow/reach.reaches" =some 0:=by kernel_rfl
theorem C7: (prog.globals[0]?).map (·.type)=some 190:=by kernel_rfl
theorem CL:prog.cellsOf 190=9:=by kernel_rfl
theorem JW:prog.cellsOf 3=1:=by kernel_rfl
theorem sA {P:Program} {x:String×DataW Unit} {r:List (String×DataW Unit)} {W:World} (h:laidMet P (x::r) W):laidMet P r W:=by obtain⟨n,d⟩:=x;obtain⟨ps,⟨g,t,cs,fuel,p,q,_,_,_,_,J,rfl⟩,I,R⟩:=h;exact⟨q,J,(List.nodup_append.1 I).2.1,λb off hm=>R b off (List.mem_append_right _ hm)⟩
theorem ra {W:World} (h:laidMetH prog Rows.haymowLinksRow.laid W):a7 W:=by
 have J:Lib.TabIs prog W "haymow/crc.halves" .u32 [0,274646895,549293790,820201905,1098587580,1361435347,1640403810,1905808397,2197175160,2460548119,2722870694,2987750089,3280807620,3553878443,3811616794,4084100981]:=Lib.tabIs_of_head (rest:=[("haymow/reach.reaches",Rows.laid_haymow_reach_reaches)]) Ng EW underlying251 underlying36 Gm Dp h;intro k I;have R:=J.cell Ng k I;rw[R];have:∀k:Fin 16,[(0:Int),274646895,549293790,820201905,1098587580,1361435347,1640403810,1905808397,2197175160,2460548119,2722870694,2987750089,3280807620,3553878443,3811616794,4084100981].getD k 0=(Crc.half k:Nat):=by decide
 rw[this ⟨k,I⟩]
theorem J0 {W:World} (h:laidMetH prog Rows.haymowLinksRow.laid W):Co.nW W:=by
 have J:laidMet prog [("haymow/crc.halves",Rows.laid_haymow_crc_halves),("haymow/reach.reaches",Rows.laid_haymow_reach_reaches)] W:=h;have R:Lib.TabIs prog W "haymow/reach.reaches" .i64 [1,1,1,1,1,1,15,225,3375]:=Lib.tabIs_of_head (rest:=[]) JI C7 underlying190 underlying3 JW CL (sA J);intro k n I;have U:k<9:=by have:=(List.getElem?_eq_some_iff.1 I).1;exact this
 rw[R.cell JI k U,List.getD_eq_getElem?_getD,show [1,1,1,1,1,1,15,225,3375]=Co.FO from rfl,I];rfl
theorem LU {W:World} (h:a7 W):1<W.heap.size:=World.block_lt_of_cell? W _ (h 0 dc)
def N9:Obj->Obj
 | .cells _ t frozen=>.cells #[.int .u32 0,.int .u32 274646895,.int .u32 549293790,.int .u32 820201905,.int .u32 1098587580,.int .u32 1361435347,.int .u32 1640403810,.int .u32 1905808397,.int .u32 2197175160,.int .u32 2460548119,.int .u32 2722870694,.int .u32 2987750089,.int .u32 3280807620,.int .u32 3553878443,.int .u32 3811616794,.int .u32 4084100981] t frozen
 |o=>o
def Oc:Obj->Obj
 | .cells _ t frozen=>.cells #[i6 1,i6 1,i6 1,i6 1,i6 1,i6 1,i6 15,i6 225,i6 3375] t frozen
 |o=>o
noncomputable def mQ (os:Os):World:={World.holding prog os ⟨#[],#[],[]⟩with heap:=((World.holding prog os ⟨#[],#[],[]⟩).heap.modify 1 N9).modify 0 Oc}
def H8 (s:List UInt8):List Value:=[.string ⟨s.toArray⟩]
theorem Bl (l:List (List UInt8)):l.flatMap H8=PaW.strs l:=by
 unfold PaW.strs;induction l with
 |nil=>rfl
 |cons x l ih=>rw[List.flatMap_cons,ih];rfl
section
variable {H:Type} {enc:TypeId×Value->H} {W:World} {base:Nat} {r:Reach} {b0:Nat}
theorem BW {held:Bool} {spare:Nat->Bool} {fuel:Nat} {cs:List Value} {x:DataW H×List MemPlace} (h:DataW.trod enc prog W base spare held fuel 9 cs=some x) (hl:cs.length=1):∃y:List UInt8,cs=H8 y:=by
 obtain⟨s,hs⟩:=vm (d:=0) (j:=0) (ty:=9) h (by decide+kernel) underlying9;refine⟨s.data.toList,?_⟩
 match cs,hl with
 |[a],_=>simp only[List.getElem?_cons_zero,Option.some.injEq]at hs;subst hs;cases s;simp[H8]
theorem r_ {v:Value} {d:DataW H} {ps:List MemPlace} (hv:Value.okWide prog W r b0 22 v) (h:DataW.Trod enc prog W base (λ_=>true) true 22 v d ps):
 ∃l:List (List UInt8),PaW.fy W W.heap.size v l:=by
 obtain⟨a0,I,J,rfl⟩:=okWide_slice underlying22 hv;obtain⟨n,h⟩:=h;have R: (Value.slice a0 I J).cells.toList=[.slice a0 I J]:=rfl;rw[R]at h;obtain⟨l,U,_⟩:=Cj H8 (λ_=>True) underlying22 (k:=1) kj dc (λ_=>rfl) (λn cs y h hl=>by obtain⟨z,j⟩:=BW h hl;exact⟨z,j,trivial⟩) h;rw[Bl]at U;exact⟨l,U⟩
end
theorem jL (H:Type) (enc:TypeId×Value->H) (W:World) (base:Nat) (args:Array Value) (ds gs:List (DataW H)) (before:List MemPlace)
 (hval:∀(j:Nat) t v,f3.params[j]? =some t->args[j]? =some v->Value.okWide prog W .any base t v)
 (hW:DataW.Whole enc prog f3.params.toList Rows.haymowLinksSpec.vars false W args.toList ds gs before) (hL:laidMetH prog Rows.haymowLinksRow.laid W):
 Calls prog 3 args W λe W'=>∃v,e=.returned v/\Rows.haymowLinksSpec.post enc prog f3 false true false false W args v W':=by
 have R:=hW;obtain⟨p,q,I,hV,A',A0,A1⟩:=hW;have o:DataW.TrodAll enc prog W 0 (λ_=>true) true f3.params.toList args.toList ds p:=I;rw[params3]at o hval;obtain⟨v0,A2,d0,A3,p0,q0,U,rfl,rfl,h0,r0⟩:=trodAll_cons o;obtain⟨v1,A4,d1,A5,p1,q1,rfl,rfl,rfl,h1,r1⟩:=trodAll_cons r0;obtain⟨v2,A6,d2,A7,p2,q2,rfl,rfl,rfl,h2,r2⟩:=trodAll_cons r1;obtain⟨rfl,rfl,rfl⟩:=trodAll_nil r2;obtain rfl:args=#[v0,v1,v2]:=by cases args;simp_all
 obtain⟨rfl,rfl⟩:=trodVars_none hV;obtain⟨l0,b0⟩:=r_ (hval 0 22 v0 rfl rfl) h0;obtain⟨l1,b1⟩:=xT underlying23 underlying5 Mj (hval 1 23 v1 rfl rfl) h1;obtain⟨z2,rfl,rfl,rfl,J⟩:=open_int underlying5 (hval 2 5 v2 rfl rfl) h2;obtain⟨n2,rfl⟩:=Int.eq_ofNat_of_zero_le (wf_u8 J).1;clear I;refine(Co.Ce v0 v1 l0 l1 n2 (oa (wf_u8 J)) b0 b1 (LU (ra hL)) (ra hL) (J0 hL)).mono λe W' ⟨he,hb⟩=>?_;subst he;exact⟨_,rfl,FU laidOut (by rw[params3];decide+kernel) rfl underlying4 rfl rfl R hb⟩
theorem nA (os:Os):laidMet prog Rows.haymowLinksRow.laid ((mQ os).forCall (λ_ _=>0) ⟨#[],#[.slice none 0 0,.slice none 0 0,.int .u8 0],[]⟩).memory:=laidMet_of_run' 8 kj kj
theorem lN (os:Os) {H:Type} (enc:TypeId×Value->H):∃places,DataW.whole enc prog ((mQ os).forCall (λ_ _=>0) ⟨#[],#[.slice none 0 0,.slice none 0 0,.int .u8 0],[]⟩).memory f3.params.toList Rows.haymowLinksSpec.vars false (#[.slice none 0 0,.slice none 0 0,.int .u8 0]:Array Value).toList 8=some ([.nil,.nil,.lit (.int .u8 0)],[],places):=⟨[],by kernel_rfl⟩
theorem kV (os:Os) (started:os.Started) (H:Type) (enc:TypeId×Value->H) (F:Stop.Interp):
 ReturnsInHanded {} Tryz.checked os 3 .any ((OpenSpec.ofChange Rows.haymowLinksSpec).preRow enc prog f3 Rows.haymowLinksRow.domain false Rows.haymowLinksRow.laid) (((OpenSpec.ofChange Rows.haymowLinksSpec).at F).post enc prog f3 false true false false):=by
 obtain⟨places,hx⟩:=lN os enc;refine returnsInHanded_of_row (C:=Tryz.checked) (s:=OpenSpec.ofChange Rows.haymowLinksSpec) own started kj func3
  (witness_row_at (enc:=enc) (C:=Tryz.checked) false (mQ os) #[.slice none 0 0,.slice none 0 0,.int .u8 0] rfl kj kj kj
   (OpenSpec.preRow_of_cond 8 hx kj (λk J=>by cases J) kj (nA os))) ?_
 intro W base args R gs before I U _ _ _ j _ _;exact jL H enc W base args R gs before I U j
theorem qg: (Rows.haymowLinksRow.inPlace==Tryz.pinned.checked.prog.inPlace 3)=true:=by kernel_rfl
theorem mw: (Rows.haymowLinksRow.unfollowed==Tryz.pinned.checked.prog.unfollowed 3)=true:=by kernel_rfl
theorem n_: (Rows.haymowLinksRow.recurses==Tryz.pinned.checked.prog.recurses 3)=true:=by kernel_rfl
theorem wk: (Rows.haymowLinksRow.named==Tryz.pinned.checked.prog.varsNamed 3)=true:=by kernel_rfl
theorem ux:joinedFacts Tryz.pinned.checked.prog 3 f3 (OpenSpec.ofChange Rows.haymowLinksSpec).bare Rows.haymowLinksRow=true:=by unfold joinedFacts;rw[qg,mw,n_,wk];kernel_rfl
theorem mo:Rows.HaymowLinksSaid:=
 OpenClaim.holds_of_cond 3 f3 rfl rfl rfl rfl rfl rfl rfl ⟨rfl,rfl,rfl,rfl,rfl⟩ rfl rfl rfl rfl rfl kj func3 ux
  (of_decide_eq_true kj) (by unfold Func.isWrapper;first|(rw[if_pos (by decide+kernel)];kernel_rfl)|(rw[if_neg (by decide+kernel)];exact⟨rfl,rfl⟩))
  (λos started H enc _ F=>by rw[OpenClaim.pre_eq_preRow];exact kV os started H enc F)
theorem lI (f:FuncId) (fn:Func) (hf:Tryz.pinned.checked.prog.funcNamed "haymow/haymowtop.HaymowLinks" =some f) (hfn:Tryz.pinned.checked.prog.funcs[f]? =some fn):
 true=Tryz.pinned.checked.prog.looks []/\∀(j:Nat) t,fn.params[j]? =some t->Tryz.pinned.checked.prog.wantsStandIn t=false:=by
 obtain rfl:f=3:=Option.some.inj ((show prog.funcNamed "haymow/haymowtop.HaymowLinks" =some 3 by kernel_rfl).symm.trans hf) |>.symm;obtain rfl:fn=f3:=(Option.some.inj (func3.symm.trans hfn)).symm;refine⟨by kernel_rfl,λj t J=>?_⟩;rw[params3]at J;have I:∀t∈(f3).params.toList,prog.wantsStandIn t=false:=by rw[params3];decide+kernel
 exact I t (by rw[params3];exact Array.mem_toList_iff.2 (Array.mem_of_getElem? J))
theorem haymowLinks_holds:Rows.HaymowLinksCardSaid:=Claim7.holds_tied_plain_at .later [] _ _ _ _ mo (λ_ h=>by cases h) kj (λ_ h=>by cases h) haymowLinks_row_tie rfl ⟨rfl,rfl⟩ kj rfl lI kj
end
end Go.Proofs.YtdhgejiacehpbaaGreatDoor
